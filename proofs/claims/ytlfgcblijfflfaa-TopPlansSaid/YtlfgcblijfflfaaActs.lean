/- A slice of acts of the call's own: grown; read. -/
import Derived.Test.YtlfgcblijfflfaaProg
import Derived.Test.YtlfgcblijfflfaaOwn
import Derived.Test.YtlfgcblijfflfaaPool
import Derived.Test.YtlfgcblijfflfaaSlices
import Derived.Test.YtlfgcblijfflfaaPlanPlain
namespace Go.Proofs.Ytlfgcblijfflfaa
open Go.RowKit
set_option linter.unusedSimpArgs false
set_option linter.unusedVariables false

section
variable {P : Program} (w : World)
/-- One element of K cells is appended to a row of the call's own. -/
theorem wp_append_a {o : Oper} {a : Act} {KK : Act → World → Prop} {Q : Exit → Act → World → Prop} (s x : Operand) (t : TypeId)
    (ho : o.op = .call { callee := .builtin .append, args := #[s, x], argTypes := #[t, t] }) (K by_ : Nat)
    (base : Nat) (e : TypeId) (i : TypeInfo) (z : Value) (ht : P.underlying t = some (.slice e)) (hi : P.info? e = some i) (hz : i.zero = some z)
    (hsize : i.size = K) (hby : i.bytes = by_) (hzs : z.cells.size = K) (hK : 0 < K)
    (B : Option Addr) (n d : Nat) (xs : List Value) (hs : a.eval s = .slice B n d) (hown : w.ownsRow base e K (.slice B n d) n xs)
    (b : Nat) (news : List Value) (hx : a.eval x = .slice (some ⟨b, 0, none⟩) 1 1) (hl : news.length = K) (hc : ∀ j u, news[j]? = some u → w.cell? ⟨b, j, none⟩ = some u) (h1 : ∀ u ∈ news, u.oneCell' = true)
    (h63 : n + 1 ≤ maxLen) (hbytes : (n + 1) * by_ ≤ 140737488355328) (hbase : base ≤ w.heap.size)
    (h : ∀ B' d' w', w'.ownsRow base e K (.slice B' (n + 1) d') (n + 1) (xs ++ news) → w.grownBy w' (blockOf B) → KK (a.put o.dst (.slice B' (n + 1) d')) w') : o.wp P a w KK Q := by
  have form : ∀ (v' : Value) (w' : World), w'.ownsRow base e K v' (n + 1) (xs ++ news) → ∃ B' d', v' = Value.slice B' (n + 1) d' := fun v' w' h => by
    rcases h.2 with ⟨hv, hn⟩ | ⟨g, cap, cur, hv, _⟩
    · omega
    · exact ⟨_, _, hv⟩
  obtain ⟨v', w', hrun, h2, h3, _, h5⟩ := run_append_own_at (P := P) w base t o.type e i z K by_ ht hi hz hsize hby hzs hK (.slice B n d) n xs hown ⟨b, 0, none⟩ 1 1 news (by rw [hl]; simp) (fun j u hj => by
    have := hc j u hj
    unfold Addr.add
    by_cases h0 : j = 0
    · subst h0; simpa using this
    · simpa [h0] using this) h1 h63 hbytes hbase
  obtain ⟨B', d', rfl⟩ := form v' w' h2
  rw [blockOf_own] at h3
  unfold Oper.wp execOp
  simp only [ho, resolve, invoke, builtin, Sem.run_bind, Sem.run_pure, Result.andThen_ok, List.map_toArray, List.map_cons, List.map_nil, hs, hx, hrun]
  exact h B' d' w' h2 h3
end

/-- An act as it lies: four slices. -/
structure Av where
  A1 : Option Addr
  n1 : Nat
  c1 : Nat
  A2 : Option Addr
  n2 : Nat
  c2 : Nat
  A3 : Option Addr
  n3 : Nat
  c3 : Nat
  A4 : Option Addr
  n4 : Nat
  c4 : Nat
def cellsA (v : Av) : List Value := [.slice v.A1 v.n1 v.c1, .slice v.A2 v.n2 v.c2, .slice v.A3 v.n3 v.c3, .slice v.A4 v.n4 v.c4]
theorem act_info : (Try.prog.info? 58).map (fun i => (i.zero, i.size, i.bytes)) = some (some (.agg #[.slice none 0 0, .slice none 0 0, .slice none 0 0, .slice none 0 0]), 4, 96) := by kernel_rfl
theorem flatA_len (vs : List Av) : (vs.flatMap cellsA).length = vs.length * 4 := by
  induction vs with
  | nil => rfl
  | cons a r ih => rw [List.flatMap_cons, List.length_append, ih]; simp [cellsA]; omega
theorem flatA (vs : List Av) (k j : Nat) (v : Av) (hv : vs[k]? = some v) (hj : j < 4) : (vs.flatMap cellsA)[k * 4 + j]? = (cellsA v)[j]? := by
  induction vs generalizing k with
  | nil => simp at hv
  | cons a r ih =>
    rw [List.flatMap_cons]
    cases k with
    | zero =>
      simp at hv
      subst hv
      rw [List.getElem?_append_left (by simp [cellsA]; omega), Nat.zero_mul, Nat.zero_add]
    | succ k =>
      rw [List.getElem?_append_right (by simp [cellsA]; omega), show (k + 1) * 4 + j - (cellsA a).length = k * 4 + j by simp [cellsA]; omega]
      exact ih k (by simpa using hv)
/-- The four lists, in the call's own rows. -/
def ActO (w : World) (base : Nat) (v : Av) (a : Ac) : Prop :=
  Own 3 w base v.A1 v.n1 v.c1 ((someF a.need).map (Value.int .i64)) ∧ Own 3 w base v.A2 v.n2 v.c2 ((someF a.bar).map (Value.int .i64)) ∧ Own 3 w base v.A3 v.n3 v.c3 ((someF a.add).map (Value.int .i64)) ∧ Own 3 w base v.A4 v.n4 v.c4 ((someF a.drop).map (Value.int .i64))
theorem own_typed {w : World} {base n c g : Nat} {t : TypeId} {A : Option Addr} {xs : List Value} (h : Own 3 w base A n c xs) (hT : Typed t w g) (ne : (3 : TypeId) ≠ t) : blockOf A = none ∨ blockOf A ≠ some g := by
  rcases h.form with ⟨rfl, _⟩ | ⟨g', cur, rfl, _, hh, _⟩
  · exact .inl rfl
  · right
    intro e
    simp [blockOf] at e
    subst e
    obtain ⟨cs, fz, hcs⟩ := hT
    rw [hh] at hcs
    injection hcs with hcs
    injection hcs with _ ht
    exact ne ht
theorem own_kept_t {w w' : World} {base n c : Nat} {t : TypeId} {A : Option Addr} {xs : List Value} {row : Option Nat} (h : Own 3 w base A n c xs) (hg : w.grownBy w' row) (hr : ∀ g, row = some g → Typed t w g) (nt : (3 : TypeId) ≠ t) : Own 3 w' base A n c xs := by
  refine h.kept hg ?_
  cases row with
  | none => by_cases h0 : blockOf A = none
            · exact .inl h0
            · exact .inr h0
  | some g => exact own_typed h (hr g rfl) nt
theorem ActO.keep {w w' : World} {base : Nat} {v : Av} {a : Ac} (h : ActO w base v a) (hb : Below w.heap.size w w') : ActO w' base v a := ⟨h.1.keep hb, h.2.1.keep hb, h.2.2.1.keep hb, h.2.2.2.keep hb⟩
theorem ActO.kept {w w' : World} {base : Nat} {t : TypeId} {v : Av} {a : Ac} {row : Option Nat} (h : ActO w base v a) (hg : w.grownBy w' row) (hr : ∀ g, row = some g → Typed t w g) (nt : (3 : TypeId) ≠ t) : ActO w' base v a := ⟨own_kept_t h.1 hg hr nt, own_kept_t h.2.1 hg hr nt, own_kept_t h.2.2.1 hg hr nt, own_kept_t h.2.2.2 hg hr nt⟩
def ActsO (w : World) (base : Nat) (vs : List Av) (al : List Ac) : Prop := vs.length = al.length ∧ ∀ (k : Nat) (v : Av) (a : Ac), vs[k]? = some v → al[k]? = some a → ActO w base v a
theorem ActsO.keep {w w' : World} {base : Nat} {vs : List Av} {al : List Ac} (h : ActsO w base vs al) (hb : Below w.heap.size w w') : ActsO w' base vs al := ⟨h.1, fun k v a hv ha => (h.2 k v a hv ha).keep hb⟩
theorem ActsO.kept {w w' : World} {base : Nat} {t : TypeId} {vs : List Av} {al : List Ac} {row : Option Nat} (h : ActsO w base vs al) (hg : w.grownBy w' row) (hr : ∀ g, row = some g → Typed t w g) (nt : (3 : TypeId) ≠ t) : ActsO w' base vs al := ⟨h.1, fun k v a hv ha => (h.2 k v a hv ha).kept hg hr nt⟩
theorem ActsO.snoc {w : World} {base : Nat} {vs : List Av} {al : List Ac} {v : Av} {a : Ac} (h : ActsO w base vs al) (hv : ActO w base v a) : ActsO w base (vs ++ [v]) (al ++ [a]) := by
  refine ⟨by simp [h.1], fun k u q hu hq => ?_⟩
  rcases Nat.lt_or_ge k vs.length with hk | hk
  · rw [List.getElem?_append_left hk] at hu
    rw [List.getElem?_append_left (by rw [← h.1]; exact hk)] at hq
    exact h.2 k u q hu hq
  · have hk0 : k = vs.length := by
      have := (List.getElem?_eq_some_iff.1 hu).1
      simp at this
      omega
    subst hk0
    rw [List.getElem?_concat_length] at hu
    rw [h.1, List.getElem?_concat_length] at hq
    cases hu
    cases hq
    exact hv
/-- A slice of acts of the call's own. -/
def OwnAs (w : World) (base : Nat) (B : Option Addr) (n d : Nat) (al : List Ac) : Prop := ∃ vs : List Av, w.ownsRow base 58 4 (.slice B n d) n (vs.flatMap cellsA) ∧ ActsO w base vs al
section
variable {w w' : World} {base n d : Nat} {B : Option Addr} {al : List Ac}
theorem rowA_form {xs : List Value} (h : w.ownsRow base 58 4 (.slice B n d) n xs) : (B = none ∧ n = 0 ∧ d = 0) ∨ ∃ g cur, B = some ⟨g, 0, none⟩ ∧ base ≤ g ∧ w.heap[g]? = some (.cells cur 58 (0, 0)) ∧ n ≤ d ∧ d ≤ maxLen := by
  rcases h.2 with ⟨h2, h3⟩ | ⟨g, cap, cur, h2, h3, h4, h5, h6, h7, h8⟩
  · left
    injection h2 with a1 a2 a3
    exact ⟨a1, h3, a3⟩
  · right
    injection h2 with a1 a2 a3
    subst a3
    exact ⟨g, cur, a1, h3, h4, h5, h6⟩
theorem rowA_typed {xs : List Value} (h : w.ownsRow base 58 4 (.slice B n d) n xs) : ∀ g, blockOf B = some g → Typed 58 w g ∧ base ≤ g := fun g hg => by
  rcases rowA_form h with ⟨rfl, _⟩ | ⟨g', cur, rfl, hb, hh, _⟩
  · cases hg
  · cases hg; exact ⟨⟨_, _, hh⟩, hb⟩
theorem OwnAs.nil (w : World) (base : Nat) : OwnAs w base none 0 0 [] := ⟨[], World.ownsRow_nil _ _ _ _, rfl, by simp⟩
theorem OwnAs.len (h : OwnAs w base B n d al) : al.length = n := by
  obtain ⟨vs, h1, h2, _⟩ := h
  have := h1.1
  rw [flatA_len] at this
  omega
theorem OwnAs.keep (h : OwnAs w base B n d al) (hb : Below w.heap.size w w') : OwnAs w' base B n d al := by
  obtain ⟨vs, h1, h2⟩ := h
  refine ⟨vs, ⟨h1.1, ?_⟩, h2.keep hb⟩
  rcases h1.2 with h3 | ⟨g, cap, cur, hv, hg, hh, r⟩
  · exact .inl h3
  · exact .inr ⟨g, cap, cur, hv, hg, (hb.block g (Array.getElem?_eq_some_iff.1 hh).1).trans hh, r⟩
/-- A block of a third type is written. -/
theorem OwnAs.kept {row : Option Nat} {t : TypeId} (h : OwnAs w base B n d al) (hg : w.grownBy w' row) (hr : ∀ g, row = some g → Typed t w g) (ne : 58 ≠ t) (nt : (3 : TypeId) ≠ t) : OwnAs w' base B n d al := by
  obtain ⟨vs, h1, h2⟩ := h
  refine ⟨vs, World.ownsRow.kept h1 hg ?_, h2.kept hg hr nt⟩
  rw [blockOf_own]
  rcases rowA_form h1 with ⟨rfl, _⟩ | ⟨g', cur, rfl, _, hh, _⟩
  · exact .inl rfl
  · right
    intro e
    obtain ⟨cs, fz, hcs⟩ := hr g' e.symm
    rw [hh] at hcs
    injection hcs with hcs
    injection hcs with _ ht
    exact ne ht
/-- One more. -/
theorem OwnAs.push {B2 : Option Addr} {d2 : Nat} {vs : List Av} {v : Av} {a : Ac} (h1 : w.ownsRow base 58 4 (.slice B n d) n (vs.flatMap cellsA)) (h2 : ActsO w base vs al) (hv : ActO w base v a)
    (ho : w'.ownsRow base 58 4 (.slice B2 (n + 1) d2) (n + 1) (vs.flatMap cellsA ++ cellsA v)) (hg : w.grownBy w' (blockOf B)) : OwnAs w' base B2 (n + 1) d2 (al ++ [a]) := by
  refine ⟨vs ++ [v], by rw [List.flatMap_append]; simpa using ho, ?_⟩
  exact (h2.snoc hv).kept hg (fun g hg' => (rowA_typed h1 g hg').1) (by decide)
/-- The acts, to be read. -/
structure ActAt (w : World) (b k : Nat) (a : Ac) (v : Av) : Prop where
  k0 : w.cell? ⟨b, k * 4, none⟩ = some (.slice v.A1 v.n1 v.c1)
  k1 : w.cell? ⟨b, k * 4 + 1, none⟩ = some (.slice v.A2 v.n2 v.c2)
  k2 : w.cell? ⟨b, k * 4 + 2, none⟩ = some (.slice v.A3 v.n3 v.c3)
  k3 : w.cell? ⟨b, k * 4 + 3, none⟩ = some (.slice v.A4 v.n4 v.c4)
  i0 : Ints w v.A1 v.n1 v.c1 (someF a.need)
  i1 : Ints w v.A2 v.n2 v.c2 (someF a.bar)
  i2 : Ints w v.A3 v.n3 v.c3 (someF a.add)
  i3 : Ints w v.A4 v.n4 v.c4 (someF a.drop)
theorem ActAt.keep {b k : Nat} {a : Ac} {v : Av} (h : ActAt w b k a v) (hb : Below w.heap.size w w') : ActAt w' b k a v :=
  ⟨keepBox hb h.k0, keepBox hb h.k1, keepBox hb h.k2, keepBox hb h.k3, h.i0.keep hb, h.i1.keep hb, h.i2.keep hb, h.i3.keep hb⟩
def ActsR (w : World) (A : Option Addr) (n : Nat) (al : List Ac) : Prop := al.length = n ∧ ∀ (k : Nat) (a : Ac), al[k]? = some a → ∃ b v, A = some ⟨b, 0, none⟩ ∧ ActAt w b k a v
theorem ActsR.keep {A : Option Addr} (h : ActsR w A n al) (hb : Below w.heap.size w w') : ActsR w' A n al := ⟨h.1, fun k a ha => by
  obtain ⟨b, v, e, h2⟩ := h.2 k a ha
  exact ⟨b, v, e, h2.keep hb⟩⟩
theorem some_i64 (z : Nat) : ∀ x ∈ someF z, I64 x := fun x hx => by
  obtain ⟨k, h1, _, rfl⟩ := mem_someI.1 hx
  unfold I64
  omega
theorem OwnAs.read (h : OwnAs w base B n d al) : ActsR w B n al := by
  have hl := h.len
  obtain ⟨vs, h1, h2, h3⟩ := h
  refine ⟨hl, fun k a ha => ?_⟩
  have hk := (List.getElem?_eq_some_iff.1 ha).1
  have hkv : k < vs.length := by omega
  have hv : vs[k]? = some vs[k] := List.getElem?_eq_getElem hkv
  obtain ⟨e1, e2, e3, e4⟩ := h3 k _ _ hv ha
  rcases rowA_form h1 with ⟨_, h0, _⟩ | ⟨g, cur, rfl, hb, hh, hnd, hdm⟩
  · omega
  · have at_ : ∀ j, j < 4 → w.cell? ⟨g, k * 4 + j, none⟩ = (cellsA vs[k])[j]? := fun j hj => by
      have := World.ownsRow.cellAt h1 (k * 4 + j) (by omega)
      rw [flatA vs k j _ hv hj] at this
      exact this
    exact ⟨g, vs[k], rfl, at_ 0 (by omega), at_ 1 (by omega), at_ 2 (by omega), at_ 3 (by omega), e1.ints (some_i64 _), e2.ints (some_i64 _), e3.ints (some_i64 _), e4.ints (some_i64 _)⟩
end
end Go.Proofs.Ytlfgcblijfflfaa
