/- A slice of steps of the call's own, each of which learns a clause: made, grown, read. -/
import Derived.Test.YtlfgcblijfflfaaGreatProg
import Derived.Test.YtlfgcblijfflfaaGreatSteps
import Derived.Test.YtlfgcblijfflfaaGreatOwn
import Derived.Test.YtlfgcblijfflfaaGreatPool
namespace Go.Proofs.YtlfgcblijfflfaaGreat
open Go.RowKit
set_option linter.unusedSimpArgs false

def stepZ : Value := .agg #[.int .i64 0, .slice none 0 0, .slice none 0 0, .int .i64 0, .int .i64 0, .int .i64 0, .slice none 0 0, .int .i64 0, .int .i64 0]
theorem step_info : (Tryz.prog.info? 123).map (fun i => (i.zero, i.size, i.bytes)) = some (some stepZ, 9, 120) := by kernel_rfl
/-- The cells of a step that learns. -/
def cells9 (s : Option Addr × Nat × Nat) : List Value := [.int .i64 1, .slice s.1 s.2.1 s.2.2, .slice none 0 0, .int .i64 0, .int .i64 0, .int .i64 0, .slice none 0 0, .int .i64 0, .int .i64 0]
theorem cells9_len (s : Option Addr × Nat × Nat) : (cells9 s).length = 9 := rfl
def OwnC (w : World) (base : Nat) (B : Option Addr) (n d : Nat) (xs : List Value) : Prop := w.ownsRow base 123 9 (.slice B n d) n xs
def OwnS (w : World) (base low : Nat) (B : Option Addr) (n d : Nat) (l : List (List Int)) : Prop :=
  ∃ ss : List (Option Addr × Nat × Nat), OwnC w base B n d (ss.flatMap cells9) ∧ ss.length = l.length ∧ ∀ (k : Nat) (s : Option Addr × Nat × Nat) (xs : List Int), ss[k]? = some s → l[k]? = some xs → Ints w s.1 s.2.1 s.2.2 xs ∧ Away 3 w low s.1 s.2.1
theorem OwnC.form {w : World} {base n d : Nat} {B : Option Addr} {xs : List Value} (h : OwnC w base B n d xs) : (B = none ∧ n = 0 ∧ d = 0 ∧ xs = []) ∨ ∃ g cur, B = some ⟨g, 0, none⟩ ∧ base ≤ g ∧ w.heap[g]? = some (.cells cur 123 (0, 0)) ∧ n ≤ d ∧ d ≤ maxLen ∧ cur.size = d * 9 := by
  rcases h.2 with ⟨h2, h3⟩ | ⟨g, cap, cur, h2, h3, h4, h5, h6, h7, h8⟩
  · left
    injection h2 with a1 a2 a3
    have := h.1
    subst h3
    simp at this
    exact ⟨a1, rfl, a3, this⟩
  · right
    injection h2 with a1 a2 a3
    subst a3
    exact ⟨g, cur, a1, h3, h4, h5, h6, h7⟩
theorem OwnC.keep {w w' : World} {base n d : Nat} {B : Option Addr} {xs : List Value} (h : OwnC w base B n d xs) (hb : Below w.heap.size w w') : OwnC w' base B n d xs := by
  refine ⟨h.1, ?_⟩
  rcases h.2 with h2 | ⟨g, cap, cur, hv, hg, hh, r⟩
  · exact .inl h2
  · have hlt : g < w.heap.size := by
      rcases Nat.lt_or_ge g w.heap.size with hlt | hge
      · exact hlt
      · rw [Array.getElem?_eq_none hge] at hh; cases hh
    exact .inr ⟨g, cap, cur, hv, hg, (hb.block g hlt).trans hh, r⟩
theorem OwnC.kept {w w' : World} {base n d : Nat} {B : Option Addr} {xs : List Value} {row : Option Nat} (h : OwnC w base B n d xs) (hg : w.grownBy w' row) (hne : blockOf B = none ∨ blockOf B ≠ row) : OwnC w' base B n d xs :=
  World.ownsRow.kept h hg (by rw [blockOf_own]; exact hne)
theorem OwnC.ne_typed {w : World} {base n d g : Nat} {t : TypeId} {B : Option Addr} {xs : List Value} (h : OwnC w base B n d xs) (hT : Typed t w g) (hne : 123 ≠ t) : blockOf B = none ∨ blockOf B ≠ some g := by
  rcases h.form with ⟨rfl, _⟩ | ⟨g', cur, rfl, _, hh, _⟩
  · exact .inl rfl
  · right
    intro e
    simp [blockOf] at e
    subst e
    obtain ⟨cs, fz, hcs⟩ := hT
    rw [hh] at hcs
    injection hcs with hcs
    injection hcs with _ ht
    exact hne ht
theorem OwnC.geb {w : World} {base n d k : Nat} {B : Option Addr} {xs : List Value} (h : OwnC w base B n d xs) (hk : k < base) : blockOf B = none ∨ blockOf B ≠ some k := by
  rcases h.form with ⟨rfl, _⟩ | ⟨g', cur, rfl, hg, _⟩
  · exact .inl rfl
  · right
    intro e
    simp [blockOf] at e
    omega
theorem OwnC.base {w : World} {base n d k : Nat} {B : Option Addr} {xs : List Value} (h : OwnC w base B n d xs) (hk : blockOf B = some k) : base ≤ k ∧ Typed 123 w k := by
  rcases h.form with ⟨rfl, _⟩ | ⟨g', cur, rfl, hg, hh, _⟩
  · cases hk
  · cases hk; exact ⟨hg, ⟨_, _, hh⟩⟩
section
variable {P : Program} (w : World)
theorem wpList_append_step {ops : Array Oper} {rest : List Oper} {o : Oper} {a : Act} {Q : Exit → Act → World → Prop} (hgd : o.guard = none) (s x : Operand) (t : TypeId)
    (ho : o.op = .call { callee := .builtin .append, args := #[s, x], argTypes := #[t, t] })
    (base : Nat) (e : TypeId) (i : TypeInfo) (z : Value) (ht : P.underlying t = some (.slice e)) (hi : P.info? e = some i) (hz : i.zero = some z)
    (hsize : i.size = 9) (hby : i.bytes = 120) (hzs : z.cells.size = 9)
    (B : Option Addr) (n d : Nat) (xs : List Value) (hs : a.eval s = .slice B n d) (hown : w.ownsRow base e 9 (.slice B n d) n xs)
    (b : Nat) (news : List Value) (hx : a.eval x = .slice (some ⟨b, 0, none⟩) 1 1) (hl : news.length = 9) (hc : ∀ j u, news[j]? = some u → w.cell? ⟨b, j, none⟩ = some u) (h1 : ∀ u ∈ news, u.oneCell' = true)
    (h63 : n + 1 ≤ maxLen) (hbytes : (n + 1) * 120 ≤ 140737488355328) (hbase : base ≤ w.heap.size)
    (h : ∀ B' d' w', w'.ownsRow base e 9 (.slice B' (n + 1) d') (n + 1) (xs ++ news) → w.grownBy w' (blockOf B) → wpList P ops Q rest (a.put o.dst (.slice B' (n + 1) d')) w') : wpList P ops Q (o :: rest) a w := by
  refine wpList_plain hgd fun _ hK => ?_
  have form : ∀ (v' : Value) (w' : World), w'.ownsRow base e 9 v' (n + 1) (xs ++ news) → ∃ B' d', v' = Value.slice B' (n + 1) d' := fun v' w' h => by
    rcases h.2 with ⟨hv, hn⟩ | ⟨g, cap, cur, hv, _⟩
    · omega
    · exact ⟨_, _, hv⟩
  obtain ⟨v', w', hrun, h2, h3, _, h5⟩ := run_append_own_at (P := P) w base t o.type e i z 9 120 ht hi hz hsize hby hzs (by omega) (.slice B n d) n xs hown ⟨b, 0, none⟩ 1 1 news (by rw [hl]) (fun j u hj => by
    have := hc j u hj
    unfold Addr.add
    by_cases h0 : j = 0
    · subst h0; simpa using this
    · simpa [h0] using this) h1 h63 hbytes hbase
  obtain ⟨B', d', rfl⟩ := form v' w' h2
  rw [blockOf_own] at h3
  unfold Oper.wp execOp
  simp only [ho, resolve, invoke, builtin, Sem.run_bind, Sem.run_pure, Result.andThen_ok, List.map_toArray, List.map_cons, List.map_nil, hs, hx, hrun]
  exact hK _ _ (h B' d' w' h2 h3)
end
theorem OwnS.nil (w : World) (base low : Nat) : OwnS w base low none 0 0 [] := ⟨[], World.ownsRow_nil _ _ _ _, rfl, by simp⟩
theorem OwnS.keep {w w' : World} {base low n d : Nat} {B : Option Addr} {l : List (List Int)} (h : OwnS w base low B n d l) (hb : Below w.heap.size w w') : OwnS w' base low B n d l := by
  obtain ⟨ss, h1, h2, h3⟩ := h
  exact ⟨ss, h1.keep hb, h2, fun k s xs hs hx => ⟨(h3 k s xs hs hx).1.keep hb, (h3 k s xs hs hx).2.keep hb⟩⟩
theorem OwnS.kept {w w' : World} {base low n d : Nat} {B : Option Addr} {l : List (List Int)} {row : Option Nat} {t : TypeId} (h : OwnS w base low B n d l) (hg : w.grownBy w' row) (hr : ∀ g, row = some g → low ≤ g ∧ Typed t w g) (ne : 123 ≠ t) (nt : (3 : TypeId) ≠ t) : OwnS w' base low B n d l := by
  obtain ⟨ss, h1, h2, h3⟩ := h
  refine ⟨ss, h1.kept hg ?_, h2, fun k s xs hs hx => ?_⟩
  · cases row with
    | none =>
      by_cases h0 : blockOf B = none
      · exact .inl h0
      · exact .inr h0
    | some g => exact h1.ne_typed (hr g rfl).2 ne
  · have one := h3 k s xs hs hx
    have hrow : RowsP 3 w low [Value.slice s.1 s.2.1 s.2.2] [xs] := ⟨rfl, fun k' v hv => by
      match k', hv with
      | 0, hv => simp at hv; subst hv; exact ⟨_, _, _, xs, rfl, rfl, one.1, one.2⟩
      | k' + 1, hv => simp at hv⟩
    obtain ⟨A', n', c', ys, e1, e2, e3, e4⟩ := (hrow.kept hg hr nt).2 0 _ rfl
    cases e1
    simp at e2
    subst e2
    exact ⟨e3, e4⟩
theorem OwnS.len {w : World} {base low n d : Nat} {B : Option Addr} {l : List (List Int)} (h : OwnS w base low B n d l) : l.length = n := by
  obtain ⟨ss, h1, h2, h3⟩ := h
  have := h1.1
  rw [List.length_flatMap] at this
  have e : (ss.map (fun a => (cells9 a).length)).sum = ss.length * 9 := by
    clear h1 h2 h3 this
    induction ss with
    | nil => rfl
    | cons a r ih => rw [List.map_cons, List.sum_cons, ih, cells9_len, List.length_cons]; omega
  rw [e] at this
  omega
/-- One step more. -/
theorem OwnS.push1 {ss : List (Option Addr × Nat × Nat)} {w w' : World} {base low n d d2 n' c' : Nat} {B B2 A' : Option Addr} {l : List (List Int)} {xs : List Int} (_ : OwnS w base low B n d l) (h1 : OwnC w base B n d (ss.flatMap cells9)) (h2 : ss.length = l.length) (h3 : ∀ (k : Nat) (s : Option Addr × Nat × Nat) (xs : List Int), ss[k]? = some s → l[k]? = some xs → Ints w s.1 s.2.1 s.2.2 xs ∧ Away 3 w low s.1 s.2.1) (hbl : low ≤ base) (hi : Ints w A' n' c' xs) (ha : Away 3 w low A' n')
    (ho : OwnC w' base B2 (n + 1) d2 (ss.flatMap cells9 ++ cells9 (A', n', c'))) (hg : w.grownBy w' (blockOf B)) : OwnS w' base low B2 (n + 1) d2 (l ++ [xs]) := by
  have hrow : RowsP 3 w low ((ss ++ [(A', n', c')]).map fun s => Value.slice s.1 s.2.1 s.2.2) (l ++ [xs]) := ⟨by simp [h2], fun k v hv => by
    rw [List.getElem?_map, Option.map_eq_some_iff] at hv
    obtain ⟨s, hs, rfl⟩ := hv
    rcases Nat.lt_or_ge k ss.length with hk | hk
    · rw [List.getElem?_append_left hk] at hs
      have hlk : k < l.length := by omega
      have := h3 k s _ hs (List.getElem?_eq_getElem hlk)
      exact ⟨_, _, _, _, rfl, by rw [List.getElem?_append_left hlk]; exact List.getElem?_eq_getElem hlk, this.1, this.2⟩
    · have hk0 : k = ss.length := by
        have := (List.getElem?_eq_some_iff.1 hs).1
        simp at this
        omega
      subst hk0
      rw [List.getElem?_concat_length] at hs
      injection hs with hs
      subst hs
      exact ⟨_, _, _, xs, rfl, by rw [h2, List.getElem?_concat_length], hi, ha⟩⟩
  have hkept := hrow.kept hg (fun g hg' => ⟨Nat.le_trans hbl (h1.base hg').1, (h1.base hg').2⟩) (show (3 : TypeId) ≠ 123 by decide)
  refine ⟨ss ++ [(A', n', c')], ?_, by simp [h2], fun k s ys hs hy => ?_⟩
  · rw [List.flatMap_append]
    simpa using ho
  · obtain ⟨A2, n2, c2, zs, e1, e2, e3, e4⟩ := hkept.2 k (Value.slice s.1 s.2.1 s.2.2) (by rw [List.getElem?_map, hs]; rfl)
    cases e1
    rw [hy] at e2
    injection e2 with e2
    subst e2
    exact ⟨e3, e4⟩
theorem flat9 (ss : List (Option Addr × Nat × Nat)) (k j : Nat) (s : Option Addr × Nat × Nat) (hs : ss[k]? = some s) (hj : j < 9) : (ss.flatMap cells9)[k * 9 + j]? = (cells9 s)[j]? := by
  induction ss generalizing k with
  | nil => simp at hs
  | cons a r ih =>
    rw [List.flatMap_cons]
    cases k with
    | zero =>
      simp at hs
      subst hs
      rw [List.getElem?_append_left (by rw [cells9_len]; omega), Nat.zero_mul, Nat.zero_add]
    | succ k =>
      rw [List.getElem?_append_right (by rw [cells9_len]; omega), cells9_len, show (k + 1) * 9 + j - 9 = k * 9 + j by omega]
      exact ih k (by simpa using hs)
/-- A slice of steps that learn, each with no numbers. -/
structure Learnts (w : World) (A : Option Addr) (n c : Nat) (l : List (List Int)) : Prop where
  len : l.length = n
  le : n ≤ c
  cap : c ≤ maxLen
  at_ : 0 < n → ∃ b, A = some ⟨b, 0, none⟩ ∧ b < w.heap.size ∧ ∀ k xs, l[k]? = some xs → ∃ X nx cx, (∀ j u, (cells9 (X, nx, cx))[j]? = some u → w.cell? ⟨b, k * 9 + j, none⟩ = some u) ∧ Ints w X nx cx xs
theorem OwnS.learnts {w : World} {base low n d : Nat} {B : Option Addr} {l : List (List Int)} (h : OwnS w base low B n d l) : Learnts w B n d l := by
  have hl := h.len
  obtain ⟨ss, h1, h2, h3⟩ := h
  rcases h1.form with ⟨rfl, rfl, rfl, _⟩ | ⟨g, cur, rfl, hg, hh, hnd, hdm, _⟩
  · exact ⟨hl, Nat.le_refl _, Nat.zero_le _, fun h => by omega⟩
  · refine ⟨hl, hnd, hdm, fun _ => ⟨g, rfl, ?_, fun k xs hx => ?_⟩⟩
    · rcases Nat.lt_or_ge g w.heap.size with hlt | hge
      · exact hlt
      · rw [Array.getElem?_eq_none hge] at hh; cases hh
    · have hk : k < ss.length := by have := (List.getElem?_eq_some_iff.1 hx).1; omega
      obtain ⟨s, hs⟩ : ∃ s, ss[k]? = some s := ⟨_, List.getElem?_eq_getElem hk⟩
      refine ⟨s.1, s.2.1, s.2.2, fun j u hu => ?_, (h3 k s xs hs hx).1⟩
      have hj : j < 9 := by have := (List.getElem?_eq_some_iff.1 hu).1; rw [cells9_len] at this; exact this
      rw [World.ownsRow.cellAt h1 (k * 9 + j) (by omega), flat9 ss k j s hs hj]
      exact hu
theorem Learnts.keep {w w' : World} {A : Option Addr} {n c : Nat} {l : List (List Int)} (h : Learnts w A n c l) (hb : Below w.heap.size w w') : Learnts w' A n c l :=
  ⟨h.len, h.le, h.cap, fun hn => by
    obtain ⟨b, e, hlt, hc⟩ := h.at_ hn
    refine ⟨b, e, Nat.lt_of_lt_of_le hlt hb.size, fun k xs hx => ?_⟩
    obtain ⟨X, nx, cx, h1, h2⟩ := hc k xs hx
    exact ⟨X, nx, cx, fun j u hu => keepBox hb (h1 j u hu), h2.keep hb⟩⟩
theorem Learnts.steps {w : World} {A : Option Addr} {n c : Nat} {l : List (List Int)} (h : Learnts w A n c l) : Steps w A n c (l.map (fun x => (1, x))) :=
  ⟨by simp [h.len], h.le, h.cap, fun hn => by
    obtain ⟨b, e, hlt, hc⟩ := h.at_ hn
    refine ⟨b, 0, e, hlt, fun k r hr => ?_⟩
    rw [List.getElem?_map, Option.map_eq_some_iff] at hr
    obtain ⟨xs, hx, rfl⟩ := hr
    obtain ⟨X, nx, cx, h1, h2⟩ := hc k xs hx
    refine ⟨X, nx, cx, none, 0, 0, 0, 0, 0, none, 0, 0, 0, 0, ?_, ?_, ?_, ?_, ?_, ?_, ?_, ?_, ?_, h2⟩
    · rw [Nat.zero_add]; exact h1 0 _ rfl
    all_goals (rw [Nat.zero_add]; first | exact h1 1 _ rfl | exact h1 2 _ rfl | exact h1 3 _ rfl | exact h1 4 _ rfl | exact h1 5 _ rfl | exact h1 6 _ rfl | exact h1 7 _ rfl | exact h1 8 _ rfl), fun r hr => by
    obtain ⟨xs, _, rfl⟩ := List.mem_map.1 hr
    simp [I64]⟩
end Go.Proofs.YtlfgcblijfflfaaGreat
