/- Rows of the call's own beside ints of the call's own (no row lies in the ints' block); triples of the call's own: made, grown, read. -/
import Derived.Test.YtabjbpkojbdgaaaProg
import Derived.Test.YtabjbpkojbdgaaaTrips
import Derived.Test.YtabjbpkojbdgaaaOwn
import Derived.Test.YtabjbpkojbdgaaaPool
namespace Go.Proofs.Ytabjbpkojbdgaaa
open Go.RowKit
set_option linter.unusedSimpArgs false

/-- No row that is not empty lies in N's block. -/
def Far (vs : List Value) (N : Option Addr) : Prop := ∀ (X : Option Addr) (m d : Nat), Value.slice X m d ∈ vs → 0 < m → blockOf X = none ∨ blockOf X ≠ blockOf N
def OwnF (e t : TypeId) (w : World) (base low : Nat) (A : Option Addr) (n c : Nat) (xss : List (List Int)) (N : Option Addr) : Prop :=
  ∃ vs : List Value, Own e w base A n c vs ∧ RowsP t w low vs xss ∧ Far vs N
section
variable {e t : TypeId} {w w' : World} {base low n c : Nat} {A N : Option Addr} {xss : List (List Int)}
theorem OwnF.p (h : OwnF e t w base low A n c xss N) : OwnP e t w base low A n c xss := by
  obtain ⟨vs, h1, h2, _⟩ := h
  exact ⟨vs, h1, h2⟩
theorem OwnF.keep (h : OwnF e t w base low A n c xss N) (hb : Below w.heap.size w w') : OwnF e t w' base low A n c xss N := by
  obtain ⟨vs, h1, h2, h3⟩ := h
  exact ⟨vs, h1.keep hb, h2.keep hb, h3⟩
theorem OwnF.nil (e t : TypeId) (w : World) (base low : Nat) (N : Option Addr) : OwnF e t w base low none 0 0 [] N := ⟨[], Own.nil _ _ _, ⟨rfl, by simp⟩, fun X m d h => by simp at h⟩
theorem OwnF.of (h : OwnP e t w base low A n c xss) : OwnF e t w base low A n c xss none := by
  obtain ⟨vs, h1, h2⟩ := h
  exact ⟨vs, h1, h2, fun X m d _ _ => by cases X <;> simp [blockOf]⟩
theorem OwnF.push {A2 A' : Option Addr} {c2 n' c' : Nat} {xs : List Int} {vs : List Value} (h1 : Own e w base A n c vs) (h2 : RowsP t w low vs xss) (h3 : Far vs N) (hbl : low ≤ base) (hne : t ≠ e)
    (hi : Ints w A' n' c' xs) (ha : Away t w low A' n') (hf : 0 < n' → blockOf A' = none ∨ blockOf A' ≠ blockOf N) (ho : Own e w' base A2 (n + 1) c2 (vs ++ [Value.slice A' n' c'])) (hg : w.grownBy w' (blockOf A)) : OwnF e t w' base low A2 (n + 1) c2 (xss ++ [xs]) N :=
  ⟨_, ho, (h2.snoc hi ha).kept hg (own_rows h1 hbl) hne, fun X m d hm hm0 => by
    rcases List.mem_append.1 hm with hm | hm
    · exact h3 X m d hm hm0
    · simp at hm
      obtain ⟨rfl, rfl, rfl⟩ := hm
      exact hf hm0⟩
/-- The ints' slice grows (or moves to a block that is new). -/
theorem OwnF.grewN {base' n' d : Nat} {ys : List Value} {N' : Option Addr} {e' : TypeId} (h : OwnF e t w base low A n c xss N) (hN : Own e' w base' N n' d ys) (hne : e ≠ e') (hg : w.grownBy w' (blockOf N)) (hat : blockOf N' = blockOf N ∨ blockOf N' = some w.heap.size) :
    OwnF e t w' base low A n c xss N' := by
  obtain ⟨vs, h1, h2, h3⟩ := h
  refine ⟨vs, h1.kept hg (own_ne h1 hN hne), ⟨h2.1, fun k v hv => ?_⟩, fun X m d' hm hm0 => ?_⟩
  · obtain ⟨A', n', c', xs, e1, hx, hi, ha⟩ := h2.2 k v hv
    have hh : 0 < n' → blockOf A' = none ∨ blockOf A' ≠ blockOf N := fun hn => h3 A' n' c' (by rw [← e1]; exact List.mem_of_getElem? hv) hn
    exact ⟨A', n', c', xs, e1, hx, hi.kept0 hg hh, fun hn => (ha hn).kept hg (hh hn)⟩
  · rcases hat with hat | hat
    · rw [hat]; exact h3 X m d' hm hm0
    · rw [hat]
      right
      obtain ⟨k, hk, ek⟩ := List.getElem_of_mem hm
      obtain ⟨A', n', c', xs, e1, _, hi, _⟩ := h2.2 k _ (List.getElem?_eq_getElem hk)
      rw [ek] at e1
      cases e1
      obtain ⟨b, off, rfl, hlt, _⟩ := hi.sl.at_ hm0
      simp only [blockOf, ne_eq, Option.some.injEq]
      omega
/-- A block of another type is written. -/
theorem OwnF.kept {t' : TypeId} {row : Option Nat} (h : OwnF e t w base low A n c xss N) (hg : w.grownBy w' row) (hr : ∀ g, row = some g → low ≤ g ∧ Typed t' w g) (ne : e ≠ t') (nt : t ≠ t') : OwnF e t w' base low A n c xss N := by
  obtain ⟨vs, h1, h2, h3⟩ := h
  refine ⟨vs, h1.kept hg ?_, h2.kept hg hr nt, h3⟩
  cases row with
  | none =>
    by_cases h0 : blockOf A = none
    · exact .inl h0
    · exact .inr h0
  | some g => exact h1.ne_typed (hr g rfl).2 ne
end

/-- The cells of a triple. -/
def cells3 (r : Int × Int × Int) : List Value := [.int .i64 r.1, .int .i64 r.2.1, .int .i64 r.2.2]
theorem cells3_one (r : Int × Int × Int) : ∀ u ∈ cells3 r, u.oneCell' = true := by
  intro u hu
  simp only [cells3, List.mem_cons, List.not_mem_nil, or_false] at hu
  rcases hu with h | h | h <;> (rw [h]; rfl)
def resZ : Value := .agg #[.int .i64 0, .int .i64 0, .int .i64 0]
theorem res_info : (Try.prog.info? 75).map (fun i => (i.zero, i.size, i.bytes)) = some (some resZ, 3, 24) := by kernel_rfl
def OwnR (w : World) (base : Nat) (B : Option Addr) (n d : Nat) (rs : List (Int × Int × Int)) : Prop :=
  w.ownsRow base 75 3 (.slice B n d) n (rs.flatMap cells3) ∧ ∀ r ∈ rs, I64 r.1 ∧ I64 r.2.1 ∧ I64 r.2.2
theorem flat3_len (rs : List (Int × Int × Int)) : (rs.flatMap cells3).length = rs.length * 3 := by
  induction rs with
  | nil => rfl
  | cons a r ih => rw [List.flatMap_cons, List.length_append, ih, List.length_cons]; simp only [cells3, List.length_cons, List.length_nil]; omega
theorem flat3 (rs : List (Int × Int × Int)) (k j : Nat) (r : Int × Int × Int) (hr : rs[k]? = some r) (hj : j < 3) : (rs.flatMap cells3)[k * 3 + j]? = (cells3 r)[j]? := by
  induction rs generalizing k with
  | nil => simp at hr
  | cons a t ih =>
    rw [List.flatMap_cons]
    have hl : (cells3 a).length = 3 := rfl
    cases k with
    | zero =>
      simp at hr
      subst hr
      rw [List.getElem?_append_left (by rw [hl]; omega), Nat.zero_mul, Nat.zero_add]
    | succ k =>
      rw [List.getElem?_append_right (by rw [hl]; omega), hl, show (k + 1) * 3 + j - 3 = k * 3 + j by omega]
      exact ih k (by simpa using hr)
theorem OwnR.form {w : World} {base n d : Nat} {B : Option Addr} {rs : List (Int × Int × Int)} (h : OwnR w base B n d rs) : (B = none ∧ n = 0 ∧ d = 0) ∨ ∃ g cur, B = some ⟨g, 0, none⟩ ∧ base ≤ g ∧ w.heap[g]? = some (.cells cur 75 (0, 0)) ∧ n ≤ d ∧ d ≤ maxLen := by
  rcases h.1.2 with ⟨h2, h3⟩ | ⟨g, cap, cur, h2, h3, h4, h5, h6, h7, h8⟩
  · left
    injection h2 with a1 a2 a3
    exact ⟨a1, h3, a3⟩
  · right
    injection h2 with a1 a2 a3
    subst a3
    exact ⟨g, cur, a1, h3, h4, h5, h6⟩
theorem OwnR.nil (w : World) (base : Nat) : OwnR w base none 0 0 [] := ⟨World.ownsRow_nil _ _ _ _, by simp⟩
theorem OwnR.keep {w w' : World} {base n d : Nat} {B : Option Addr} {rs : List (Int × Int × Int)} (h : OwnR w base B n d rs) (hb : Below w.heap.size w w') : OwnR w' base B n d rs := by
  refine ⟨⟨h.1.1, ?_⟩, h.2⟩
  rcases h.1.2 with h2 | ⟨g, cap, cur, hv, hg, hh, r⟩
  · exact .inl h2
  · have hlt : g < w.heap.size := by
      rcases Nat.lt_or_ge g w.heap.size with hlt | hge
      · exact hlt
      · rw [Array.getElem?_eq_none hge] at hh; cases hh
    exact .inr ⟨g, cap, cur, hv, hg, (hb.block g hlt).trans hh, r⟩
theorem OwnR.mono {w : World} {base base' n d : Nat} {B : Option Addr} {rs : List (Int × Int × Int)} (h : OwnR w base B n d rs) (hb : base' ≤ base) : OwnR w base' B n d rs := by
  refine ⟨⟨h.1.1, ?_⟩, h.2⟩
  rcases h.1.2 with h2 | ⟨g, cap, cur, hv, hg, r⟩
  · exact .inl h2
  · exact .inr ⟨g, cap, cur, hv, Nat.le_trans hb hg, r⟩
theorem OwnR.kept {w w' : World} {base n d : Nat} {B : Option Addr} {rs : List (Int × Int × Int)} {row : Option Nat} (h : OwnR w base B n d rs) (hg : w.grownBy w' row) (hne : blockOf B = none ∨ blockOf B ≠ row) : OwnR w' base B n d rs :=
  ⟨World.ownsRow.kept h.1 hg (by rw [blockOf_own]; exact hne), h.2⟩
theorem OwnR.ne_typed {w : World} {base n d g : Nat} {t : TypeId} {B : Option Addr} {rs : List (Int × Int × Int)} (h : OwnR w base B n d rs) (hT : Typed t w g) (hne : 75 ≠ t) : blockOf B = none ∨ blockOf B ≠ some g := by
  rcases h.form with ⟨rfl, _⟩ | ⟨g', cur, rfl, _, hh, _⟩
  · exact .inl rfl
  · right
    intro e
    simp [blockOf] at e
    subst e
    obtain ⟨cs, fz, hcs⟩ := hT
    rw [hh] at hcs
    injection hcs with hcs
    injection hcs with _ ht
    exact hne ht
theorem OwnR.keptT {w w' : World} {base n d : Nat} {t : TypeId} {B : Option Addr} {rs : List (Int × Int × Int)} {row : Option Nat} (h : OwnR w base B n d rs) (hg : w.grownBy w' row) (hr : ∀ g, row = some g → Typed t w g) (hne : 75 ≠ t) : OwnR w' base B n d rs := by
  refine h.kept hg ?_
  cases row with
  | none =>
    by_cases h0 : blockOf B = none
    · exact .inl h0
    · exact .inr h0
  | some g => exact h.ne_typed (hr g rfl) hne
theorem OwnR.base {w : World} {base n d k : Nat} {B : Option Addr} {rs : List (Int × Int × Int)} (h : OwnR w base B n d rs) (hk : blockOf B = some k) : base ≤ k ∧ Typed 75 w k := by
  rcases h.form with ⟨rfl, _⟩ | ⟨g', cur, rfl, hg, hh, _⟩
  · cases hk
  · cases hk; exact ⟨hg, ⟨_, _, hh⟩⟩
theorem OwnR.len {w : World} {base n d : Nat} {B : Option Addr} {rs : List (Int × Int × Int)} (h : OwnR w base B n d rs) : rs.length = n := by
  have h1 : (rs.flatMap cells3).length = n * 3 := h.1.1
  rw [flat3_len] at h1
  omega
theorem OwnR.trips {w : World} {base n d : Nat} {B : Option Addr} {rs : List (Int × Int × Int)} (h : OwnR w base B n d rs) : Trips w B n d rs := by
  have hl := h.len
  rcases h.form with ⟨rfl, rfl, rfl⟩ | ⟨g, cur, rfl, hg, hh, hnd, hdm⟩
  · exact ⟨hl, Nat.le_refl _, Nat.zero_le _, fun h => by omega, h.2⟩
  · refine ⟨hl, hnd, hdm, fun _ => ⟨g, 0, rfl, ?_, fun k r hr => ?_⟩, h.2⟩
    · rcases Nat.lt_or_ge g w.heap.size with hlt | hge
      · exact hlt
      · rw [Array.getElem?_eq_none hge] at hh; cases hh
    · have hk : k < n := by rw [← hl]; exact (List.getElem?_eq_some_iff.1 hr).1
      have key : ∀ j u, j < 3 → (cells3 r)[j]? = some u → w.cell? ⟨g, k * 3 + j, none⟩ = some u := fun j u hj hu => by
        rw [World.ownsRow.cellAt h.1 (k * 3 + j) (by omega), flat3 rs k j r hr hj]
        exact hu
      rw [Nat.zero_add]
      exact ⟨key 0 _ (by omega) rfl, key 1 _ (by omega) rfl, key 2 _ (by omega) rfl⟩
section
variable {P : Program} (w : World)
theorem wp_append_res {o : Oper} {a : Act} {K : Act → World → Prop} {Q : Exit → Act → World → Prop} (s x : Operand) (t : TypeId)
    (ho : o.op = .call { callee := .builtin .append, args := #[s, x], argTypes := #[t, t] })
    (base : Nat) (i : TypeInfo) (z : Value) (ht : P.underlying t = some (.slice 75)) (hi : P.info? 75 = some i) (hz : i.zero = some z)
    (hsize : i.size = 3) (hby : i.bytes = 24) (hzs : z.cells.size = 3)
    (B : Option Addr) (n d : Nat) (rs : List (Int × Int × Int)) (hs : a.eval s = .slice B n d) (hown : OwnR w base B n d rs)
    (b : Nat) (r : Int × Int × Int) (hx : a.eval x = .slice (some ⟨b, 0, none⟩) 1 1) (hc : ∀ j u, (cells3 r)[j]? = some u → w.cell? ⟨b, j, none⟩ = some u) (hr : I64 r.1 ∧ I64 r.2.1 ∧ I64 r.2.2)
    (h63 : n + 1 ≤ maxLen) (hbytes : (n + 1) * 24 ≤ 140737488355328) (hbase : base ≤ w.heap.size)
    (h : ∀ B' d' w', OwnR w' base B' (n + 1) d' (rs ++ [r]) → w.grownBy w' (blockOf B) → K (a.put o.dst (.slice B' (n + 1) d')) w') : o.wp P a w K Q := by
  have form : ∀ (v' : Value) (w' : World), w'.ownsRow base 75 3 v' (n + 1) (rs.flatMap cells3 ++ cells3 r) → ∃ B' d', v' = Value.slice B' (n + 1) d' := fun v' w' h => by
    rcases h.2 with ⟨hv, hn⟩ | ⟨g, cap, cur, hv, _⟩
    · omega
    · exact ⟨_, _, hv⟩
  obtain ⟨v', w', hrun, h2, h3, _, h5⟩ := run_append_own_at (P := P) w base t o.type 75 i z 3 24 ht hi hz hsize hby hzs (by omega) (.slice B n d) n (rs.flatMap cells3) hown.1 ⟨b, 0, none⟩ 1 1 (cells3 r) rfl (fun j u hj => by
    have := hc j u hj
    unfold Addr.add
    by_cases h0 : j = 0
    · subst h0; simpa using this
    · simpa [h0] using this) (cells3_one r) h63 hbytes hbase
  obtain ⟨B', d', rfl⟩ := form v' w' h2
  rw [blockOf_own] at h3
  unfold Oper.wp execOp
  simp only [ho, resolve, invoke, builtin, Sem.run_bind, Sem.run_pure, Result.andThen_ok, List.map_toArray, List.map_cons, List.map_nil, hs, hx, hrun]
  exact h B' d' w' ⟨by rw [List.flatMap_append]; simpa using h2, fun q hq => by
    rcases List.mem_append.1 hq with hq | hq
    · exact hown.2 q hq
    · simp at hq; subst hq; exact hr⟩ h3
theorem wpList_append_res {ops : Array Oper} {rest : List Oper} {o : Oper} {a : Act} {Q : Exit → Act → World → Prop} (hgd : o.guard = none) (s x : Operand) (t : TypeId)
    (ho : o.op = .call { callee := .builtin .append, args := #[s, x], argTypes := #[t, t] })
    (base : Nat) (i : TypeInfo) (z : Value) (ht : P.underlying t = some (.slice 75)) (hi : P.info? 75 = some i) (hz : i.zero = some z)
    (hsize : i.size = 3) (hby : i.bytes = 24) (hzs : z.cells.size = 3)
    (B : Option Addr) (n d : Nat) (rs : List (Int × Int × Int)) (hs : a.eval s = .slice B n d) (hown : OwnR w base B n d rs)
    (b : Nat) (r : Int × Int × Int) (hx : a.eval x = .slice (some ⟨b, 0, none⟩) 1 1) (hc : ∀ j u, (cells3 r)[j]? = some u → w.cell? ⟨b, j, none⟩ = some u) (hr : I64 r.1 ∧ I64 r.2.1 ∧ I64 r.2.2)
    (h63 : n + 1 ≤ maxLen) (hbytes : (n + 1) * 24 ≤ 140737488355328) (hbase : base ≤ w.heap.size)
    (h : ∀ B' d' w', OwnR w' base B' (n + 1) d' (rs ++ [r]) → w.grownBy w' (blockOf B) → wpList P ops Q rest (a.put o.dst (.slice B' (n + 1) d')) w') : wpList P ops Q (o :: rest) a w :=
  wpList_plain hgd fun _ hK => wp_append_res w s x t ho base i z ht hi hz hsize hby hzs B n d rs hs hown b r hx hc hr h63 hbytes hbase fun B' d' w' h2 h3 => hK _ _ (h B' d' w' h2 h3)
end
end Go.Proofs.Ytabjbpkojbdgaaa
