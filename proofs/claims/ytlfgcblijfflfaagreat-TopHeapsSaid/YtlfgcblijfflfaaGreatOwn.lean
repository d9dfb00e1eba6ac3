/- Rows of the call's own: appended to, stored into, read; no program in sight. -/
import Derived.Maps.AppendAt
import Derived.RegionTactic
import Derived.OwnWalk
import Derived.Laws.OwnMore
import Derived.Test.YtlfgcblijfflfaaGreatBase
namespace Go.Proofs.YtlfgcblijfflfaaGreat
open Go.RowKit

/-- The slice '.slice A n c' is a row of the call's own, from block 'base' on, of element type e, its cells xs. -/
def Own (e : TypeId) (w : World) (base : Nat) (A : Option Addr) (n c : Nat) (xs : List Value) : Prop := w.ownsRow base e 1 (.slice A n c) n xs

section
variable {e : TypeId} {w w' : World} {base n c : Nat} {A : Option Addr} {xs : List Value}
theorem Own.nil (e : TypeId) (w : World) (base : Nat) : Own e w base none 0 0 [] := World.ownsRow_nil w base e 1
theorem Own.len (h : Own e w base A n c xs) : xs.length = n := by have := h.1; omega
theorem Own.form (h : Own e w base A n c xs) : (A = none ∧ n = 0 ∧ c = 0 ∧ xs = []) ∨ ∃ g cur, A = some ⟨g, 0, none⟩ ∧ base ≤ g ∧ w.heap[g]? = some (.cells cur e (0, 0)) ∧ n ≤ c ∧ c ≤ maxLen ∧ cur.size = c ∧ cur.toList.take n = xs := by
  have hl := h.len
  rcases h.2 with ⟨hv, hn⟩ | ⟨g, cap, cur, hv, hg, hh, h1, h2, h3, h4⟩
  · injection hv with e1 e2 e3
    subst hn
    exact .inl ⟨e1, rfl, e3, List.eq_nil_of_length_eq_zero hl⟩
  · injection hv with e1 e2 e3
    subst e3
    exact .inr ⟨g, cur, e1, hg, hh, h1, h2, by simpa using h3, by simpa using h4⟩
theorem Own.sl (h : Own e w base A n c xs) : Sl w A n c xs := by
  refine ⟨h.len, ?_, ?_, fun hn => ?_⟩
  · rcases h.form with ⟨_, rfl, rfl, _⟩ | ⟨g, cur, _, _, _, h1, _⟩ <;> omega
  · rcases h.form with ⟨_, rfl, rfl, _⟩ | ⟨g, cur, _, _, _, _, h2, _⟩
    · exact Nat.zero_le _
    · exact h2
  · rcases h.form with ⟨_, rfl, _⟩ | ⟨g, cur, rfl, hg, hh, h1, h2, h3, h4⟩
    · omega
    · have hlt : g < w.heap.size := by
        rcases Nat.lt_or_ge g w.heap.size with hlt | hge
        · exact hlt
        · rw [Array.getElem?_eq_none hge] at hh; cases hh
      refine ⟨g, 0, rfl, hlt, fun k hk => ?_⟩
      rw [Nat.zero_add]
      exact World.ownsRow.cellAt h k (by omega)
theorem Own.keep (h : Own e w base A n c xs) (hb : Below w.heap.size w w') : Own e w' base A n c xs := by
  refine ⟨h.1, ?_⟩
  rcases h.2 with h2 | ⟨g, cap, cur, hv, hg, hh, r⟩
  · exact .inl h2
  · have hlt : g < w.heap.size := by
      rcases Nat.lt_or_ge g w.heap.size with hlt | hge
      · exact hlt
      · rw [Array.getElem?_eq_none hge] at hh; cases hh
    exact .inr ⟨g, cap, cur, hv, hg, (hb.block g hlt).trans hh, r⟩
/-- What the block of such a row is. -/
def blockOf : Option Addr → Option Nat
  | some a => some a.block
  | none => none
theorem blockOf_own (A : Option Addr) (n c : Nat) : (Value.slice A n c).ownBlock = blockOf A := by cases A <;> rfl
theorem Own.kept {row : Option Nat} (h : Own e w base A n c xs) (hg : w.grownBy w' row) (hne : blockOf A = none ∨ blockOf A ≠ row) : Own e w' base A n c xs :=
  World.ownsRow.kept h hg (by rw [blockOf_own]; exact hne)
theorem Own.mono {base' : Nat} (h : Own e w base A n c xs) (hb : base' ≤ base) : Own e w base' A n c xs := by
  refine ⟨h.1, ?_⟩
  rcases h.2 with h2 | ⟨g, cap, cur, hv, hg, r⟩
  · exact .inl h2
  · exact .inr ⟨g, cap, cur, hv, Nat.le_trans hb hg, r⟩
/-- A cell of such a row, to be read and written. -/
theorem Own.at_ (h : Own e w base A n c xs) {k : Nat} (hk : k < n) : ∃ g u, A = some ⟨g, 0, none⟩ ∧ base ≤ g ∧ g < w.heap.size ∧ w.cell? ⟨g, k, none⟩ = some u ∧ w.frozen? ⟨g, k, none⟩ = false ∧ Hid (xs[k]? = some u) := by
  obtain ⟨b, off, v, rfl, hb, hc, hv⟩ := h.sl.cell hk
  rcases h.form with ⟨h0, _⟩ | ⟨g, cur, h0, hg, _⟩
  · cases h0
  · cases h0
    refine ⟨b, v, rfl, hg, hb, by simpa using hc, World.ownsRow.frozenAt h k, hv⟩
theorem Own.set_ {g : Nat} (h : Own e w base (some ⟨g, 0, none⟩) n c xs) (k : Nat) (u : Value) : Own e (w.setCell ⟨g, k, none⟩ u) base (some ⟨g, 0, none⟩) n c (xs.set k u) := (World.ownsRow.stored h k u).1
theorem Own.grown_set {g : Nat} (h : Own e w base (some ⟨g, 0, none⟩) n c xs) (k : Nat) (u : Value) : w.grownBy (w.setCell ⟨g, k, none⟩ u) (some g) := (World.ownsRow.stored h k u).2
end

/-- A slice that a new block without cells makes ('[]int{}'). -/
theorem own_empty (e : TypeId) (w : World) (base : Nat) {b : Nat} (hb : b = w.heap.size) (hB : base ≤ w.heap.size) : Own e (w.alloc (.cells #[] e)) base (some ⟨b, 0, none⟩) 0 0 [] := by
  subst hb
  exact World.ownsRow_made w #[] 0 hB (Nat.zero_le _) rfl
/-- A row that was just made, whole. -/
theorem own_new (e : TypeId) (w : World) (base : Nat) (xs : List Value) {b : Nat} (hb : b = w.heap.size) (hB : base ≤ w.heap.size) (hl : xs.length ≤ maxLen) : Own e (w.alloc (.cells xs.toArray e)) base (some ⟨b, 0, none⟩) xs.length xs.length xs := by
  subst hb
  refine ⟨by simp, .inr ⟨w.heap.size, xs.length, xs.toArray, rfl, hB, heap_alloc_new w _, Nat.le_refl _, hl, by simp, by simp⟩⟩

section
variable {P : Program} (w : World)
theorem run_append_sl (base : Nat) (t ty e : TypeId) (i : TypeInfo) (z : Value) (bytes : Nat) (ht : P.underlying t = some (.slice e)) (hi : P.info? e = some i) (hz : i.zero = some z)
    (hsize : i.size = 1) (hby : i.bytes = bytes) (hzs : z.cells.size = 1)
    (B : Option Addr) (n d : Nat) (xs : List Value) (hown : Own e w base B n d xs)
    (A : Option Addr) (m c : Nat) (news : List Value) (hr : Sl w A m c news) (h1 : ∀ u ∈ news, u.oneCell' = true)
    (h63 : n + m ≤ maxLen) (hbytes : (n + m) * bytes ≤ 140737488355328) (hbase : base ≤ w.heap.size) :
    ∃ B' d' w', (Builtin.append_ #[t, t] ty #[.slice B n d, .slice A m c]).run P w = .ok (.slice B' (n + m) d') w' ∧ Own e w' base B' (n + m) d' (xs ++ news) ∧ w.grownBy w' (blockOf B) ∧
      (blockOf B' = blockOf B ∨ blockOf B' = some w.heap.size) := by
  have form : ∀ (v' : Value) (w' : World), w'.ownsRow base e 1 v' (n + m) (xs ++ news) → ∃ B' d', v' = Value.slice B' (n + m) d' := fun v' w' h => by
    rcases h.2 with ⟨hv, hn⟩ | ⟨g, cap, cur, hv, _⟩
    · exact ⟨none, 0, by rw [hv, hn]⟩
    · exact ⟨_, _, hv⟩
  rcases A with _ | ad
  · have hm : m = 0 := by
      rcases Nat.eq_zero_or_pos m with h0 | h0
      · exact h0
      · obtain ⟨b, off, h, _⟩ := hr.at_ h0
        cases h
    subst hm
    have hn : news = [] := List.eq_nil_of_length_eq_zero hr.len
    subst hn
    refine ⟨B, d, w, ?_, by simpa using hown, World.grownBy.refl w _, .inl rfl⟩
    rcases hown.form with ⟨rfl, rfl, rfl, rfl⟩ | ⟨g, cur, rfl, _, _, hnc, _⟩
    · simp [Builtin.append_, run_underlying ht, sizeOf, typeInfo, hi, Builtin.lenOf, Builtin.firstCells]
    · simp [Builtin.append_, run_underlying ht, sizeOf, typeInfo, hi, Builtin.lenOf, Builtin.firstCells, hnc, storeCells]
  · have hcells : ∀ j u, news[j]? = some u → w.cell? (ad.add j) = some u := by
      intro j u hu
      have hj : j < m := by
        rw [← hr.len]
        exact (List.getElem?_eq_some_iff.1 hu).1
      obtain ⟨b, off, h, _, hc⟩ := hr.at_ (by omega)
      cases h
      have := hc j hj
      rw [hu] at this
      unfold Addr.add
      by_cases h0 : j = 0
      · subst h0; simpa using this
      · simpa [h0] using this
    obtain ⟨v', w', hrun, h2, h3, _, h5⟩ := run_append_own_at (P := P) w base t ty e i z 1 bytes ht hi hz hsize hby hzs (by omega) (.slice B n d) n xs hown ad m c news (by rw [hr.len]; omega) hcells h1 h63 hbytes hbase
    obtain ⟨B', d', rfl⟩ := form v' w' h2
    rw [blockOf_own] at h3
    rw [blockOf_own, blockOf_own] at h5
    exact ⟨B', d', w', hrun, h2, h3, h5⟩

theorem wp_append_sl {o : Oper} {a : Act} {K : Act → World → Prop} {Q : Exit → Act → World → Prop} (s x : Operand) (t : TypeId)
    (ho : o.op = .call { callee := .builtin .append, args := #[s, x], argTypes := #[t, t] })
    (base : Nat) (e : TypeId) (i : TypeInfo) (z : Value) (bytes : Nat) (ht : P.underlying t = some (.slice e)) (hi : P.info? e = some i) (hz : i.zero = some z)
    (hsize : i.size = 1) (hby : i.bytes = bytes) (hzs : z.cells.size = 1)
    (B : Option Addr) (n d : Nat) (xs : List Value) (hs : a.eval s = .slice B n d) (hown : Own e w base B n d xs)
    (A : Option Addr) (m c : Nat) (news : List Value) (hx : a.eval x = .slice A m c) (hr : Sl w A m c news) (h1 : ∀ u ∈ news, u.oneCell' = true)
    (h63 : n + m ≤ maxLen) (hbytes : (n + m) * bytes ≤ 140737488355328) (hbase : base ≤ w.heap.size)
    (h : ∀ B' d' w', Own e w' base B' (n + m) d' (xs ++ news) → w.grownBy w' (blockOf B) → (blockOf B' = blockOf B ∨ blockOf B' = some w.heap.size) → K (a.put o.dst (.slice B' (n + m) d')) w') : o.wp P a w K Q := by
  obtain ⟨B', d', w', hrun, h2, h3, h4⟩ := run_append_sl (P := P) w base t o.type e i z bytes ht hi hz hsize hby hzs B n d xs hown A m c news hr h1 h63 hbytes hbase
  unfold Oper.wp execOp
  simp only [ho, resolve, invoke, builtin, Sem.run_bind, Sem.run_pure, Result.andThen_ok, List.map_toArray, List.map_cons, List.map_nil, hs, hx, hrun]
  exact h B' d' w' h2 h3 h4

theorem wpList_append_sl {ops : Array Oper} {rest : List Oper} {o : Oper} {a : Act} {Q : Exit → Act → World → Prop} (hgd : o.guard = none) (s x : Operand) (t : TypeId)
    (ho : o.op = .call { callee := .builtin .append, args := #[s, x], argTypes := #[t, t] })
    (base : Nat) (e : TypeId) (i : TypeInfo) (z : Value) (bytes : Nat) (ht : P.underlying t = some (.slice e)) (hi : P.info? e = some i) (hz : i.zero = some z)
    (hsize : i.size = 1) (hby : i.bytes = bytes) (hzs : z.cells.size = 1)
    (B : Option Addr) (n d : Nat) (xs : List Value) (hs : a.eval s = .slice B n d) (hown : Own e w base B n d xs)
    (A : Option Addr) (m c : Nat) (news : List Value) (hx : a.eval x = .slice A m c) (hr : Sl w A m c news) (h1 : ∀ u ∈ news, u.oneCell' = true)
    (h63 : n + m ≤ maxLen) (hbytes : (n + m) * bytes ≤ 140737488355328) (hbase : base ≤ w.heap.size)
    (h : ∀ B' d' w', Own e w' base B' (n + m) d' (xs ++ news) → w.grownBy w' (blockOf B) → (blockOf B' = blockOf B ∨ blockOf B' = some w.heap.size) → wpList P ops Q rest (a.put o.dst (.slice B' (n + m) d')) w') : wpList P ops Q (o :: rest) a w :=
  wpList_plain hgd fun _ hK => wp_append_sl w s x t ho base e i z bytes ht hi hz hsize hby hzs B n d xs hs hown A m c news hx hr h1 h63 hbytes hbase fun B' d' w' h2 h3 h4 => hK _ _ (h B' d' w' h2 h3 h4)
end

/-- Rows of unlike element types lie in unlike blocks. -/
theorem own_ne {e e' : TypeId} {w : World} {base base' n c n' c' : Nat} {A A' : Option Addr} {xs xs' : List Value} (h : Own e w base A n c xs) (h' : Own e' w base' A' n' c' xs') (hne : e ≠ e') : blockOf A = none ∨ blockOf A ≠ blockOf A' := by
  rcases h.form with ⟨rfl, _⟩ | ⟨g, cur, rfl, _, hh, _⟩
  · exact .inl rfl
  · right
    rcases h'.form with ⟨rfl, _⟩ | ⟨g', cur', rfl, _, hh', _⟩
    · simp [blockOf]
    · intro he
      simp [blockOf] at he
      subst he
      rw [hh] at hh'
      injection hh' with hh'
      injection hh' with _ ht
      exact hne ht
theorem ints_one (xs : List Int) : ∀ u ∈ xs.map (Value.int .i64), u.oneCell' = true := by
  intro u hu
  obtain ⟨x, _, rfl⟩ := List.mem_map.1 hu
  rfl
theorem bools_one (xs : List Bool) : ∀ u ∈ xs.map Value.bool, u.oneCell' = true := by
  intro u hu
  obtain ⟨x, _, rfl⟩ := List.mem_map.1 hu
  rfl
theorem Own.ints {e : TypeId} {w : World} {base n c : Nat} {A : Option Addr} {xs : List Int} (h : Own e w base A n c (xs.map (Value.int .i64))) (hw : ∀ x ∈ xs, I64 x) : Ints w A n c xs := ⟨h.sl, hw⟩
/-- Nothing below 'base' is turned by a law that grows a row of the call's own. -/
theorem below_grown {e : TypeId} {w w1 w2 : World} {base n c : Nat} {A : Option Addr} {xs : List Value} (hB : Below w.heap.size w w1) (h : Own e w1 base A n c xs) (hb : w.heap.size ≤ base) (hg : w1.grownBy w2 (blockOf A)) : Below w.heap.size w w2 :=
  hB.grown hg hB.size (fun k hk => by
    rcases h.form with ⟨rfl, _⟩ | ⟨g, cur, rfl, hg', _⟩
    · cases hk
    · cases hk; exact Nat.le_trans hb hg')
end Go.Proofs.YtlfgcblijfflfaaGreat
