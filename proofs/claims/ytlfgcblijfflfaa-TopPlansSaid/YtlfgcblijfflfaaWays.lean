/- A map from states to ways (three ints) of the call's own; slices.Reverse at a row of the call's own. -/
import Derived.Test.YtlfgcblijfflfaaProg
import Derived.Test.YtlfgcblijfflfaaShelf7
import Derived.Test.YtlfgcblijfflfaaRowSort
import Derived.Test.YtlfgcblijfflfaaBase
import Derived.Test.YtlfgcblijfflfaaOwn
import Derived.Test.YtlfgcblijfflfaaPlanBfs
import Derived.Maps.OwnSet
namespace Go.Proofs.Ytlfgcblijfflfaa
open Go.RowKit Go.Maps Go.WideMaps Go.Sort
set_option linter.unusedSimpArgs false
set_option linter.unusedVariables false

theorem keyed_int_w : Keyed Try.prog 3 := int_keyed Try.underlying3
def wayD (a b c : Int) : DataW Unit := .agg [.lit (.int .i64 a), .lit (.int .i64 b), .lit (.int .i64 c)]
def wayR (v : Value) : Option (DataW Unit × List MemPlace) :=
  match v with
  | .agg cs => match cs.toList with
    | [.int .i64 a, .int .i64 b, .int .i64 c] => some (wayD a b c, [])
    | _ => none
  | _ => none
theorem wayR_mk (a b c : Int) : wayR (.agg #[.int .i64 a, .int .i64 b, .int .i64 c]) = some (wayD a b c, []) := rfl
theorem wayR_inv {v : Value} {d : DataW Unit} {ps : List MemPlace} (h : wayR v = some (d, ps)) : ∃ a b c, v = .agg #[.int .i64 a, .int .i64 b, .int .i64 c] ∧ d = wayD a b c := by
  unfold wayR at h
  split at h
  · rename_i cs
    split at h
    · rename_i a b c e
      cases h
      refine ⟨a, b, c, ?_, rfl⟩
      have : cs = #[.int .i64 a, .int .i64 b, .int .i64 c] := by rw [← Array.toList_inj]; exact e
      rw [this]
    · cases h
  · cases h
theorem wayD_inj {a b c a' b' c' : Int} (h : wayD a b c = wayD a' b' c') : a = a' ∧ b = b' ∧ c = c' := by
  unfold wayD at h
  simp at h
  exact h
theorem zero_way (w : World) : (zeroValue 62).run Try.prog w = .ok (.agg #[.int .i64 0, .int .i64 0, .int .i64 0]) w := by kernel_rfl
/-- A map from ints to ways of the call's own. -/
def MapW (w : World) (b n : Nat) (D : DataW Unit) : Prop := w.ownsMap Try.prog 3 wayR b n D
theorem MapW.keep {w w' : World} {b n : Nat} {D : DataW Unit} (h : MapW w b n D) (hb : Below w.heap.size w w') : MapW w' b n D := by
  have hlt := World.ownsMap.lt h
  obtain ⟨es, clock, h1, F, hs, hD⟩ := h
  exact ⟨es, clock, (hb.block b hlt).trans h1, F, hs, hD⟩
theorem MapW.kept {w w' : World} {b n : Nat} {D : DataW Unit} {row : Option Nat} (h : MapW w b n D) (hg : w.grownBy w' row) (hne : some b ≠ row) : MapW w' b n D := World.ownsMap.kept h hg hne
/-- The map has these ways. -/
def WayM (D : DataW Unit) (W : List Wy) : Prop := (∀ y ∈ W, ∀ zd, D.atKey (.int .i64 (y.s : Int)) zd = wayD y.fr y.via y.long) ∧ ∀ x : Int, Maps.has D (.int .i64 x) = true ↔ ∃ y ∈ W, (y.s : Int) = x
theorem WayM.nil : WayM (.map []) [] := ⟨by simp, fun x => by simp [Maps.has]⟩
theorem WayM.put {w : World} {b n : Nat} {D : DataW Unit} {W : List Wy} (h : MapW w b n D) (hD : WayM D W) {y : Wy} (hn : ∀ z ∈ W, z.s ≠ y.s) {x : Int} (hx : x = (y.s : Int)) : WayM (D.put (.int .i64 x) (wayD y.fr y.via y.long)) (W ++ [y]) := by
  have hm := (World.ownsMap.tidy h keyed_int_w).isMap
  subst hx
  refine ⟨fun z hz zd => ?_, fun x => ?_⟩
  · rcases List.mem_append.1 hz with hz | hz
    · rw [Maps.atKey_put_other (by have := hn z hz; simp; omega)]
      exact hD.1 z hz zd
    · rw [List.mem_singleton.1 hz]
      exact Maps.atKey_put_same hm (k := .int .i64 (y.s : Int)) trivial _ _
  · by_cases e : x = (y.s : Int)
    · subst e
      rw [Maps.has_put_same hm (k := .int .i64 (y.s : Int)) trivial]
      simp
    · rw [Maps.has_put_other (by simpa using e), hD.2 x]
      constructor
      · rintro ⟨z, hz, e1⟩
        exact ⟨z, List.mem_append_left _ hz, e1⟩
      · rintro ⟨z, hz, e1⟩
        rcases List.mem_append.1 hz with hz | hz
        · exact ⟨z, hz, e1⟩
        · rw [List.mem_singleton.1 hz] at e1
          exact absurd e1.symm e
theorem key_w (x : Int) (hx : I64 x) : keyOf Try.prog 3 (.int .i64 x) = some (.int .i64 x) := keyOf_int_mk (P := Try.prog) Try.underlying3 (show (Lit.int .i64 x).wf = true from WalkArith.wf_i64 hx)
theorem way_look {w : World} {b n : Nat} {D : DataW Unit} {W : List Wy} (h : MapW w b n D) (hD : WayM D W) {y : Wy} (hy : y ∈ W) (hs : y.s < 16) : (Instr.lookup 63 (.map (some b)) (.int .i64 (y.s : Int)) false).run Try.prog w = .ok (.agg #[.int .i64 y.fr, .int .i64 y.via, .int .i64 y.long]) w := by
  obtain ⟨v, ps, hrun, hv⟩ := World.ownsMap.lookup h keyed_int_w Try.underlying63 (zero_way w) (wayR_mk 0 0 0) (key_w (y.s : Int) (by unfold I64; omega))
  rw [hD.1 y hy] at hv
  obtain ⟨a, b, c, rfl, e⟩ := wayR_inv hv
  obtain ⟨rfl, rfl, rfl⟩ := wayD_inj e
  exact hrun
theorem way_look_ok {w : World} {b n : Nat} {D : DataW Unit} {W : List Wy} (h : MapW w b n D) (hD : WayM D W) (x : Int) (hx : I64 x) : ∃ a1 a2 a3 : Int, ∃ ok : Bool, (Instr.lookup 63 (.map (some b)) (.int .i64 x) true).run Try.prog w = .ok (.tuple #[.agg #[.int .i64 a1, .int .i64 a2, .int .i64 a3], .bool ok]) w ∧ (ok = true ↔ ∃ y ∈ W, (y.s : Int) = x) := by
  obtain ⟨v, ps, hrun, hv⟩ := World.ownsMap.look_ok h keyed_int_w Try.underlying63 (zero_way w) (wayR_mk 0 0 0) (key_w x hx)
  obtain ⟨a, b, c, rfl, e⟩ := wayR_inv hv
  exact ⟨a, b, c, _, hrun, hD.2 x⟩
theorem way_f0 (a b c : Value) (w : World) : (Instr.field 62 (.agg #[a, b, c]) 0).run Try.prog w = .ok a w := by kernel_rfl
theorem way_f1 (a b c : Value) (w : World) : (Instr.field 62 (.agg #[a, b, c]) 1).run Try.prog w = .ok b w := by kernel_rfl
theorem way_f2 (a b c : Value) (w : World) : (Instr.field 62 (.agg #[a, b, c]) 2).run Try.prog w = .ok c w := by kernel_rfl
/-- slices.Reverse. -/
theorem reverse_own (base n c : Nat) (A : Option Addr) (l : List Int) (w : World) (h : Own 3 w base A n c (l.map (Value.int .i64))) (hn : n ≤ 1000000) :
    Calls Try.prog 41 #[.slice A n c] w fun e w' => e = .returned (.tuple #[]) ∧ Own 3 w' base A n c (l.reverse.map (Value.int .i64)) ∧ w.grownBy w' (blockOf A) := by
  have hl : l.length = n := by have h1 := h.len; simpa using h1
  rcases h.form with ⟨rfl, rfl, rfl, h0⟩ | ⟨g, cur, rfl, _, hh, _⟩
  · have hl0 : l = [] := by simpa using h0
    subst hl0
    refine (Try.slices_Reverse_int_empty none 0 w).mono ?_
    rintro e w' ⟨rfl, hw⟩
    rw [hw]
    exact ⟨rfl, by simpa using h, World.grownBy.refl w _⟩
  · have hH := holds_own h (Value.int .i64) l.toArray (by simp)
    have hcon := Try.slices_Reverse_int g 0 c l w hH (by omega)
    rw [hl] at hcon
    refine hcon.mono ?_
    rintro e w' ⟨rfl, m, hw⟩
    have hMl : l.reverse.toArray.size = n := by simp; omega
    have hw2 : w' = sortWorld (Value.int .i64) w g 0 m l.reverse.toArray #[] := by rw [hw]; rfl
    have hown := own_sorted (m := m) h (Value.int .i64) l.reverse.toArray hMl #[]
    rw [← hw2] at hown
    exact ⟨rfl, by simpa using hown, by rw [hw2]; exact sortWorld_grown _ _ _ _ _ _⟩
end Go.Proofs.Ytlfgcblijfflfaa
