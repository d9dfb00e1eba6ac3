/- A map from ints to bools of the call's own, as a set of ints. -/
import Derived.Test.YtlfgcblijfflfaaGreatProg
import Derived.Test.YtlfgcblijfflfaaGreatBase
import Derived.Test.YtlfgcblijfflfaaGreatPlain
import Derived.Maps.OwnSet
namespace Go.Proofs.YtlfgcblijfflfaaGreat
open Go.RowKit Go.Maps Go.WideMaps

theorem keyed_int : Keyed Tryz.prog 3 := int_keyed Tryz.underlying3
def MapI (w : World) (b n : Nat) (D : DataW Unit) : Prop := w.ownsMap Tryz.prog 3 (plainElem Tryz.prog 4) b n D
theorem MapI.keep {w w' : World} {b n : Nat} {D : DataW Unit} (h : MapI w b n D) (hb : Below w.heap.size w w') : MapI w' b n D := by
  have hlt := World.ownsMap.lt h
  obtain ⟨es, clock, h1, F, hs, hD⟩ := h
  exact ⟨es, clock, (hb.block b hlt).trans h1, F, hs, hD⟩
def MapHas (D : DataW Unit) (zs : List Int) : Prop := ∀ x, D.atKey (.int .i64 x) (.lit (.bool false)) = .lit (.bool (hasB zs x))

theorem bool_infoP : (Tryz.prog.info? 4).map (fun i => (i.zero, i.size, i.bytes)) = some (some (.bool false), 1, 1) := by kernel_rfl
theorem zero_bool (w : World) : (zeroValue 4).run Tryz.prog w = .ok (.bool false) w := by
  obtain ⟨i, h1, h2, _, _⟩ := info_parts bool_infoP
  simp [zeroValue, typeInfo, h1, h2]

set_option maxRecDepth 100000 in
theorem look_has {w : World} {b n : Nat} {D : DataW Unit} {zs : List Int} (h : MapI w b n D) (hD : MapHas D zs) {x : Int} (hx : I64 x) : (Instr.lookup 91 (.map (some b)) (.int .i64 x) false).run Tryz.prog w = .ok (.bool (hasB zs x)) w := by
  have hkey := keyOf_int_mk (P := Tryz.prog) Tryz.underlying3 (show (Lit.int .i64 x).wf = true from WalkArith.wf_i64 hx)
  obtain ⟨v, ps, hrun, hv⟩ := World.ownsMap.lookup h keyed_int Tryz.underlying91 (zero_bool w) (plainElem_bool Tryz.underlying4 false) hkey
  rw [hD x] at hv
  rw [hrun]
  unfold plainElem at hv
  rw [Tryz.underlying4] at hv
  cases v <;> simp at hv
  rw [hv.1]
theorem MapHas.put {w : World} {b n : Nat} {D : DataW Unit} {zs : List Int} (h : MapI w b n D) (hD : MapHas D zs) (y : Int) : MapHas (D.put (.int .i64 y) (.lit (.bool true))) (zs ++ [y]) := by
  have ht := World.ownsMap.tidy h keyed_int
  intro x
  rw [hasB_append]
  by_cases hx : x = y
  · subst hx
    rw [Maps.atKey_put_same ht.isMap (k := .int .i64 x) trivial]
    simp [hasB]
  · rw [Maps.atKey_put_other (by simpa using hx), hD x]
    have : ¬ y = x := fun e => hx e.symm
    simp [hasB, this]
end Go.Proofs.YtlfgcblijfflfaaGreat
