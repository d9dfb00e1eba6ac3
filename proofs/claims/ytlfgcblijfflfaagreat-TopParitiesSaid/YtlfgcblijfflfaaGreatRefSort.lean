/- Contracts of the reference's Ahead, Sorted. (Printed by wip/tools/refsort.py.) -/
import Derived.Test.YtlfgcblijfflfaaGreatCnfA
import Derived.Test.YtlfgcblijfflfaaGreatSortPlain
import Derived.Test.YtlfgcblijfflfaaGreatBoxes
import Derived.Test.YtlfgcblijfflfaaGreatClone
import Derived.Test.YtlfgcblijfflfaaGreatTail
namespace Go.Proofs.YtlfgcblijfflfaaGreat
open Go.RowKit
set_option linter.unusedSimpArgs false

theorem insF_end (x : Int) (o : List Int) (p : Nat) (h : o.length ≤ p) : o.take p ++ insF x (o.drop p) = o ++ [x] := by
  rw [List.take_of_length_le h, List.drop_of_length_le h]; rfl
theorem insF_step {x y : Int} {o : List Int} {p : Nat} (hy : o[p]? = some y) (h : aheadB x y = false) : o.take p ++ insF x (o.drop p) = o.take (p + 1) ++ insF x (o.drop (p + 1)) := by
  rw [drop_cons_of hy, insF, h, take_snoc_of hy]; simp
theorem insF_stop {x y : Int} {o : List Int} {p : Nat} (hy : o[p]? = some y) (h : aheadB x y = true) : o.take p ++ insF x (o.drop p) = o.take p ++ [x] ++ o.drop p := by
  rw [drop_cons_of hy, insF, h]; simp
theorem sortF_snoc (l : List Int) (x : Int) : sortF (l ++ [x]) = insF x (sortF l) := by unfold sortF; rw [List.foldl_append]; rfl
theorem Sl.drop {w : World} {g off n c : Nat} {xs : List Value} (h : Sl w (some ⟨g, off, none⟩) n c xs) {p : Nat} (hp : p ≤ n) : Sl w (some ⟨g, off + p, none⟩) (n - p) (c - p) (xs.drop p) := by
  refine ⟨by simp [h.len], by have := h.le; omega, by have := h.cap; omega, fun hn => ?_⟩
  obtain ⟨b, o, e, hlt, hc⟩ := h.at_ (by omega)
  cases e
  refine ⟨g, off + p, rfl, hlt, fun k hk => ?_⟩
  rw [Nat.add_assoc, hc (p + k) (by omega), List.getElem?_drop]
theorem Sl.nilAny {w : World} {A : Option Addr} {c : Nat} (hc : c ≤ maxLen) : Sl w A 0 c [] := ⟨rfl, Nat.zero_le _, hc, fun h => by omega⟩

theorem own_len {e : TypeId} {w : World} {base n n' c : Nat} {A : Option Addr} {xs : List Value} (hn : n = n') (h : Own e w base A n c xs) : Own e w base A n' c xs := by subst hn; exact h
theorem Sl.kept1 {w w' : World} {A : Option Addr} {n c : Nat} {xs : List Value} {row : Option Nat} (h : Sl w A n c xs) (hg : w.grownBy w' row) (hne : blockOf A = none ∨ blockOf A ≠ row) : Sl w' A n c xs := by
  refine ⟨h.len, h.le, h.cap, fun hn => ?_⟩
  obtain ⟨b, off, rfl, hlt, hc⟩ := h.at_ hn
  refine ⟨b, off, rfl, Nat.lt_of_lt_of_le hlt hg.size, fun k hk => ?_⟩
  rw [World.cell?_of_block (w := w) (w' := w') (a := ⟨b, off + k, none⟩) (hg.block b hlt (by simp [blockOf] at hne; exact hne)), hc k hk]
end Go.Proofs.YtlfgcblijfflfaaGreat
