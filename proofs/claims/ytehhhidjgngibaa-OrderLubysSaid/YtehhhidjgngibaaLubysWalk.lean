/- The walk of the law OrderLubys. -/
import Derived.Test.YtehhhidjgngibaaLuby
namespace Go.Proofs.Ytehhhidjgngibaa
open Go.RowKit

set_option maxHeartbeats 400000 in
theorem orderLubys_walk {n : Int} (w : World) (_hn : (Lit.int .i64 n).wf = true) :
    Calls Try.prog 4 #[.int .i64 n] w fun e w' => e = .returned (.bool true) ∧ Below w.heap.size w w' := by
  by_cases h1 : n < 1
  · go_enter Try.func4, Try.ntmps4
    go_wp2_with fail
    refine (luby_no _ _ (.inl h1)).mono ?_
    rintro e w1 ⟨rfl, hb⟩
    go_wp2_with fail
    go_ret
    exact ⟨rfl, hb.alloc hb.size _⟩
  · by_cases h2 : 1000000 < n
    · go_enter Try.func4, Try.ntmps4
      go_wp2_with fail
      refine (luby_no _ _ (.inr h2)).mono ?_
      rintro e w1 ⟨rfl, hb⟩
      go_wp2_with fail
      go_ret
      exact ⟨rfl, hb.alloc hb.size _⟩
    · go_enter Try.func4, Try.ntmps4
      go_wp2_with fail
      refine (luby_yes _ _ (by omega) (by omega)).mono ?_
      rintro e w1 ⟨rfl, hb⟩
      generalize hl : luby n.toNat = q
      have Hl := Lib.hid hl
      clear hl
      go_wp2_with fail
      refine (luby_ref n.toNat _ _ (Nat.le_refl _) (by omega) (by omega)).mono ?_
      rw [Hl.out]
      rintro e w2 ⟨rfl, rfl⟩
      go_wp2_with fail
      go_ret
      exact ⟨rfl, hb.alloc hb.size _⟩
end Go.Proofs.Ytehhhidjgngibaa
