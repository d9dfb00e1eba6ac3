/- Contract of some: the facts of a number's last four bits. -/
import Derived.Test.YtlfgcblijfflfaaOwn
import Derived.Test.YtlfgcblijfflfaaClone
import Derived.Test.YtlfgcblijfflfaaGrid
import Derived.Test.YtlfgcblijfflfaaSlices
import Derived.Test.YtlfgcblijfflfaaBoxes
import Derived.Test.YtlfgcblijfflfaaPool
import Derived.Test.YtlfgcblijfflfaaPlanBits
namespace Go.Proofs.Ytlfgcblijfflfaa
open Go.RowKit
set_option linter.unusedSimpArgs false
set_option linter.unusedVariables false

theorem own_base__ {e : TypeId} {w : World} {base n c k : Nat} {A : Option Addr} {xs : List Value} (h : Own e w base A n c xs) (hk : blockOf A = some k) : base ≤ k := by
  rcases h.form with ⟨rfl, _⟩ | ⟨g', _, rfl, hg', _⟩
  · cases hk
  · cases hk; exact hg'
def RetSome (z : Int) (w : World) (e : Ending) (w' : World) : Prop := ∃ L n c, e = .returned (.slice L n c) ∧ Own 3 w' w.heap.size L n c ((someF (mkM z)).map (Value.int .i64)) ∧ Below w.heap.size w w'

set_option maxHeartbeats 2000000 in
set_option maxRecDepth 100000 in
theorem some_any (z : Int) (w : World) (hz : I64 z) : Calls Try.prog 14 #[.int .i64 z] w (RetSome z w) := by
  obtain ⟨i0, hi0, hz0, hz1, hz2⟩ := info_parts int_info
  have hzI := hz
  obtain ⟨z1, z2⟩ := hz
  go_enter Try.func14, Try.ntmps14
  go_wp2_with fail
  go_loopw [3, 4] (fun s3 s4 wr => ∃ (i k c : Nat) (O : Option Addr), i ≤ 4 ∧ k ≤ i ∧ s3 = .slice O k c ∧ s4 = .int .i64 i ∧ Hid (Below w.heap.size w wr) ∧ Hid (Own 3 wr w.heap.size O k c ((someI (mkM z) i).map (Value.int .i64)))) (fun _ s _ => 4 - (intOf s).toNat)
  case atStart => exact ⟨0, 0, 0, none, by omega, by omega, rfl, rfl, Below.refl _ _, Own.nil _ _ _⟩
  case round =>
    obtain ⟨i, k, c, O, hi, hk, rfl, rfl, HB, HO⟩ := hrel
    by_cases h4 : i < 4
    · have v0 : (0 : Int) ≤ (i : Int) := by omega
      have v1 : (i : Int) < 4 := by omega
      have vn : (i : Int).toNat = i := by omega
      have hq : (bits .and .i64 (z / 2 ^ i) 1 == 1) = (mkM z).testBit i := by rw [mkM_bit z i h4, and_one]
      have hs := someI_succ (mkM z) i
      obtain ⟨bv, hbv⟩ : ∃ b : Bool, Hid ((mkM z).testBit i = b) := ⟨_, rfl⟩
      rw [hbv.out] at hq hs
      have HS := Lib.hid hs
      clear hs
      cases bv
      · go_wp2_with fail
        go_roundw
        case rel => exact ⟨i + 1, k, c, O, by omega, by omega, rfl, by go_num, HB, by rw [HS.out]; simpa using HO⟩
        case measure => simp [intOf] <;> omega
      · have HSL := Lib.hid (sl_one wr 3 (.int .i64 (i : Int)) rfl)
        have hb4 := below_new wr (.cells #[.int .i64 (i : Int)] 3)
        have HOn := Lib.hid (HO.out.keep hb4)
        have HBn := Lib.hid (below_next HB.out hb4)
        have hsz := HB.out.size
        clear hb4 HO
        go_wp2_with (first
          | (at_builtin
             refine wpList_append_sl _ rfl (.tmp 14) (.tmp 16) _ rfl w.heap.size 3 i0 _ 8 Try.underlying22 hi0 hz0 hz1 hz2 rfl O k c _ rfl HOn.out (some ⟨wr.heap.size, 0, none⟩) 1 1 _ rfl HSL.out (by simp [Value.oneCell']) (by simp only [maxLen]; omega) (by omega) (by simp; omega) ?_
             intro L1 c1 w9 hL1 hg1 hat1
             have HL1 : Hid (Own 3 w9 w.heap.size L1 (k + 1) c1 (((someI (mkM z) i) ++ [(i : Int)]).map (Value.int .i64))) := by rw [List.map_append]; exact hL1
             have HB9 : Hid (Below w.heap.size w w9) := HBn.out.grown hg1 HBn.out.size (fun j hj => own_base__ HOn.out hj)
             clear hL1 hg1 hat1))
        go_roundw
        case rel => exact ⟨i + 1, k + 1, c1, L1, by omega, by omega, rfl, by go_num, HB9, by rw [HS.out]; exact HL1⟩
        case measure => simp [intOf] <;> omega
    · have v1 : ¬ (i : Int) < 4 := by omega
      obtain rfl : i = 4 := by omega
      go_wp2_with fail
      go_ret
      exact ⟨O, k, c, rfl, HO.out, HB.out⟩
end Go.Proofs.Ytlfgcblijfflfaa
