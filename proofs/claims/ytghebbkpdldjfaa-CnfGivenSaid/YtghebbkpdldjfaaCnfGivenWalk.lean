/- The walk of the law CnfGiven. -/
import Derived.Test.YtghebbkpdldjfaaSetPlain
import Derived.Test.YtghebbkpdldjfaaHolds
import Derived.Test.YtghebbkpdldjfaaRows2
namespace Go.Proofs.Ytghebbkpdldjfaa
open Go.RowKit

theorem of_same (x : Int) (w : World) (h1 : -9223372036854775807 ≤ x) (h2 : x ≤ 9223372036854775807) : Calls Try.prog 16 #[.int .i64 x] w (fun e w' => e = .returned (.int .i64 x.natAbs) ∧ w' = w) := by
  by_cases h : x < 0
  · go_enter Try.func16, Try.ntmps16
    go_wp2_with fail
    go_ret
    exact ⟨ret_int (by omega), rfl⟩
  · go_enter Try.func16, Try.ntmps16
    go_wp2_with fail
    go_ret
    exact ⟨ret_int (by omega), rfl⟩
theorem bool_info : (Try.prog.info? 4).map (fun i => (i.zero, i.size, i.bytes)) = some (some (.bool false), 1, 1) := by kernel_rfl

set_option maxHeartbeats 4000000 in
set_option maxRecDepth 100000 in
theorem cnfGiven_walk {vars : Int} {A B E : Option Addr} {n c m d p x : Nat} {xss : List (List Int)} {l : List Int} {a : List Bool} (w : World) (hv : I64 vars) (h : Grid w A n c xss) (h' : Ints w B m d l) (h2 : Bools w E p x a) :
    Calls Try.prog 3 #[.agg #[.int .i64 vars, .slice A n c], .slice B m d, .slice E p x] w fun e w' => e = .returned (.bool true) ∧ Below w.heap.size w w' := by
  have hbd := h.bd
  have hbd' := h'.bd
  have hbd2 := h2.bd
  have hal := Lib.hid h2.len
  have hll := Lib.hid h'.len
  obtain ⟨r1, r2, hr⟩ : ∃ r1 r2, Hid (besideR vars xss l = (r1, r2)) := ⟨_, _, rfl⟩
  have hk := h.keep (below_new w (.cells #[.int .i64 vars, .slice A n c] 24))
  have hk' := h'.keep (below_new w (.cells #[.int .i64 vars, .slice A n c] 24))
  have hk2 := h2.keep (below_new w (.cells #[.int .i64 vars, .slice A n c] 24))
  by_cases hr1 : r1 = 0
  · subst hr1
    obtain ⟨hr0, hc0, hlits⟩ := besideR_ok (vars := vars) (xss := xss) (l := l) (by rw [hr.out])
    obtain rfl : r2 = 0 := by rw [hr.out] at hr0; simpa using hr0
    obtain ⟨hc00, v0, v1, _, hrows⟩ := checkC_ok hc0
    have HROWS := Lib.hid hrows
    have HLI := Lib.hid hlits
    have HC := Lib.hid hc00
    have HCG := Lib.hid (check_given l hc0)
    clear hr0 hrows hc0 hlits hc00
    obtain ⟨j0, hj0, hy0, hy1, hy2⟩ := info_parts bool_info
    go_enter Try.func3, Try.ntmps3
    go_wp2_with fail
    refine (given_own _ _ _ _ _ _ _ _ _ _ hk hv hk' hr).mono ?_
    rintro e w1 ⟨A1, n1, c1, rfl, G1, hb1⟩
    obtain ⟨c0, c1', l0, B1⟩ := box2 hb1
    obtain ⟨W1, hW1⟩ : ∃ W1, W1 = (w1.alloc (.cells #[.int .i64 vars, .slice A1 n1 c1] 24)).alloc (.cells #[.int .i64 0, .int .i64 0] 28) := ⟨_, rfl⟩
    have hbn : Below w1.heap.size w1 W1 := by rw [hW1]; exact below_alloc (below_new _ _) _
    have e0 : W1.cell? ⟨w1.heap.size, 0, none⟩ = some (.int .i64 vars) := by rw [hW1]; simp [go_sem]
    have e1 : W1.cell? ⟨w1.heap.size, 1, none⟩ = some (.slice A1 n1 c1) := by rw [hW1]; simp [go_sem]
    have g1 := (hk.keep hb1).keep hbn
    have g1' := (hk'.keep hb1).keep hbn
    have g12 := (hk2.keep hb1).keep hbn
    have G1' := G1.keep hbn
    have C0 := keepBox hbn c0
    have C1 := keepBox hbn c1'
    have HB1 := Lib.hid (below_next B1 hbn)
    have HW1 := Lib.hid hW1
    clear hb1 B1 hk hk' hk2 G1 c0 c1' hbn hW1
    go_wp2_with fail
    rw [← HW1.out]
    refine (pair_any _).mono ?_
    rintro e w3 ⟨A3, n3, c3, rfl, G3, hb3⟩
    go_wp2_with fail
    refine (holds_any _ _ _ _ _ _ [[1, 2], [-1]] [false, true] _ _ (G3.keep (below_new _ _)) ⟨by omega, by omega⟩ (bools_made _ 4 [false, true] (by simp) (by simp [maxLen])) 0 0 (by show _ = _; decide) true (by show _ = _; decide)).mono ?_
    rintro e w4 ⟨rfl, hb4⟩
    have hb5 := below_next hb3 (below_box hb4).1
    have lw4 : w1.heap.size < w4.heap.size := (cell_lt (keepBox hb5 e0)).1
    obtain ⟨V, hV⟩ : ∃ V, V = w4.alloc (.cells #[.int .i64 0, .int .i64 0] 28) := ⟨_, rfl⟩
    have hbV : Below w4.heap.size w4 V := by rw [hV]; exact below_new _ _
    have hb6 := below_next hb5 hbV
    have x0 : V.cell? ⟨w4.heap.size, 0, none⟩ = some (.int .i64 0) := by rw [hV]; simp [go_sem]
    have g8 := g1.keep hb6
    have g8' := g1'.keep hb6
    have g82 := g12.keep hb6
    have G8 := G1'.keep hb6
    have D0 := keepBox hb6 C0
    have D1 := keepBox hb6 C1
    have E0 := keepBox hb6 e0
    have E1 := keepBox hb6 e1
    have HB8 := Lib.hid (below_next HB1.out hb6)
    have HV := Lib.hid hV
    have P0 := keepBox hb5 C0
    have lw0 : w.heap.size < w4.heap.size := (cell_lt P0).1
    have HD0 := Lib.hid D0
    have HD1 := Lib.hid D1
    have HE0 := Lib.hid E0
    have HE1 := Lib.hid E1
    clear D0 D1 E0 E1 x0
    clear hV hbV hb3 hb4 hb5 hb6 g1 g1' g12 G1' C0 C1 e0 e1 G3 HW1
    by_cases hmv : (p : Int) = vars
    · have d2 : ((p : Int) != vars) = false := by simpa using hmv
      have hke := g82.keep (below_new V (.cells #[] 4))
      go_wp2_with (first
          | (at_builtin
             rw [← HV.out]
             refine wpList_append_sl _ rfl (.tmp 48) (.tmp 49) _ rfl V.heap.size 4 j0 _ 1 Try.underlying26 hj0 hy0 hy1 hy2 rfl (some ⟨V.heap.size, 0, none⟩) 0 0 [] (by rw [HV.out]; simp; rfl) (own_empty _ _ _ rfl (Nat.le_refl _)) E p x _ rfl hke (bools_one _) (by simp only [maxLen]; omega) (by omega) (by simp) ?_
             intro B2 d2' w9 hown hg hat
             have HOWN := Lib.hid hown
             have HBU := Lib.hid (below_grown (below_new V _) (own_empty 4 V V.heap.size rfl (Nat.le_refl _)) (Nat.le_refl _) hg)
             clear hown hg hat))
      have HOW : Hid (Own 4 w9 V.heap.size B2 p d2' (a.map Value.bool)) := by have := HOWN.out; simpa [Hid] using this
      clear HOWN hke P0 HV lw0 lw4
      go_loopw [12] (fun i wr => ∃ (k : Nat) (bs : List Bool), k ≤ m ∧ i = .int .i64 k ∧ Hid (Own 4 wr V.heap.size B2 p d2' (bs.map Value.bool)) ∧ Hid (Below V.heap.size V wr) ∧ Hid (bs = (l.take k).foldl setL a)) (fun i _ => m - (intOf i).toNat)
      case atStart => exact ⟨0, a, Nat.zero_le _, rfl, HOW, HBU, rfl⟩
      case round =>
        obtain ⟨k, bs, hk, rfl, hown, hB, hbs⟩ := hrel
        clear HOW HBU
        by_cases hlt : k < m
        · obtain ⟨b, off, y, rfl, hb, hcell, y1, y2, hy⟩ := (g8'.keep hB.out).round hlt
          have hyl := HLI.out.1 y (List.mem_of_getElem? hy.out)
          obtain ⟨t, ht⟩ : ∃ t, y.natAbs = t + 1 := ⟨y.natAbs - 1, by omega⟩
          have htm : t < p := by omega
          obtain ⟨g, u, rfl, hg1, hg2, hcu, hfu, hxu⟩ := hown.out.at_ htm
          have z2 : (k : Int) < (m : Int) := by omega
          have z3 : (t : Int) < (p : Int) := by omega
          have hof2 : ∀ W, Calls Try.prog 16 #[.int .i64 y] W (fun e w' => e = .returned (.int .i64 ((t : Int) + 1)) ∧ w' = W) := fun W => by
            have := of_same y W (by omega) (by omega)
            rw [ht] at this
            exact this
          have HOF2 := Lib.hid hof2
          have hset : setL bs y = bs.set t (decide (0 < y)) := by unfold setL; rw [ht]; rfl
          have HSET := Lib.hid hset
          have z4 : (0 : Int) ≤ (t : Int) := by omega
          have z5 : (t : Int) + 1 - 1 = (t : Int) := by omega
          have z6 : (0 : Int) ≤ (k : Int) := by omega
          have z7 : IntKind.i64.wrap (t : Int) = (t : Int) := by rw [IntKind.wrap_i64]; omega
          clear hof2 hset hyl
          go_wp2_with fail
          go_region_with (first
            | (go_at_call 16; refine (HOF2.out _).mono ?_; rintro e w' ⟨rfl, rfl⟩))
          all_goals
            go_wp2_with fail
            go_roundw
            case rel =>
              refine ⟨k + 1, setL bs y, by omega, by go_num, ?_, ?_, ?_⟩
              · rw [HSET.out, List.map_set]
                exact (hown.out.set_ t (.bool (decide (0 < y)))).keep (below_drewN _ 1)
              · exact below_next (hB.out.setCell (p := ⟨g, t, none⟩) hg1 _) (below_drewN _ 1)
              · rw [take_snoc_of hy.out, List.foldl_append, ← hbs.out]; rfl
            case measure => simp [intOf]; omega
        · have hres : Hid (bs = l.foldl setL a) := by have := hbs.out; rw [List.take_of_length_le (by rw [hll.out]; omega)] at this; exact this
          obtain ⟨q, hq⟩ : ∃ q, Hid (allB xss bs = q) := ⟨_, rfl⟩
          have HALL : Hid (allB (givenF l xss) bs = q ∧ allB (givenF l xss) a = q) := by
            have hz : ∀ z ∈ l, z ≠ 0 := fun z hz => (HLI.out.1 z hz).1
            have := allB_given (l := l) (a := a) (b := bs) (fun z hz => by rw [hres.out]; exact foldl_on l a (fun z hz => ⟨(HLI.out.1 z hz).1, by rw [hal.out]; have := HLI.out.1 z hz; omega⟩) HLI.out.2 z hz) hz (fun z h0 h1 h2 => by rw [hres.out]; exact foldl_off h0 l a hz h1 h2) xss (fun xs hx z hz => ((HROWS.out xs hx).2.1 z hz).1)
            exact ⟨by rw [this.1]; exact hq.out, by rw [this.2, this.1]; exact hq.out⟩
          have HW1 : Hid (withR vars xss p = (0, 0)) := by show _ = _; unfold withR; rw [HC.out, if_neg (by simp), if_neg (by omega)]
          have HW2 : Hid (withR vars (givenF l xss) p = (0, 0)) := by show _ = _; unfold withR; rw [HCG.out, if_neg (by simp), if_neg (by omega)]
          have f0 := keepBox hB.out HD0.out
          have f1 := keepBox hB.out HD1.out
          have x0 := keepBox hB.out HE0.out
          have x1 := keepBox hB.out HE1.out
          have HBb : Hid (Bools wr B2 p d2' bs) := hown.out.sl
          have k1 := g8.keep hB.out
          have k2 := G8.keep hB.out
          have k3 := g82.keep hB.out
          have HB10 := Lib.hid (below_next HB8.out hB.out)
          clear g8 G8 g82 HD0 HD1 HE0 HE1 hown hB hbs
          go_wp2_with fail
          refine (holds_any _ _ _ _ _ _ _ _ _ _ k1 hv HBb.out 0 0 HW1 q (by show _ = _; rw [hq.out]; simp)).mono ?_
          rintro e w5 ⟨rfl, hb5⟩
          have hb6 := below_alloc hb5 (.cells #[.int .i64 0, .int .i64 0] 28)
          have X0 := keepBox hb5 x0
          have X1 := keepBox hb5 x1
          have lx : w1.heap.size < w5.heap.size := (cell_lt X0).1
          have K2 := k2.keep hb6
          have K3 := k3.keep hb6
          have KB := HBb.out.keep hb6
          have HB11 := Lib.hid (below_next HB10.out hb6)
          clear hb5 hb6 x0 x1 f0 f1 k1 k2 k3
          go_wp2_with fail
          refine (holds_any _ _ _ _ _ _ _ _ _ _ K2 hv KB 0 0 HW2 q (by show _ = _; rw [HALL.out.1]; simp)).mono ?_
          rintro e w6 ⟨rfl, hb6⟩
          obtain ⟨y0, y1, ly, B6⟩ := box2 hb6
          have hb7 := below_alloc hb6 (.cells #[.int .i64 0, .int .i64 0] 28)
          have Y0 := keepBox B6 X0
          have Y1 := keepBox B6 X1
          have lx6 : w1.heap.size < w6.heap.size := (cell_lt Y0).1
          have M2 := K2.keep hb7
          have M3 := K3.keep hb7
          have HB12 := Lib.hid (below_next HB11.out hb7)
          clear hb6 hb7 B6 K2 K3 X0 X1
          go_wp2_with fail
          refine (holds_any _ _ _ _ _ _ _ _ _ _ M2 hv M3 0 0 HW2 q (by show _ = _; rw [HALL.out.2]; simp)).mono ?_
          rintro e w7 ⟨rfl, hb8⟩
          obtain ⟨z0, z1, lz, B8⟩ := box2 hb8
          have T0 := keepBox B8 y0
          have lx7 : w5.heap.size < w7.heap.size := (cell_lt T0).1
          have HB13 := Lib.hid (below_next HB12.out hb8)
          have eqq : (q == q) = true := by simp
          clear hb8 B8 Y0 Y1 y0 y1
          go_wp2_with fail
          go_ret
          exact ⟨rfl, below_alloc HB13.out _⟩
    · have d2 : ((p : Int) != vars) = true := by simpa using hmv
      go_wp2_with fail
      go_ret
      exact ⟨rfl, by rw [← HV.out]; exact HB8.out⟩
  · have d1 : (r1 != 0) = true := by simpa using hr1
    go_enter Try.func3, Try.ntmps3
    go_wp2_with fail
    refine (given_wrong _ _ _ _ _ _ _ _ _ _ hk hv hk' _ _ hr hr1).mono ?_
    rintro e w1 ⟨rfl, hb1⟩
    obtain ⟨c0, c1, l0, B1⟩ := box2 hb1
    have HB1 := Lib.hid B1
    clear hb1 B1 hk hk' c0 c1
    go_wp2_with fail
    refine (none_any _ _ _ _ _ (by omega) true (by rfl)).mono ?_
    rintro e w3 ⟨rfl, hb3⟩
    go_wp2_with fail
    go_ret
    exact ⟨rfl, below_next (below_alloc (below_alloc HB1.out _) _) hb3⟩
end Go.Proofs.Ytghebbkpdldjfaa
