/- The walk of OrderKeep: it returns true. (Printed by wip/tools/orderkeep.py.) -/
import Derived.Test.YtplbiepfdfoglaaKeep
import Derived.Test.YtplbiepfdfoglaaRefA
namespace Go.Proofs.Ytplbiepfdfoglaa
open Go.RowKit
set_option linter.unusedSimpArgs false

theorem keeps_one : keepS [5, 4] [3, 3] 1 = ([1], 0, 0) := by decide
/-- Small glues. -/
def gluF (xs : List Int) : List Int := (xs.take 60).map (fun x => x % 9)
theorem negF_none : ∀ (xs ys : List Int) (i : Nat), (∀ x ∈ xs, 0 ≤ x) → (∀ y ∈ ys, 0 ≤ y) → negF xs ys i = (0, 0)
  | [], _, _, _, _ => by simp [negF]
  | _ :: _, [], _, _, _ => by simp [negF]
  | x :: t, y :: u, i, h, h' => by
    have h1 := h x (by simp)
    have h2 := h' y (by simp)
    rw [negF, if_neg (by omega)]
    exact negF_none t u (i + 1) (fun z hz => h z (by simp [hz])) (fun z hz => h' z (by simp [hz]))
theorem keepS_same {l : List Int} {many : Int} (hl : l.length ≤ 3000) (h0 : ∀ x ∈ l, 0 ≤ x) (hm : 0 ≤ many) : keepS l l many = ((keptF l l many).map (fun i : Nat => (i : Int)), 0, 0) := by
  rw [keepS, if_neg (by omega), if_neg (by simp), negF_none l l 0 h0 h0, if_neg (by simp), if_neg (by omega)]
theorem mem_kept {gs ss : List Int} {many : Int} {i : Nat} : i ∈ keptF gs ss many ↔ i < gs.length ∧ ((cntF gs ss i (List.range gs.length) : Int) < many ∨ gs.getD i 0 ≤ 2) := by
  unfold keptF
  rw [List.mem_filter, List.mem_range]
  unfold keepB
  simp
theorem outF_len (gs : List Int) (many : Nat) : ∀ (L : List Nat) (r : Nat), L.length ≤ (outF gs many L r).length ∨ many ≤ (outF gs many L r).length + r
  | [], _ => .inl (by simp)
  | i :: t, r => by
    rw [outF]
    by_cases h : (r : Int) < (many : Int)
    · have : (decide ((r : Int) < (many : Int)) || decide (gs.getD i 0 ≤ 2)) = true := by simp [h]
      rw [if_pos this]
      rcases outF_len gs many t (r + 1) with h1 | h1
      · exact .inl (by simp; omega)
      · exact .inr (by simp; omega)
    · exact .inr (by omega)
theorem kept_len (gs ss : List Int) (many : Nat) : gs.length ≤ (keptF gs ss many).length ∨ many ≤ (keptF gs ss many).length := by
  have htot : ∀ a b : Nat, (!betB gs ss b a || !betB gs ss a b) = true := fun a b => by
    cases h : betB gs ss b a
    · rfl
    · rw [betB_anti h]; rfl
  have htr : ∀ a b c : Nat, (!betB gs ss b a) = true → (!betB gs ss c b) = true → (!betB gs ss c a) = true := fun a b c h1 h2 => by
    simp only [Bool.not_eq_true'] at *
    rw [betB_false] at *
    omega
  have hs := List.pairwise_mergeSort (le := fun a b : Nat => !betB gs ss b a) htr htot (List.range gs.length)
  have hp := List.mergeSort_perm (List.range gs.length) (fun a b : Nat => !betB gs ss b a)
  generalize (List.range gs.length).mergeSort (fun a b : Nat => !betB gs ss b a) = L at hs hp
  have h1 : outF gs many L 0 = L.filter (keepB gs ss gs.length many) := outF_eq hp (hs.imp fun h => by simpa using h) [] L rfl
  have h2 : (keptF gs ss many).length = (outF gs many L 0).length := by rw [h1]; exact (hp.filter _).length_eq.symm
  have h3 : L.length = gs.length := by have := hp.length_eq; simpa using this
  rw [h2, ← h3]
  rcases outF_len gs many L 0 with h | h
  · exact .inl h
  · exact .inr (by omega)
theorem hasB_nat {l : List Nat} {i : Nat} : hasB (l.map (fun i : Nat => (i : Int))) (i : Int) = true ↔ i ∈ l := by
  rw [hasB_iff, List.mem_map]
  constructor
  · rintro ⟨j, hj, e⟩; have : j = i := by omega
    rw [← this]; exact hj
  · exact fun h => ⟨i, h, rfl⟩

set_option maxHeartbeats 8000000 in
set_option maxRecDepth 100000 in
theorem orderKeep_walk {A : Option Addr} {n c : Nat} {xs : List Int} {many more : Int} (w : World) (h : Smalls .u8 255 w A n c xs) (hm : 0 ≤ many ∧ many ≤ 255) (hmo : 0 ≤ more ∧ more ≤ 255) :
    Calls Try.prog 14 #[.slice A n c, .int .u8 many, .int .u8 more] w fun e w' => e = .returned (.bool true) ∧ Below w.heap.size w w' := by
  have hbd := h.bd
  have hlx := Lib.hid h.len
  obtain ⟨i0, hi0, hz0, hz1, hz2⟩ := info_parts int_info
  have G := Lib.hid h
  clear h
  go_enter Try.func14, Try.ntmps14
  go_wp2_with fail
  go_loopw [7, 8] (fun s7 s8 wr => ∃ (i cl : Nat) (L : Option Addr), i ≤ n ∧ i ≤ 60 ∧ s7 = .slice L i cl ∧ s8 = .int .i64 i ∧ Hid (Own 3 wr w.heap.size L i cl (((xs.take i).map (fun x => x % 9)).map (Value.int .i64))) ∧ Hid (Below w.heap.size w wr)) (fun _ s _ => n - (intOf s).toNat)
  case atStart => exact ⟨0, 0, none, Nat.zero_le _, by omega, rfl, rfl, by simpa [Hid] using Own.nil _ _ _, Below.refl _ _⟩
  case round =>
    obtain ⟨i, cl, L, hi, hi60, rfl, rfl, hO, hbl⟩ := hrel
    have hwr := hbl.out.size
    by_cases hlt : i < n ∧ i < 60
    · obtain ⟨h1, h2⟩ := hlt
      obtain ⟨b, off, x, hAe, hb, hcx, x1, x2, hxk⟩ := (G.out.keep hbl.out).round h1
      subst hAe
      have u1 : (0 : Int) ≤ (i : Int) := by omega
      have u2 : (i : Int) < (n : Int) := by omega
      have u3 : decide ((i : Int) < 60) = true := by simp; omega
      have HOK := Lib.hid (hO.out.keep (below_new wr (.cells #[.int .i64 (x % 9)] 3)))
      have hSS := sl_one wr 3 (.int .i64 (x % 9)) rfl
      have ht9 : x.tmod 9 = x % 9 := Int.tmod_eq_emod_of_nonneg x1
      go_wp2_with (first
        | (at_builtin
           refine wpList_append_sl _ rfl (.tmp 26) (.tmp 33) _ rfl w.heap.size 3 i0 _ 8 Try.underlying41 hi0 hz0 hz1 hz2 rfl L i cl _ rfl HOK.out (some ⟨wr.heap.size, 0, none⟩) 1 1 _ rfl hSS (by simp [Value.oneCell']) (by simp only [maxLen]; omega) (by omega) (by simp; omega) ?_
           intro L1 cL1 w6 hL1 hg1 hat1
           have HP6 := Lib.hid hL1
           have HB6 := Lib.hid (below_grown (below_alloc hbl.out (.cells #[.int .i64 (x % 9)] 3)) HOK.out (Nat.le_refl _) hg1)
           clear hL1 hg1 hat1))
      go_roundw
      case rel => exact ⟨i + 1, cL1, L1, by omega, by omega, rfl, by go_num, by rw [take_snoc_of hxk.out, List.map_append, List.map_append]; exact HP6, HB6⟩
      case measure => simp [intOf]; omega
    · have hgl : Hid (gluF xs = (xs.take i).map (fun x => x % 9)) := by
        show _ = _
        unfold gluF
        by_cases h1 : i = 60
        · rw [h1]
        · have h2 : i = n := by omega
          rw [List.take_of_length_le (by rw [hlx.out]; omega), List.take_of_length_le (by rw [hlx.out]; omega)]
      have hO2 := hO.out
      rw [← hgl.out] at hO2
      have HG0 : Hid (∀ x ∈ gluF xs, 0 ≤ x ∧ x ≤ 8) := fun x hx => by
        unfold gluF at hx
        obtain ⟨y, hy, rfl⟩ := List.mem_map.1 hx
        omega
      have IL0 : Ints wr L i cl (gluF xs) := hO2.ints (fun x hx => by have := HG0.out x hx; unfold I64; omega)
      have hgl2 : Hid ((gluF xs).length = i) := IL0.len
      have hbL := IL0.bd
      obtain ⟨wo, hwo⟩ : ∃ wo : World, wo = wr := ⟨_, rfl⟩
      subst hwo
      have HBW := Lib.hid hbl.out
      have hks : Hid (keepS (gluF xs) (gluF xs) many = ((keptF (gluF xs) (gluF xs) many).map (fun i : Nat => (i : Int)), 0, 0)) := keepS_same (by rw [hgl2.out]; omega) (fun x hx => (HG0.out x hx).1) hm.1
      have hks2 : Hid (keepS (gluF xs) (gluF xs) (many + more) = ((keptF (gluF xs) (gluF xs) (many + more)).map (fun i : Nat => (i : Int)), 0, 0)) := keepS_same (by rw [hgl2.out]; omega) (fun x hx => (HG0.out x hx).1) (by omega)
      have IL := Lib.hid IL0
      have hlt2 : i < n → ¬ i < 60 := fun a b => hlt ⟨a, b⟩
      have kI64 : ∀ (mm : Int), ∀ x ∈ (keptF (gluF xs) (gluF xs) mm).map (fun i : Nat => (i : Int)), I64 x := fun mm x hx => by
        obtain ⟨y, hy, rfl⟩ := List.mem_map.1 hx
        have := (mem_kept.1 hy).1
        rw [hgl2.out] at this
        unfold I64
        omega
      have KI := Lib.hid kI64
      clear hO hO2 IL0 hbl kI64 hlt
      obtain ⟨hm0, hm1⟩ := hm
      obtain ⟨ho0, ho1⟩ := hmo
      by_cases hin : i < n
      · have hi6 := hlt2 hin
        have u3 : decide ((i : Int) < 60) = false := by simp; omega
        clear hlt2
        go_wp2_with fail
        refine (keep_any L L i cl i cl (gluF xs) (gluF xs) many wo IL.out IL.out ⟨by omega, by omega⟩ _ 0 0 hks).mono ?_
        rintro e w1 ⟨A1, n1, c1, rfl, hO1, hb1⟩
        have hl1 : Hid ((keptF (gluF xs) (gluF xs) many).length = n1) := by have := hO1.len; simpa [Hid] using this
        have hbk := below_new w1 (.cells #[.int .i64 0, .int .i64 0] 28)
        have I1 := Lib.hid ((hO1.ints (KI.out many)).keep hbk)
        have hb1n := (hO1.ints (KI.out many)).bd
        have BX1 := Lib.hid (below_next hb1 hbk)
        have KF1 := Lib.hid (Blk.new w1 28 #[.int .i64 0, .int .i64 0])
        clear hO1 hb1 hbk
        go_wp2_with fail
        refine (keep_any L L i cl i cl (gluF xs) (gluF xs) (many + more) _ (IL.out.keep BX1.out) (IL.out.keep BX1.out) ⟨by omega, by omega⟩ _ 0 0 hks2).mono ?_
        rintro e w2 ⟨A2, n2, c2, rfl, hO2, hb2⟩
        have hbk := below_new w2 (.cells #[.int .i64 0, .int .i64 0] 28)
        have I2 := Lib.hid ((hO2.ints (KI.out (many + more))).keep hbk)
        have BX2 := Lib.hid (below_next BX1.out (below_next hb2 hbk))
        replace I1 := Lib.hid (I1.out.keep (below_next hb2 hbk))
        replace KF1 := Lib.hid (KF1.out.keep (below_next hb2 hbk))
        have KF2 := Lib.hid (Blk.new w2 28 #[.int .i64 0, .int .i64 0])
        obtain ⟨wa, hwa⟩ : ∃ wa : World, wa = w2.alloc (.cells #[.int .i64 0, .int .i64 0] 28) := ⟨_, rfl⟩
        rw [← hwa] at I2 BX2 I1 KF1 KF2
        have HWA := Lib.hid hwa
        clear hO2 hb2 hbk hwa
        go_wp2_with fail
        rw [← HWA.out]
        have HGS := Lib.hid (ints_made wa 3 [5, 4] (b := wa.heap.size) rfl (by simp [I64]) (by decide))
        have ewa : w2.heap.size + 1 = wa.heap.size := by rw [HWA.out]; simp
        clear HWA
        rw [ewa]
        refine (keep_any _ _ 2 2 2 2 [5, 4] [3, 3] 1 _ (HGS.out.keep (below_new _ _)) (ints_made _ 3 [3, 3] (by simp) (by simp [I64]) (by decide)) ⟨by omega, by omega⟩ [1] 0 0 keeps_one).mono ?_
        rintro e w3 ⟨A3, n3, c3, rfl, hO3, hb3'⟩
        have hb3 := below_next (below_alloc (below_new wa (.cells #[.int .i64 5, .int .i64 4] 3)) (.cells #[.int .i64 3, .int .i64 3] 3)) hb3'
        obtain rfl : 1 = n3 := by have := hO3.len; simpa using this
        have hb3c := (hO3.ints (by simp [I64])).bd
        have hbk := below_new w3 (.cells #[.int .i64 0, .int .i64 0] 28)
        have I3 := Lib.hid ((hO3.ints (by simp [I64])).keep hbk)
        have BX3 := Lib.hid (below_next BX2.out (below_next hb3 hbk))
        replace I1 := Lib.hid (I1.out.keep (below_next hb3 hbk))
        replace I2 := Lib.hid (I2.out.keep (below_next hb3 hbk))
        have a0 := (KF1.out.keep hb3).cell 0
        have a1 := (KF2.out.keep hb3).cell 0
        have a2 := (KF1.out.keep hb3).lt
        have a3 := (KF2.out.keep hb3).lt
        simp at a0 a1
        clear hO3 hb3' hb3 hbk KF1 KF2
        have hlen3 : Hid (decide ((n1 : Int) < (i : Int)) = false ∨ decide ((n1 : Int) < many) = false) := by
          show _ ∨ _
          rcases kept_len (gluF xs) (gluF xs) many.toNat with h1 | h1
          · rw [show ((many.toNat : Nat) : Int) = many by omega, hl1.out, hgl2.out] at h1
            exact .inl (by simp; omega)
          · rw [show ((many.toNat : Nat) : Int) = many by omega, hl1.out] at h1
            exact .inr (by simp; omega)
        go_wp2_with fail
        refine ((same_any _ _ _ _ _ _ _ [1] _ (I3.out.keep (below_new _ _)) (ints_made _ 3 [1] (by simp) (by simp [I64]) (by decide)) true (by show _ = _; rw [sameB_iff])).mono (fun _ _ hh => hh.v)).mono ?_
        rintro e w4 ⟨rfl, hb4'⟩
        have hb4 := below_next (below_new (w3.alloc (.cells #[.int .i64 0, .int .i64 0] 28)) (.cells #[.int .i64 1] 3)) hb4'
        have BX4 := Lib.hid (below_next BX3.out hb4)
        replace I1 := Lib.hid (I1.out.keep hb4)
        replace I2 := Lib.hid (I2.out.keep hb4)
        have ILx := Lib.hid (IL.out.keep BX4.out)
        clear hb4 hb4' a0 a1 a2 a3 I3
        obtain ⟨wb, hwb⟩ : ∃ wb : World, wb = w4 := ⟨_, rfl⟩
        subst hwb
        by_cases d6 : (n1 : Int) < (i : Int)
        · have d5 : ¬ (n1 : Int) < many := by
            rcases hlen3.out with d5 | d5
            · simp at d5; omega
            · simpa using d5
          · go_wp2_with fail
            go_loopw [15] (fun s wr => ∃ j : Nat, j ≤ i ∧ s = .int .i64 j ∧ Hid (Below wb.heap.size wb wr)) (fun s _ => i - (intOf s).toNat)
            case atStart => exact ⟨0, Nat.zero_le _, rfl, Below.refl _ _⟩
            case round =>
              obtain ⟨j, hj, rfl, hbj⟩ := hrel
              by_cases hlj : j < i
              · obtain ⟨bL, oL, v, hLe, hbL, hcv, v1, v2, hvk⟩ := (ILx.out.keep hbj.out).round hlj
                subst hLe
                have y1 : (0 : Int) ≤ (j : Int) := by omega
                have y2 : (j : Int) < (i : Int) := by omega
                have hv2 : Hid ((gluF xs).getD j 0 = v) := getD_at hvk.out
                obtain ⟨ra, hra⟩ : ∃ ra, Hid (hasB ((keptF (gluF xs) (gluF xs) many).map (fun i : Nat => (i : Int))) (j : Int) = ra) := ⟨_, rfl⟩
                go_wp2_with fail
                refine ((has_any _ _ _ _ _ _ (I1.out.keep hbj.out) ra hra).mono (fun _ _ hh => hh.v)).mono ?_
                rintro e w5 ⟨rfl, hb5⟩
                have hc5 := keepBox hb5 hcv
                have BJ5 := Lib.hid (below_next hbj.out hb5)
                clear hb5 hcv hbL
                cases ra
                · have hv3 : ¬ v ≤ 2 := fun e => by
                    have h1 : j ∈ keptF (gluF xs) (gluF xs) many := mem_kept.2 ⟨by rw [hgl2.out]; exact hlj, .inr (by rw [hv2.out]; exact e)⟩
                    have h2 := hasB_nat.2 h1
                    rw [hra.out] at h2
                    cases h2
                  go_wp2_with fail
                  go_roundw
                  case rel => exact ⟨j + 1, by omega, by go_num, BJ5⟩
                  case measure => simp [intOf]; omega
                · have hrb : Hid (hasB ((keptF (gluF xs) (gluF xs) (many + more)).map (fun i : Nat => (i : Int))) (j : Int) = true) := by
                    have h1 := hasB_nat.1 hra.out
                    rw [mem_kept] at h1
                    exact hasB_nat.2 (mem_kept.2 ⟨h1.1, h1.2.imp (fun h => by omega) id⟩)
                  go_wp2_with fail
                  refine ((has_any _ _ _ _ _ _ (I2.out.keep BJ5.out) true hrb).mono (fun _ _ hh => hh.v)).mono ?_
                  rintro e w6 ⟨rfl, hb6⟩
                  have hc6 := keepBox hb6 hc5
                  have BJ6 := Lib.hid (below_next BJ5.out hb6)
                  have lbL := (cell_lt hc6).1
                  clear hb6 hc5
                  by_cases hv3 : v ≤ 2
                  · go_wp2_with fail
                    refine ((has_any _ _ _ _ _ _ (I1.out.keep BJ6.out) true hra).mono (fun _ _ hh => hh.v)).mono ?_
                    rintro e w7 ⟨rfl, hb7⟩
                    have BJ7 := Lib.hid (below_next BJ6.out hb7)
                    clear hb7 hc6
                    go_wp2_with fail
                    go_roundw
                    case rel => exact ⟨j + 1, by omega, by go_num, BJ7⟩
                    case measure => simp [intOf]; omega
                  · go_wp2_with fail
                    go_roundw
                    case rel => exact ⟨j + 1, by omega, by go_num, BJ6⟩
                    case measure => simp [intOf]; omega
              · obtain rfl : j = i := by omega
                go_wp2_with fail
                go_ret
                exact ⟨rfl, below_next HBW.out (below_next BX4.out hbj.out)⟩
        · go_wp2_with fail
          go_loopw [15] (fun s wr => ∃ j : Nat, j ≤ i ∧ s = .int .i64 j ∧ Hid (Below wb.heap.size wb wr)) (fun s _ => i - (intOf s).toNat)
          case atStart => exact ⟨0, Nat.zero_le _, rfl, Below.refl _ _⟩
          case round =>
            obtain ⟨j, hj, rfl, hbj⟩ := hrel
            by_cases hlj : j < i
            · obtain ⟨bL, oL, v, hLe, hbL, hcv, v1, v2, hvk⟩ := (ILx.out.keep hbj.out).round hlj
              subst hLe
              have y1 : (0 : Int) ≤ (j : Int) := by omega
              have y2 : (j : Int) < (i : Int) := by omega
              have hv2 : Hid ((gluF xs).getD j 0 = v) := getD_at hvk.out
              obtain ⟨ra, hra⟩ : ∃ ra, Hid (hasB ((keptF (gluF xs) (gluF xs) many).map (fun i : Nat => (i : Int))) (j : Int) = ra) := ⟨_, rfl⟩
              go_wp2_with fail
              refine ((has_any _ _ _ _ _ _ (I1.out.keep hbj.out) ra hra).mono (fun _ _ hh => hh.v)).mono ?_
              rintro e w5 ⟨rfl, hb5⟩
              have hc5 := keepBox hb5 hcv
              have BJ5 := Lib.hid (below_next hbj.out hb5)
              clear hb5 hcv hbL
              cases ra
              · have hv3 : ¬ v ≤ 2 := fun e => by
                  have h1 : j ∈ keptF (gluF xs) (gluF xs) many := mem_kept.2 ⟨by rw [hgl2.out]; exact hlj, .inr (by rw [hv2.out]; exact e)⟩
                  have h2 := hasB_nat.2 h1
                  rw [hra.out] at h2
                  cases h2
                go_wp2_with fail
                go_roundw
                case rel => exact ⟨j + 1, by omega, by go_num, BJ5⟩
                case measure => simp [intOf]; omega
              · have hrb : Hid (hasB ((keptF (gluF xs) (gluF xs) (many + more)).map (fun i : Nat => (i : Int))) (j : Int) = true) := by
                  have h1 := hasB_nat.1 hra.out
                  rw [mem_kept] at h1
                  exact hasB_nat.2 (mem_kept.2 ⟨h1.1, h1.2.imp (fun h => by omega) id⟩)
                go_wp2_with fail
                refine ((has_any _ _ _ _ _ _ (I2.out.keep BJ5.out) true hrb).mono (fun _ _ hh => hh.v)).mono ?_
                rintro e w6 ⟨rfl, hb6⟩
                have hc6 := keepBox hb6 hc5
                have BJ6 := Lib.hid (below_next BJ5.out hb6)
                have lbL := (cell_lt hc6).1
                clear hb6 hc5
                by_cases hv3 : v ≤ 2
                · go_wp2_with fail
                  refine ((has_any _ _ _ _ _ _ (I1.out.keep BJ6.out) true hra).mono (fun _ _ hh => hh.v)).mono ?_
                  rintro e w7 ⟨rfl, hb7⟩
                  have BJ7 := Lib.hid (below_next BJ6.out hb7)
                  clear hb7 hc6
                  go_wp2_with fail
                  go_roundw
                  case rel => exact ⟨j + 1, by omega, by go_num, BJ7⟩
                  case measure => simp [intOf]; omega
                · go_wp2_with fail
                  go_roundw
                  case rel => exact ⟨j + 1, by omega, by go_num, BJ6⟩
                  case measure => simp [intOf]; omega
            · obtain rfl : j = i := by omega
              go_wp2_with fail
              go_ret
              exact ⟨rfl, below_next HBW.out (below_next BX4.out hbj.out)⟩
      · clear hlt2
        go_wp2_with fail
        refine (keep_any L L i cl i cl (gluF xs) (gluF xs) many wo IL.out IL.out ⟨by omega, by omega⟩ _ 0 0 hks).mono ?_
        rintro e w1 ⟨A1, n1, c1, rfl, hO1, hb1⟩
        have hl1 : Hid ((keptF (gluF xs) (gluF xs) many).length = n1) := by have := hO1.len; simpa [Hid] using this
        have hbk := below_new w1 (.cells #[.int .i64 0, .int .i64 0] 28)
        have I1 := Lib.hid ((hO1.ints (KI.out many)).keep hbk)
        have hb1n := (hO1.ints (KI.out many)).bd
        have BX1 := Lib.hid (below_next hb1 hbk)
        have KF1 := Lib.hid (Blk.new w1 28 #[.int .i64 0, .int .i64 0])
        clear hO1 hb1 hbk
        go_wp2_with fail
        refine (keep_any L L i cl i cl (gluF xs) (gluF xs) (many + more) _ (IL.out.keep BX1.out) (IL.out.keep BX1.out) ⟨by omega, by omega⟩ _ 0 0 hks2).mono ?_
        rintro e w2 ⟨A2, n2, c2, rfl, hO2, hb2⟩
        have hbk := below_new w2 (.cells #[.int .i64 0, .int .i64 0] 28)
        have I2 := Lib.hid ((hO2.ints (KI.out (many + more))).keep hbk)
        have BX2 := Lib.hid (below_next BX1.out (below_next hb2 hbk))
        replace I1 := Lib.hid (I1.out.keep (below_next hb2 hbk))
        replace KF1 := Lib.hid (KF1.out.keep (below_next hb2 hbk))
        have KF2 := Lib.hid (Blk.new w2 28 #[.int .i64 0, .int .i64 0])
        obtain ⟨wa, hwa⟩ : ∃ wa : World, wa = w2.alloc (.cells #[.int .i64 0, .int .i64 0] 28) := ⟨_, rfl⟩
        rw [← hwa] at I2 BX2 I1 KF1 KF2
        have HWA := Lib.hid hwa
        clear hO2 hb2 hbk hwa
        go_wp2_with fail
        rw [← HWA.out]
        have HGS := Lib.hid (ints_made wa 3 [5, 4] (b := wa.heap.size) rfl (by simp [I64]) (by decide))
        have ewa : w2.heap.size + 1 = wa.heap.size := by rw [HWA.out]; simp
        clear HWA
        rw [ewa]
        refine (keep_any _ _ 2 2 2 2 [5, 4] [3, 3] 1 _ (HGS.out.keep (below_new _ _)) (ints_made _ 3 [3, 3] (by simp) (by simp [I64]) (by decide)) ⟨by omega, by omega⟩ [1] 0 0 keeps_one).mono ?_
        rintro e w3 ⟨A3, n3, c3, rfl, hO3, hb3'⟩
        have hb3 := below_next (below_alloc (below_new wa (.cells #[.int .i64 5, .int .i64 4] 3)) (.cells #[.int .i64 3, .int .i64 3] 3)) hb3'
        obtain rfl : 1 = n3 := by have := hO3.len; simpa using this
        have hb3c := (hO3.ints (by simp [I64])).bd
        have hbk := below_new w3 (.cells #[.int .i64 0, .int .i64 0] 28)
        have I3 := Lib.hid ((hO3.ints (by simp [I64])).keep hbk)
        have BX3 := Lib.hid (below_next BX2.out (below_next hb3 hbk))
        replace I1 := Lib.hid (I1.out.keep (below_next hb3 hbk))
        replace I2 := Lib.hid (I2.out.keep (below_next hb3 hbk))
        have a0 := (KF1.out.keep hb3).cell 0
        have a1 := (KF2.out.keep hb3).cell 0
        have a2 := (KF1.out.keep hb3).lt
        have a3 := (KF2.out.keep hb3).lt
        simp at a0 a1
        clear hO3 hb3' hb3 hbk KF1 KF2
        have hlen3 : Hid (decide ((n1 : Int) < (i : Int)) = false ∨ decide ((n1 : Int) < many) = false) := by
          show _ ∨ _
          rcases kept_len (gluF xs) (gluF xs) many.toNat with h1 | h1
          · rw [show ((many.toNat : Nat) : Int) = many by omega, hl1.out, hgl2.out] at h1
            exact .inl (by simp; omega)
          · rw [show ((many.toNat : Nat) : Int) = many by omega, hl1.out] at h1
            exact .inr (by simp; omega)
        go_wp2_with fail
        refine ((same_any _ _ _ _ _ _ _ [1] _ (I3.out.keep (below_new _ _)) (ints_made _ 3 [1] (by simp) (by simp [I64]) (by decide)) true (by show _ = _; rw [sameB_iff])).mono (fun _ _ hh => hh.v)).mono ?_
        rintro e w4 ⟨rfl, hb4'⟩
        have hb4 := below_next (below_new (w3.alloc (.cells #[.int .i64 0, .int .i64 0] 28)) (.cells #[.int .i64 1] 3)) hb4'
        have BX4 := Lib.hid (below_next BX3.out hb4)
        replace I1 := Lib.hid (I1.out.keep hb4)
        replace I2 := Lib.hid (I2.out.keep hb4)
        have ILx := Lib.hid (IL.out.keep BX4.out)
        clear hb4 hb4' a0 a1 a2 a3 I3
        obtain ⟨wb, hwb⟩ : ∃ wb : World, wb = w4 := ⟨_, rfl⟩
        subst hwb
        by_cases d6 : (n1 : Int) < (i : Int)
        · have d5 : ¬ (n1 : Int) < many := by
            rcases hlen3.out with d5 | d5
            · simp at d5; omega
            · simpa using d5
          · go_wp2_with fail
            go_loopw [15] (fun s wr => ∃ j : Nat, j ≤ i ∧ s = .int .i64 j ∧ Hid (Below wb.heap.size wb wr)) (fun s _ => i - (intOf s).toNat)
            case atStart => exact ⟨0, Nat.zero_le _, rfl, Below.refl _ _⟩
            case round =>
              obtain ⟨j, hj, rfl, hbj⟩ := hrel
              by_cases hlj : j < i
              · obtain ⟨bL, oL, v, hLe, hbL, hcv, v1, v2, hvk⟩ := (ILx.out.keep hbj.out).round hlj
                subst hLe
                have y1 : (0 : Int) ≤ (j : Int) := by omega
                have y2 : (j : Int) < (i : Int) := by omega
                have hv2 : Hid ((gluF xs).getD j 0 = v) := getD_at hvk.out
                obtain ⟨ra, hra⟩ : ∃ ra, Hid (hasB ((keptF (gluF xs) (gluF xs) many).map (fun i : Nat => (i : Int))) (j : Int) = ra) := ⟨_, rfl⟩
                go_wp2_with fail
                refine ((has_any _ _ _ _ _ _ (I1.out.keep hbj.out) ra hra).mono (fun _ _ hh => hh.v)).mono ?_
                rintro e w5 ⟨rfl, hb5⟩
                have hc5 := keepBox hb5 hcv
                have BJ5 := Lib.hid (below_next hbj.out hb5)
                clear hb5 hcv hbL
                cases ra
                · have hv3 : ¬ v ≤ 2 := fun e => by
                    have h1 : j ∈ keptF (gluF xs) (gluF xs) many := mem_kept.2 ⟨by rw [hgl2.out]; exact hlj, .inr (by rw [hv2.out]; exact e)⟩
                    have h2 := hasB_nat.2 h1
                    rw [hra.out] at h2
                    cases h2
                  go_wp2_with fail
                  go_roundw
                  case rel => exact ⟨j + 1, by omega, by go_num, BJ5⟩
                  case measure => simp [intOf]; omega
                · have hrb : Hid (hasB ((keptF (gluF xs) (gluF xs) (many + more)).map (fun i : Nat => (i : Int))) (j : Int) = true) := by
                    have h1 := hasB_nat.1 hra.out
                    rw [mem_kept] at h1
                    exact hasB_nat.2 (mem_kept.2 ⟨h1.1, h1.2.imp (fun h => by omega) id⟩)
                  go_wp2_with fail
                  refine ((has_any _ _ _ _ _ _ (I2.out.keep BJ5.out) true hrb).mono (fun _ _ hh => hh.v)).mono ?_
                  rintro e w6 ⟨rfl, hb6⟩
                  have hc6 := keepBox hb6 hc5
                  have BJ6 := Lib.hid (below_next BJ5.out hb6)
                  have lbL := (cell_lt hc6).1
                  clear hb6 hc5
                  by_cases hv3 : v ≤ 2
                  · go_wp2_with fail
                    refine ((has_any _ _ _ _ _ _ (I1.out.keep BJ6.out) true hra).mono (fun _ _ hh => hh.v)).mono ?_
                    rintro e w7 ⟨rfl, hb7⟩
                    have BJ7 := Lib.hid (below_next BJ6.out hb7)
                    clear hb7 hc6
                    go_wp2_with fail
                    go_roundw
                    case rel => exact ⟨j + 1, by omega, by go_num, BJ7⟩
                    case measure => simp [intOf]; omega
                  · go_wp2_with fail
                    go_roundw
                    case rel => exact ⟨j + 1, by omega, by go_num, BJ6⟩
                    case measure => simp [intOf]; omega
              · obtain rfl : j = i := by omega
                go_wp2_with fail
                go_ret
                exact ⟨rfl, below_next HBW.out (below_next BX4.out hbj.out)⟩
        · go_wp2_with fail
          go_loopw [15] (fun s wr => ∃ j : Nat, j ≤ i ∧ s = .int .i64 j ∧ Hid (Below wb.heap.size wb wr)) (fun s _ => i - (intOf s).toNat)
          case atStart => exact ⟨0, Nat.zero_le _, rfl, Below.refl _ _⟩
          case round =>
            obtain ⟨j, hj, rfl, hbj⟩ := hrel
            by_cases hlj : j < i
            · obtain ⟨bL, oL, v, hLe, hbL, hcv, v1, v2, hvk⟩ := (ILx.out.keep hbj.out).round hlj
              subst hLe
              have y1 : (0 : Int) ≤ (j : Int) := by omega
              have y2 : (j : Int) < (i : Int) := by omega
              have hv2 : Hid ((gluF xs).getD j 0 = v) := getD_at hvk.out
              obtain ⟨ra, hra⟩ : ∃ ra, Hid (hasB ((keptF (gluF xs) (gluF xs) many).map (fun i : Nat => (i : Int))) (j : Int) = ra) := ⟨_, rfl⟩
              go_wp2_with fail
              refine ((has_any _ _ _ _ _ _ (I1.out.keep hbj.out) ra hra).mono (fun _ _ hh => hh.v)).mono ?_
              rintro e w5 ⟨rfl, hb5⟩
              have hc5 := keepBox hb5 hcv
              have BJ5 := Lib.hid (below_next hbj.out hb5)
              clear hb5 hcv hbL
              cases ra
              · have hv3 : ¬ v ≤ 2 := fun e => by
                  have h1 : j ∈ keptF (gluF xs) (gluF xs) many := mem_kept.2 ⟨by rw [hgl2.out]; exact hlj, .inr (by rw [hv2.out]; exact e)⟩
                  have h2 := hasB_nat.2 h1
                  rw [hra.out] at h2
                  cases h2
                go_wp2_with fail
                go_roundw
                case rel => exact ⟨j + 1, by omega, by go_num, BJ5⟩
                case measure => simp [intOf]; omega
              · have hrb : Hid (hasB ((keptF (gluF xs) (gluF xs) (many + more)).map (fun i : Nat => (i : Int))) (j : Int) = true) := by
                  have h1 := hasB_nat.1 hra.out
                  rw [mem_kept] at h1
                  exact hasB_nat.2 (mem_kept.2 ⟨h1.1, h1.2.imp (fun h => by omega) id⟩)
                go_wp2_with fail
                refine ((has_any _ _ _ _ _ _ (I2.out.keep BJ5.out) true hrb).mono (fun _ _ hh => hh.v)).mono ?_
                rintro e w6 ⟨rfl, hb6⟩
                have hc6 := keepBox hb6 hc5
                have BJ6 := Lib.hid (below_next BJ5.out hb6)
                have lbL := (cell_lt hc6).1
                clear hb6 hc5
                by_cases hv3 : v ≤ 2
                · go_wp2_with fail
                  refine ((has_any _ _ _ _ _ _ (I1.out.keep BJ6.out) true hra).mono (fun _ _ hh => hh.v)).mono ?_
                  rintro e w7 ⟨rfl, hb7⟩
                  have BJ7 := Lib.hid (below_next BJ6.out hb7)
                  clear hb7 hc6
                  go_wp2_with fail
                  go_roundw
                  case rel => exact ⟨j + 1, by omega, by go_num, BJ7⟩
                  case measure => simp [intOf]; omega
                · go_wp2_with fail
                  go_roundw
                  case rel => exact ⟨j + 1, by omega, by go_num, BJ6⟩
                  case measure => simp [intOf]; omega
            · obtain rfl : j = i := by omega
              go_wp2_with fail
              go_ret
              exact ⟨rfl, below_next HBW.out (below_next BX4.out hbj.out)⟩
end Go.Proofs.Ytplbiepfdfoglaa
