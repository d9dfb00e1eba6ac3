/- Contract of the reference's Taught. -/
import Derived.Test.YtabjbpkojbdgaaaPlace
import Derived.Test.YtabjbpkojbdgaaaRefSort
namespace Go.Proofs.Ytabjbpkojbdgaaa
open Go.RowKit
set_option linter.unusedSimpArgs false

def RetTaughtR (R : List Int) (bk : Int) (w : World) (e : Ending) (w' : World) : Prop :=
  ∃ A n c, e = .returned (.tuple #[.slice A n c, .int .i64 bk]) ∧ Ints w' A n c R ∧ Below w.heap.size w w'
theorem plc_ref (t : List Int) (l : Int) : idxF (fun y => y == -l) t 0 = plcF t l := rfl

set_option maxHeartbeats 8000000 in
set_option maxRecDepth 100000 in
theorem taught_ref (W : World) (A : Option Addr) (n c : Nat) (xss : List (List Int)) (L : Option Addr) (nl cl : Nat) (t : List Int) (Y : Option Addr) (ny cy : Nat) (y : List Int) (V : Option Addr) (nv cv : Nat) (v : List Int) (z : Nat) (a vars : Int)
    (hg : Grid W A n c xss) (hL : Ints W L nl cl t) (hY : Ints W Y ny cy y) (hV : Ints W V nv cv v) (v0 : 0 ≤ vars) (v1 : vars ≤ 1000)
    (hT : Told vars xss t y v z a) (ha : 0 ≤ a) (hc : ∀ c ∈ xss, Lits vars c) (hz6 : z ≤ 1000000) (R : List Int) (hR : Hid (taughtF xss t y v z a = R)) (bk : Int) (hbk : Hid (backF t v z R 0 = bk)) :
    Calls Try.prog 18 #[.slice A n c, .agg #[.slice L nl cl, .slice Y ny cy, .int .i64 a], .slice V nv cv, .int .i64 z] W (RetTaughtR R bk W) := by
  obtain ⟨fc, f1, f2, f3⟩ := hT.fals ha
  obtain ⟨aN, haN⟩ : ∃ aN : Nat, a = (aN : Int) := ⟨a.toNat, by omega⟩
  subst haN
  by_cases hz : z = 0
  · subst hz
    have e1 : R = [] := by rw [← hR.out]; exact taught_zero hT ha
    have e2 : bk = 0 := by rw [← hbk.out, e1]; rfl
    subst e1 e2
    clear hg hL hY hV hT hc hR hbk f1 f2 f3
    go_enter Try.func18, Try.ntmps18
    go_wp2_with fail
    go_ret2
    exact ⟨none, 0, 0, rfl, (Own.nil 3 _ 0).ints (xs := []) (by simp), below_new _ _⟩
  · simp only [Int.toNat_natCast] at f1
    have hxl : aN < n := by rw [← hg.len]; exact (List.getElem?_eq_some_iff.1 f1).1
    obtain ⟨b, off, A', n', c', xs, hAe, hb, hcell, hx, hxk⟩ := hg.round hxl
    obtain rfl : fc = xs := by have := hxk.out; rw [f1] at this; injection this
    have hfl := hc fc f2
    have HC0 := Lib.hid (con_first (v := v) (z := z) hfl f3)
    obtain ⟨R0, hr0⟩ : ∃ R0, Hid (cloR xss t y v z fc = R0) := ⟨_, rfl⟩
    have hR0 : Hid (sortF (R0.filter (fun l => !(lvF t v l == 0))) = R) := by have := hR.out; rw [taughtF, List.getD_eq_getElem?_getD] at this; simp only [Int.toNat_natCast] at this; rw [f1] at this; rw [← hr0.out]; exact this
    have hF0 : Hid (cloF xss t y v z (t.length + 1) fc = R0) := by have := hr0.out; rw [cloR, if_neg hz] at this; exact this
    have hn6 : n' ≤ 1000 := by have := hfl.len_le v0; rw [hx.len] at this; omega
    subst hAe
    have HG := Lib.hid hg
    have HLL := Lib.hid hL
    have HYY := Lib.hid hY
    have HVV := Lib.hid hV
    have HT := Lib.hid hT
    have HCX := Lib.hid hc
    have HX := Lib.hid hx
    have hbd := hg.bd
    obtain ⟨i0, hi0, hz0, hz1, hz2⟩ := info_parts int_info
    have q1 : (0 : Int) ≤ (aN : Int) := by omega
    have q2 : (aN : Int) < (n : Int) := by omega
    have dz : ((z : Int) == 0) = false := by rw [beq_eq_false_iff_ne]; omega
    obtain ⟨wd, hwd⟩ : ∃ wd : World, wd = W.alloc (.cells #[.slice L nl cl, .slice Y ny cy, .int .i64 aN] 35) := ⟨_, rfl⟩
    have HBD : Hid (Below W.heap.size W wd) := by rw [hwd]; exact below_new _ _
    have KD : Hid (Blk wd W.heap.size 35 #[.slice L nl cl, .slice Y ny cy, .int .i64 aN]) := by rw [hwd]; exact Blk.new _ _ _
    have HSD : Hid (wd.heap.size = W.heap.size + 1) := by rw [hwd]; simp [Hid]
    have HXD := Lib.hid (HX.out.keep (below_next HBD.out (below_new wd (.cells #[] 3))))
    have HOE : Hid (Own 3 (wd.alloc (.cells #[] 3)) (W.heap.size + 1) (some ⟨W.heap.size + 1, 0, none⟩) 0 0 []) := own_empty _ wd _ HSD.out.symm (by have := HSD.out; omega)
    have HWD := Lib.hid hwd
    clear hg hL hY hV hT hc hR hx hxk f1 f2 f3 hfl hr0 hwd
    go_enter Try.func18, Try.ntmps18
    go_wp2_with (first
      | (at_builtin
         refine wpList_append_sl _ rfl (.tmp 25) (.tmp 30) _ rfl (W.heap.size + 1) 3 i0 _ 8 Try.underlying25 hi0 hz0 hz1 hz2 rfl (some ⟨W.heap.size + 1, 0, none⟩) 0 0 [] rfl (by rw [← HWD.out]; exact HOE.out) A' n' c' (fc.map (Value.int .i64)) rfl (by rw [← HWD.out]; exact HXD.out.sl) (ints_one _) (by simp only [maxLen]; omega) (by omega) (by simp) ?_
         intro L1 cL1 w1 hL1 hg1 hat1
         rw [← HWD.out] at hg1
         have HL1 : Hid (Own 3 w1 (W.heap.size + 1) L1 n' cL1 (fc.map (Value.int .i64))) := by simpa [Hid] using hL1
         have HB1 : Hid (Below wd.heap.size wd w1) := below_grown (below_new wd (.cells #[] 3)) HOE.out (by have := HSD.out; omega) hg1
         clear hL1 hg1 hat1))
    obtain ⟨lo, hlo⟩ : ∃ lo, lo = W.heap.size + 1 := ⟨_, rfl⟩
    obtain ⟨bx, hbx⟩ : ∃ bx, bx = W.heap.size := ⟨_, rfl⟩
    have HSL : Hid (wd.heap.size = lo) := by rw [hlo]; exact HSD.out
    rw [← hlo] at HL1
    rw [← hbx] at KD ⊢
    have HTL : Hid (t.length ≤ 1000) := by have := HT.out.lits.len_le v0; show _ ≤ _; omega
    have HLD := Lib.hid (HLL.out.keep HBD.out)
    have HYD := Lib.hid (HYY.out.keep HBD.out)
    have HVD := Lib.hid (HVV.out.keep HBD.out)
    have HGD := Lib.hid (HG.out.keep HBD.out)
    clear HOE HWD HXD HX HLL HYY HVV HG hlo hbx
    go_loopg [10] (t.length) (fun f s wr => ∃ (A5 : Option Addr) (n5 c5 : Nat) (cc : List Int), s = .slice A5 n5 c5 ∧ Hid (Own 3 wr lo A5 n5 c5 (cc.map (Value.int .i64))) ∧ Hid (Con t v z cc f) ∧ Hid (cloF xss t y v z (f + 1) cc = R0) ∧ Hid (Below wd.heap.size wd wr))
    case atStart => exact ⟨L1, n', cL1, fc, rfl, HL1, HC0, hF0, HB1⟩
    case round =>
      clear HL1 HC0 hF0 HB1
      obtain ⟨A5, n5, c5, cc, rfl, hO, hC, hF, hB⟩ := hrel
      have HCN := hC
      have HCB : Hid (∀ x ∈ cc, -1000000 ≤ x ∧ x ≤ 1000000) := fun x hx => by have := HT.out.lits.1 _ (hC.out.neg x hx); omega
      have HN5 : Hid (n5 ≤ 1000) := by
        have g3 := hO.out.len
        rw [List.length_map] at g3
        have g4 := length_le_of_sub cc (t.map (fun x => -x)) hC.out.nd (fun x hx => List.mem_map.2 ⟨-x, hC.out.neg x hx, by omega⟩)
        rw [List.length_map] at g4
        have := HTL.out
        show _ ≤ _
        omega
      have HI : Hid (∀ x ∈ cc, I64 x) := fun x hx => by have := HCB.out x hx; unfold I64; omega
      obtain ⟨p0, m0, hlat⟩ : ∃ p0 m0, Hid (lateF t v z cc (-1) 0 = (p0, m0)) := ⟨_, _, rfl⟩
      clear hC
      go_wp2_with fail
      go_loopw [11, 12, 13] (fun s11 s12 s13 wr => ∃ (k : Nat) (p m : Int), k ≤ n5 ∧ 0 ≤ m ∧ m ≤ k ∧ -1 ≤ p ∧ p ≤ 1000 ∧ s11 = .int .i64 m ∧ s12 = .int .i64 p ∧ s13 = .int .i64 k ∧ Hid (Own 3 wr lo A5 n5 c5 (cc.map (Value.int .i64))) ∧ Hid (Below wd.heap.size wd wr) ∧ Hid (lateF t v z (cc.drop k) p m = (p0, m0))) (fun _ _ i _ => n5 - (intOf i).toNat)
      case atStart => exact ⟨0, -1, 0, Nat.zero_le _, Int.le_refl _, Int.le_refl _, Int.le_refl _, by omega, rfl, rfl, rfl, hO, hB, hlat⟩
      case round =>
        clear hO hB
        obtain ⟨k, p, m, hk, hm0, hmk, hp0, hp1, rfl, rfl, rfl, hO, hB, hlt⟩ := hrel
        have hn5 : n5 ≤ 1000 := HN5.out
        have HK := Lib.hid (KD.out.keep hB.out)
        have k0 := HK.out.cell 0
        simp at k0
        have zk := (cell_lt k0).1
        have HLR := Lib.hid (HLD.out.keep hB.out)
        have HVR := Lib.hid (HVD.out.keep hB.out)
        by_cases hkn : k < n5
        · obtain ⟨b1, off1, x, hAe, hbb, hcell1, x1, x2, hxk⟩ := (hO.out.ints HI.out).round hkn
          have hxm := List.mem_of_getElem? hxk.out
          have hxb := HCB.out x hxm
          have hxt := HCN.out.neg x hxm
          obtain ⟨P, hP⟩ : ∃ P : Nat, plcF t x = (P : Int) := ⟨(plcF t x).toNat, by have := (plc_mem hxt).1; omega⟩
          have hPt : P < t.length := by have := (plc_mem hxt).2.1; omega
          have hPv : P < nv := by rw [← HVR.out.len, HT.out.lev.len, HT.out.hist.1]; exact hPt
          obtain ⟨b4, off4, lv, hVe, hb4, hcell4, lv1, lv2, hlk⟩ := HVR.out.round hPv
          have hlv : Hid (lvF t v x = lv) := by rw [lvF, hP, Int.toNat_natCast, List.getD_eq_getElem?_getD, hlk.out]; rfl
          have hst : Hid ((if lv = z then lateF t v z (cc.drop (k + 1)) (if p < (P : Int) then (P : Int) else p) (m + 1) else lateF t v z (cc.drop (k + 1)) p m) = (p0, m0)) := by have := hlt.out; rw [drop_cons_of hxk.out, lateF, hlv.out, hP] at this; exact this
          have HP : Hid (idxF (fun y => y == -x) t 0 = (P : Int)) := hP
          have hTl := HTL.out
          clear hlt hxm hxt hP hlk
          subst hAe hVe
          have u1 : (0 : Int) ≤ (P : Int) := by omega
          have u2 : (P : Int) < (nv : Int) := by omega
          have u3 : (0 : Int) ≤ (k : Int) := by omega
          have u4 : (k : Int) < (n5 : Int) := by omega
          go_wp2_with fail
          go_quiet ((go_at_call 27; exact RetQ.quiet (place_ref L nl cl t (-x) _ (HLR.out.keep (below_drewN _ _)) _ HP)))
          by_cases hle : lv = (z : Int)
          · by_cases hpp : p < (P : Int)
            · have hst2 : Hid (lateF t v z (cc.drop (k + 1)) (P : Int) (m + 1) = (p0, m0)) := by have := hst.out; rw [if_pos hle, if_pos hpp] at this; exact this
              clear hst
              go_wp2_with fail
              go_roundw
              case rel => exact ⟨k + 1, (P : Int), (m + 1), by omega, by omega, by omega, by omega, by omega, by first | rfl | go_num, by first | rfl | go_num, by go_num, hO.out.keep (below_drewN _ _), below_next hB.out (below_drewN _ _), hst2⟩
              case measure => simp [intOf]; omega
            · have hst2 : Hid (lateF t v z (cc.drop (k + 1)) p (m + 1) = (p0, m0)) := by have := hst.out; rw [if_pos hle, if_neg hpp] at this; exact this
              clear hst
              go_wp2_with fail
              go_roundw
              case rel => exact ⟨k + 1, p, (m + 1), by omega, by omega, by omega, by omega, by omega, by first | rfl | go_num, by first | rfl | go_num, by go_num, hO.out.keep (below_drewN _ _), below_next hB.out (below_drewN _ _), hst2⟩
              case measure => simp [intOf]; omega
          · have hst2 : Hid (lateF t v z (cc.drop (k + 1)) p m = (p0, m0)) := by have := hst.out; rw [if_neg hle] at this; exact this
            clear hst
            go_wp2_with fail
            go_roundw
            case rel => exact ⟨k + 1, p, m, by omega, by omega, by omega, by omega, by omega, by first | rfl | go_num, by first | rfl | go_num, by go_num, hO.out.keep (below_drewN _ _), below_next hB.out (below_drewN _ _), hst2⟩
            case measure => simp [intOf]; omega
        · have hfin : (p, m) = (p0, m0) := by have := hlt.out; rw [List.drop_of_length_le (by have := hO.out.len; rw [List.length_map] at this; omega), lateF] at this; exact this
          obtain ⟨rfl, rfl⟩ : p = p0 ∧ m = m0 := by simpa using hfin
          clear hfin hlt
          have hrel := lat_late (v := v) (z := (z : Int)) HT.out.lits.zero cc 0 (-1) 0 HCN.out.neg (.inl ⟨rfl, rfl⟩)
          obtain ⟨la, m1, hla⟩ : ∃ la m1, Hid (latF t v z cc 0 0 = (la, m1)) := ⟨_, _, rfl⟩
          rw [hla.out, hlat.out] at hrel
          obtain ⟨hmm, hlp⟩ := hrel
          obtain rfl : m1 = m := hmm
          by_cases hm2 : m1 < 2
          · have hF2 : Hid (cc = R0) := by have := hF.out; rw [cloF, hla.out, if_pos hm2] at this; exact this
            have hR1 : Hid (sortF (cc.filter (fun l => !(lvF t v l == 0))) = R) := by have := hR0.out; rw [← hF2.out] at this; exact this
            have hb1 : Hid (backF t v z cc 0 = bk) := by rw [← back_eq, hR1.out]; exact hbk.out
            clear hF hF2
            go_wp2_with fail
            go_loopw [19, 20, 21] (fun s19 s20 s21 wr => ∃ (k : Nat) (A7 : Option Addr) (n7 c7 : Nat) (nn : List Int) (b : Int), k ≤ n5 ∧ n7 ≤ k ∧ 0 ≤ b ∧ b ≤ 1000000 ∧ s19 = .slice A7 n7 c7 ∧ s20 = .int .i64 b ∧ s21 = .int .i64 k ∧ Hid (Own 3 wr lo A7 n7 c7 (nn.map (Value.int .i64))) ∧ Hid (∀ x ∈ nn, -1000000 ≤ x ∧ x ≤ 1000000) ∧ Hid (nn ++ (cc.drop k).filter (fun l => !(lvF t v l == 0)) = cc.filter (fun l => !(lvF t v l == 0))) ∧ Hid (backF t v z (cc.drop k) b = bk) ∧ Hid (Below wd.heap.size wd wr) ∧ Hid (Own 3 wr lo A5 n5 c5 (cc.map (Value.int .i64))) ∧ Hid (blockOf A5 = none ∨ blockOf A5 ≠ blockOf A7)) (fun _ _ i _ => n5 - (intOf i).toNat)
            case atStart => exact ⟨0, none, 0, 0, [], 0, Nat.zero_le _, Nat.le_refl _, Int.le_refl _, by omega, rfl, rfl, rfl, Own.nil _ _ _, by simp [Hid], by simp [Hid], hb1, hB, hO, by by_cases h : blockOf A5 = none; exact .inl h; exact .inr h⟩
            case round =>
              clear hO hB k0 zk HK HLR HVR
              obtain ⟨k, A7, n7, c7, nn, bb, hk, hn7, hb0, hbb1, rfl, rfl, rfl, HO7, hN, hfl, hbf, HBW, HO5, hNe⟩ := hrel
              have HK := Lib.hid (KD.out.keep HBW.out)
              have k0 := HK.out.cell 0
              simp at k0
              have zk := (cell_lt k0).1
              have HLR := Lib.hid (HLD.out.keep HBW.out)
              have HVR := Lib.hid (HVD.out.keep HBW.out)
              by_cases hkn : k < n5
              · obtain ⟨b1, off1, x, hAe, hbb, hcell1, x1, x2, hxk⟩ := (HO5.out.ints HI.out).round hkn
                have hxm := List.mem_of_getElem? hxk.out
                have hxb := HCB.out x hxm
                have hxt := HCN.out.neg x hxm
                obtain ⟨P, hP⟩ : ∃ P : Nat, plcF t x = (P : Int) := ⟨(plcF t x).toNat, by have := (plc_mem hxt).1; omega⟩
                have hPt : P < t.length := by have := (plc_mem hxt).2.1; omega
                have hPv : P < nv := by rw [← HVR.out.len, HT.out.lev.len, HT.out.hist.1]; exact hPt
                obtain ⟨b4, off4, lv, hVe, hb4, hcell4, lv1, lv2, hlk⟩ := HVR.out.round hPv
                have hlv : Hid (lvF t v x = lv) := by rw [lvF, hP, Int.toNat_natCast, List.getD_eq_getElem?_getD, hlk.out]; rfl
                have hlr := lv_range HT.out hz6 hxt hlv.out
                have hst : Hid (backF t v z (cc.drop (k + 1)) (if lv < z then max bb lv else bb) = bk) := by have := hbf.out; rw [drop_cons_of hxk.out, backF, hlv.out] at this; exact this
                have hfl1 : Hid (nn ++ (if lv = 0 then (cc.drop (k + 1)).filter (fun l => !(lvF t v l == 0)) else x :: (cc.drop (k + 1)).filter (fun l => !(lvF t v l == 0))) = cc.filter (fun l => !(lvF t v l == 0))) := by
                  have := hfl.out
                  rw [drop_cons_of hxk.out, List.filter_cons, hlv.out] at this
                  by_cases h0 : lv = 0 <;> simpa [h0, Hid] using this
                have HP : Hid (idxF (fun y => y == -x) t 0 = (P : Int)) := hP
                clear hbf hfl hxm hxt hP hlk hPt
                subst hVe
                have hA5e : Hid (A5 = some ⟨b1, off1, none⟩) := hAe
                have u1 : (0 : Int) ≤ (P : Int) := by omega
                have u2 : (P : Int) < (nv : Int) := by omega
                have u3 : (0 : Int) ≤ (k : Int) := by omega
                have u4 : (k : Int) < (n5 : Int) := by omega
                subst hAe
                go_wp2_with fail
                go_quiet ((go_at_call 27; exact RetQ.quiet (place_ref L nl cl t (-x) _ (HLR.out.keep (below_drewN _ _)) _ HP)))
                obtain ⟨wq, hwq⟩ : ∃ wq : World, wq = wr.drewN nq := ⟨_, rfl⟩
                have hbq : Below wr.heap.size wr wq := by rw [hwq]; exact below_drewN _ _
                (try rw [← hwq])
                replace HO7 := Lib.hid (HO7.out.keep hbq)
                replace HO5 := Lib.hid (HO5.out.keep hbq)
                replace HBW := Lib.hid (below_next HBW.out hbq)
                have hcellq := keepBox hbq hcell1
                have zq1 := (cell_lt hcellq).1
                have hqz := HBW.out.size
                clear hwq hbq hcell1 hcell4 k0 zk HK HLR HVR hbb hb4
                by_cases hl0 : lv = 0
                · have hfl2 : Hid (nn ++ (cc.drop (k + 1)).filter (fun l => !(lvF t v l == 0)) = cc.filter (fun l => !(lvF t v l == 0))) := by have := hfl1.out; rw [if_pos hl0] at this; exact this
                  clear hfl1
                  have hst2 : Hid (backF t v z (cc.drop (k + 1)) bb = bk) := by have := hst.out; rw [if_pos (by omega), Int.max_eq_left (by omega)] at this; exact this
                  clear hst
                  go_wp2_with fail
                  go_roundw
                  case rel => exact ⟨k + 1, A7, n7, c7, nn, bb, by omega, by omega, by omega, by omega, rfl, by first | rfl | go_num, by go_num, HO7, hN, hfl2, hst2, HBW, HO5, hNe⟩
                  case measure => simp [intOf] <;> omega
                · have hfl2 : Hid (nn ++ x :: (cc.drop (k + 1)).filter (fun l => !(lvF t v l == 0)) = cc.filter (fun l => !(lvF t v l == 0))) := by have := hfl1.out; rw [if_neg hl0] at this; exact this
                  have hS := ints_made wq 3 [x] rfl (by simp [I64]; omega) (by simp [maxLen])
                  clear hfl1
                  by_cases hlz : lv < (z : Int)
                  · by_cases hmx : bb < lv
                    · have hst2 : Hid (backF t v z (cc.drop (k + 1)) lv = bk) := by have := hst.out; rw [if_pos hlz, Int.max_eq_right (by omega)] at this; exact this
                      clear hst
                      go_wp2_with (first
                        | (at_builtin
                           refine wpList_append_sl _ rfl (.tmp 144) (.tmp 149) _ rfl lo 3 i0 _ 8 Try.underlying25 hi0 hz0 hz1 hz2 rfl A7 n7 c7 _ rfl (HO7.out.keep (below_new _ _)) (some ⟨wq.heap.size, 0, none⟩) 1 1 _ rfl hS.sl (ints_one _) (by simp only [maxLen]; omega) (by omega) (by have := HSL.out; have := hqz; simp; omega) ?_
                           intro L1 cL1 w9 hL1 hg1 hat1
                           have HL1 := Lib.hid hL1
                           have HB9 : Hid (Below wd.heap.size wd w9) := below_grown (below_alloc HBW.out (.cells #[.int .i64 x] 3)) (HO7.out.keep (below_new wq (.cells #[.int .i64 x] 3))) (by have := HSL.out; omega) hg1
                           have HO9 := Lib.hid ((HO5.out.keep (below_new wq (.cells #[.int .i64 x] 3))).kept hg1 hNe.out)
                           have HN9 : Hid (blockOf (some (⟨b1, off1, none⟩ : Addr)) = none ∨ blockOf (some (⟨b1, off1, none⟩ : Addr)) ≠ blockOf L1) := by
                             rcases hat1 with h | h
                             · rw [h]; exact hNe.out
                             · right; rw [h]; exact HO5.out.ltb (by simp)
                           clear hL1 hg1 hat1))
                      go_roundw
                      case rel =>
                        refine ⟨k + 1, L1, n7 + 1, cL1, nn ++ [x], lv, by omega, by omega, by omega, by omega, rfl, by first | rfl | go_num, by go_num, by rw [Hid, List.map_append]; exact HL1.out, ?_, by have := hfl2.out; simpa [Hid] using this, hst2, HB9, HO9, HN9⟩
                        intro q hq
                        rcases List.mem_append.1 hq with hq | hq
                        · exact hN.out q hq
                        · simp at hq; subst hq; exact hxb
                      case measure => simp [intOf] <;> omega
                    · have hst2 : Hid (backF t v z (cc.drop (k + 1)) bb = bk) := by have := hst.out; rw [if_pos hlz, Int.max_eq_left (by omega)] at this; exact this
                      clear hst
                      go_wp2_with (first
                        | (at_builtin
                           refine wpList_append_sl _ rfl (.tmp 144) (.tmp 149) _ rfl lo 3 i0 _ 8 Try.underlying25 hi0 hz0 hz1 hz2 rfl A7 n7 c7 _ rfl (HO7.out.keep (below_new _ _)) (some ⟨wq.heap.size, 0, none⟩) 1 1 _ rfl hS.sl (ints_one _) (by simp only [maxLen]; omega) (by omega) (by have := HSL.out; have := hqz; simp; omega) ?_
                           intro L1 cL1 w9 hL1 hg1 hat1
                           have HL1 := Lib.hid hL1
                           have HB9 : Hid (Below wd.heap.size wd w9) := below_grown (below_alloc HBW.out (.cells #[.int .i64 x] 3)) (HO7.out.keep (below_new wq (.cells #[.int .i64 x] 3))) (by have := HSL.out; omega) hg1
                           have HO9 := Lib.hid ((HO5.out.keep (below_new wq (.cells #[.int .i64 x] 3))).kept hg1 hNe.out)
                           have HN9 : Hid (blockOf (some (⟨b1, off1, none⟩ : Addr)) = none ∨ blockOf (some (⟨b1, off1, none⟩ : Addr)) ≠ blockOf L1) := by
                             rcases hat1 with h | h
                             · rw [h]; exact hNe.out
                             · right; rw [h]; exact HO5.out.ltb (by simp)
                           clear hL1 hg1 hat1))
                      go_roundw
                      case rel =>
                        refine ⟨k + 1, L1, n7 + 1, cL1, nn ++ [x], bb, by omega, by omega, by omega, by omega, rfl, by first | rfl | go_num, by go_num, by rw [Hid, List.map_append]; exact HL1.out, ?_, by have := hfl2.out; simpa [Hid] using this, hst2, HB9, HO9, HN9⟩
                        intro q hq
                        rcases List.mem_append.1 hq with hq | hq
                        · exact hN.out q hq
                        · simp at hq; subst hq; exact hxb
                      case measure => simp [intOf] <;> omega
                  · have hst2 : Hid (backF t v z (cc.drop (k + 1)) bb = bk) := by have := hst.out; rw [if_neg hlz] at this; exact this
                    clear hst
                    go_wp2_with (first
                      | (at_builtin
                         refine wpList_append_sl _ rfl (.tmp 144) (.tmp 149) _ rfl lo 3 i0 _ 8 Try.underlying25 hi0 hz0 hz1 hz2 rfl A7 n7 c7 _ rfl (HO7.out.keep (below_new _ _)) (some ⟨wq.heap.size, 0, none⟩) 1 1 _ rfl hS.sl (ints_one _) (by simp only [maxLen]; omega) (by omega) (by have := HSL.out; have := hqz; simp; omega) ?_
                         intro L1 cL1 w9 hL1 hg1 hat1
                         have HL1 := Lib.hid hL1
                         have HB9 : Hid (Below wd.heap.size wd w9) := below_grown (below_alloc HBW.out (.cells #[.int .i64 x] 3)) (HO7.out.keep (below_new wq (.cells #[.int .i64 x] 3))) (by have := HSL.out; omega) hg1
                         have HO9 := Lib.hid ((HO5.out.keep (below_new wq (.cells #[.int .i64 x] 3))).kept hg1 hNe.out)
                         have HN9 : Hid (blockOf (some (⟨b1, off1, none⟩ : Addr)) = none ∨ blockOf (some (⟨b1, off1, none⟩ : Addr)) ≠ blockOf L1) := by
                           rcases hat1 with h | h
                           · rw [h]; exact hNe.out
                           · right; rw [h]; exact HO5.out.ltb (by simp)
                         clear hL1 hg1 hat1))
                    go_roundw
                    case rel =>
                      refine ⟨k + 1, L1, n7 + 1, cL1, nn ++ [x], bb, by omega, by omega, by omega, by omega, rfl, by first | rfl | go_num, by go_num, by rw [Hid, List.map_append]; exact HL1.out, ?_, by have := hfl2.out; simpa [Hid] using this, hst2, HB9, HO9, HN9⟩
                      intro q hq
                      rcases List.mem_append.1 hq with hq | hq
                      · exact hN.out q hq
                      · simp at hq; subst hq; exact hxb
                    case measure => simp [intOf] <;> omega
              · have hfin : bb = bk := by have := hbf.out; rw [List.drop_of_length_le (by have := HO5.out.len; rw [List.length_map] at this; omega), backF] at this; exact this
                have hnn : Hid (sortF nn = R) := by have := hfl.out; rw [List.drop_of_length_le (by have := HO5.out.len; rw [List.length_map] at this; omega)] at this; simp at this; rw [this]; exact hR1.out
                subst hfin
                clear hbf hfl k0 zk HK HLR HVR
                go_wp2_with fail
                refine (sorted_ref A7 n7 c7 nn _ (HO7.out.ints (fun x hx => by have := hN.out x hx; unfold I64; omega)) hN.out (by omega)).mono ?_
                rintro e w7 ⟨A8, n8, c8, rfl, hown8, hb8⟩
                rw [hnn.out] at hown8
                have HRI : Hid (∀ x ∈ R, I64 x) := fun x hx => by rw [← hnn.out, sortF_mem] at hx; have := hN.out x hx; unfold I64; omega
                have O8 := Lib.hid hown8
                have HB8 := Lib.hid (below_next (below_next HBD.out HBW.out) hb8)
                clear hown8 hb8
                go_wp2_with fail
                go_ret2
                exact ⟨A8, n8, c8, rfl, O8.out.ints HRI.out, HB8.out⟩
          · have hcs := con_step HT.out HCN.out (by rw [hla.out]; exact hm2)
            rw [hla.out] at hcs
            obtain ⟨jla, jlt, j0, jy, jx, jneg, jtk, jcon⟩ := hcs
            have hp : p = plcF t la := by
              rcases hlp with ⟨e1, _⟩ | ⟨_, _, e3⟩
              · exact absurd (HCN.out.neg la jla) (by simp only at e1; rw [e1]; simpa using HT.out.lits.zero)
              · exact e3
            have jlt2 : plcF t la < (gk : Int) := jlt
            have j02 : 0 ≤ plcF t la := j0
            obtain ⟨P, hP⟩ : ∃ P : Nat, plcF t la = (P : Int) := ⟨(plcF t la).toNat, by omega⟩
            have hlab := HCB.out la jla
            have hpm := (plc_mem (HCN.out.neg la jla)).2.2
            have hpl := (plc_mem (HCN.out.neg la jla)).2.1
            have HCON : Hid (Con t v z (resF xss t y cc la) ((gk - 1 : Nat) : Int)) := ⟨jcon.neg, jcon.nd, fun l hl hlz => by have := jcon.low l hl hlz; omega⟩
            have hgk : Hid (gk - 1 + 1 = gk) := by show _ = _; omega
            simp only [hP, Int.toNat_natCast] at jy jx hpl hpm
            obtain ⟨Q, hQ⟩ : ∃ Q : Nat, y.getD P 0 = (Q : Int) := ⟨(y.getD P 0).toNat, by omega⟩
            rw [hQ, Int.toNat_natCast] at jx
            have hQn : Q < n := by rw [← HGD.out.len]; exact (List.getElem?_eq_some_iff.1 jx).1
            have hF3 : Hid (cloF xss t y v z gk (resF xss t y cc la) = R0) := by have := hF.out; rw [cloF, hla.out, if_neg (by omega)] at this; exact this
            rw [hP] at hp
            subst hp
            have hPn : P < nl := by rw [← HLD.out.len]; omega
            have hPy : P < ny := by rw [← HYD.out.len, HT.out.hist.1]; omega
            obtain ⟨tp, htp⟩ : ∃ tp, tp = -la := ⟨_, rfl⟩
            obtain rfl : la = -tp := by omega
            simp only [Int.neg_neg] at hpm
            clear htp
            obtain ⟨bL, offL, tv, hLe, hbL, hcellL, tv1, tv2, htk⟩ := HLD.out.round hPn
            obtain rfl : tv = tp := by have := htk.out; rw [hpm] at this; injection this with this; exact this.symm
            obtain ⟨bY, offY, yv, hYe, hbY, hcellY, yv1, yv2, hyk⟩ := HYD.out.round hPy
            obtain rfl : yv = (Q : Int) := by have := hyk.out; rw [← hQ, List.getD_eq_getElem?_getD, this]; rfl
            obtain ⟨b3, off3, A3, n3, c3, xs3, hA3, hb3, hcell3, hx3, hxk3⟩ := HGD.out.round hQn
            obtain ⟨br, hbr⟩ : ∃ q, Hid (bringF xss t y (-tv) = q) := ⟨_, rfl⟩
            rw [hbr.out] at jx
            obtain rfl : br = xs3 := by have := hxk3.out; rw [jx] at this; injection this
            have hlb := HCX.out _ (List.mem_of_getElem? jx)
            have hn3 : n3 ≤ 1000 := by have := hlb.len_le v0; rw [hx3.len] at this; omega
            have HBL : Hid (∀ x ∈ br, -1000000 ≤ x ∧ x ≤ 1000000) := fun x hx => by have := hlb.1 x hx; omega
            have HX3 := Lib.hid hx3
            have hadd : Hid (addF tv br (cc.filter (fun l => l != -tv)) = resF xss t y cc (-tv)) := by rw [resF, hbr.out, Int.neg_neg]; rfl
            obtain ⟨res, hres⟩ : ∃ r, Hid (resF xss t y cc (-tv) = r) := ⟨_, rfl⟩
            rw [hres.out] at hadd hF3 HCON
            have hn5 : n5 ≤ 1000 := HN5.out
            have tb : -1000000 ≤ tv ∧ tv ≤ 1000000 := by omega
            have k1 := HK.out.cell 1
            simp at k1
            have hcellL1 := keepBox hB.out hcellL
            have hcellY1 := keepBox hB.out hcellY
            have hcell31 := keepBox hB.out hcell3
            have zL1 := (cell_lt hcellL1).1
            have zY1 := (cell_lt hcellY1).1
            have z31 := (cell_lt hcell31).1
            have p1 : (0 : Int) ≤ (P : Int) := by omega
            have p2 : (P : Int) < (nl : Int) := by omega
            have p3 : (P : Int) < (ny : Int) := by omega
            have p4 : (0 : Int) ≤ (Q : Int) := by omega
            have p5 : (Q : Int) < (n : Int) := by omega
            subst hLe hYe
            cases hA3
            clear jla jlt j0 jy jx jneg jtk jcon jlt2 j02 hlp hpm hpl hQ htk hyk hbr hres hxk3 hx3 hlb HVR HLR hla hlat hP hF HCN hlab
            go_wp2_with fail
            go_loopw [16, 17] (fun s16 s17 wr => ∃ (k : Nat) (A7 : Option Addr) (n7 c7 : Nat) (nn : List Int), k ≤ n5 ∧ n7 ≤ k ∧ s16 = .slice A7 n7 c7 ∧ s17 = .int .i64 k ∧ Hid (Own 3 wr lo A7 n7 c7 (nn.map (Value.int .i64))) ∧ Hid (∀ x ∈ nn, -1000000 ≤ x ∧ x ≤ 1000000) ∧ Hid (nn ++ (cc.drop k).filter (fun l => l != -tv) = cc.filter (fun l => l != -tv)) ∧ Hid (Below wd.heap.size wd wr) ∧ Hid (Own 3 wr lo A5 n5 c5 (cc.map (Value.int .i64))) ∧ Hid (blockOf A5 = none ∨ blockOf A5 ≠ blockOf A7)) (fun _ i _ => n5 - (intOf i).toNat)
            case atStart => exact ⟨0, none, 0, 0, [], Nat.zero_le _, Nat.le_refl _, rfl, rfl, Own.nil _ _ _, by simp [Hid], by simp [Hid], hB, hO, by by_cases h : blockOf A5 = none; exact .inl h; exact .inr h⟩
            case round =>
              clear hO hB k0 k1 zk HK hcellL1 hcellY1 hcell31 zL1 zY1 z31
              obtain ⟨k, A7, n7, c7, nn, hk, hn7, rfl, rfl, HO7, hN, hfl, HBW, HO5, hNe⟩ := hrel
              have HK := Lib.hid (KD.out.keep HBW.out)
              have k0 := HK.out.cell 0
              simp at k0
              have zk := (cell_lt k0).1
              have hcellL1 := keepBox HBW.out hcellL
              have zL1 := (cell_lt hcellL1).1
              by_cases hkn : k < n5
              · obtain ⟨b1, off1, x, hAe, hbb, hcell1, x1, x2, hxk⟩ := (HO5.out.ints HI.out).round hkn
                have hxb := HCB.out x (List.mem_of_getElem? hxk.out)
                have hst : Hid (nn ++ (if x = -tv then (cc.drop (k + 1)).filter (fun l => l != -tv) else x :: (cc.drop (k + 1)).filter (fun l => l != -tv)) = cc.filter (fun l => l != -tv)) := by
                  have := hfl.out
                  rw [drop_cons_of hxk.out, List.filter_cons] at this
                  by_cases h0 : x = -tv
                  · subst h0; simpa [Hid] using this
                  · simpa [h0, Hid] using this
                clear hfl hxk
                subst hAe
                have u3 : (0 : Int) ≤ (k : Int) := by omega
                have u4 : (k : Int) < (n5 : Int) := by omega
                have z1 := (cell_lt hcell1).1
                by_cases hxe : x = -tv
                · have hst2 : Hid (nn ++ (cc.drop (k + 1)).filter (fun l => l != -tv) = cc.filter (fun l => l != -tv)) := by have := hst.out; rw [if_pos hxe] at this; exact this
                  have dx : (x == -tv) = true := by rw [beq_iff_eq]; exact hxe
                  clear hst
                  go_wp2_with fail
                  go_quiet (fail)
                  go_wp2_with fail
                  go_roundw
                  case rel => exact ⟨k + 1, A7, n7, c7, nn, by omega, by omega, rfl, by go_num, HO7.out.keep (below_drewN _ _), hN, hst2, below_next HBW.out (below_drewN _ _), HO5.out.keep (below_drewN _ _), hNe⟩
                  case measure => simp [intOf] <;> omega
                · have hst2 : Hid (nn ++ x :: (cc.drop (k + 1)).filter (fun l => l != -tv) = cc.filter (fun l => l != -tv)) := by have := hst.out; rw [if_neg hxe] at this; exact this
                  have dx : (x == -tv) = false := by rw [beq_eq_false_iff_ne]; exact hxe
                  clear hst
                  go_wp2_with fail
                  go_quiet (fail)
                  obtain ⟨wq, hwq⟩ : ∃ wq : World, wq = wr.drewN nq := ⟨_, rfl⟩
                  have hbq : Below wr.heap.size wr wq := by rw [hwq]; exact below_drewN _ _
                  (try rw [← hwq])
                  replace HO7 := Lib.hid (HO7.out.keep hbq)
                  replace HO5 := Lib.hid (HO5.out.keep hbq)
                  replace HBW := Lib.hid (below_next HBW.out hbq)
                  have hcellq := keepBox hbq hcell1
                  have zq1 := (cell_lt hcellq).1
                  have hqz := HBW.out.size
                  have hS := ints_made wq 3 [x] rfl (by simp [I64]; omega) (by simp [maxLen])
                  clear hwq hbq hcell1 k0 zk HK hcellL1 zL1 z1 hbb
                  go_wp2_with (first
                    | (at_builtin
                       refine wpList_append_sl _ rfl (.tmp 85) (.tmp 90) _ rfl lo 3 i0 _ 8 Try.underlying25 hi0 hz0 hz1 hz2 rfl A7 n7 c7 _ rfl (HO7.out.keep (below_new _ _)) (some ⟨wq.heap.size, 0, none⟩) 1 1 _ rfl hS.sl (ints_one _) (by simp only [maxLen]; omega) (by omega) (by have := HSL.out; have := hqz; simp; omega) ?_
                       intro L1 cL1 w9 hL1 hg1 hat1
                       have HL1 := Lib.hid hL1
                       have HB9 : Hid (Below wd.heap.size wd w9) := below_grown (below_alloc HBW.out (.cells #[.int .i64 x] 3)) (HO7.out.keep (below_new wq (.cells #[.int .i64 x] 3))) (by have := HSL.out; omega) hg1
                       have HO9 := Lib.hid ((HO5.out.keep (below_new wq (.cells #[.int .i64 x] 3))).kept hg1 hNe.out)
                       have HN9 : Hid (blockOf (some (⟨b1, off1, none⟩ : Addr)) = none ∨ blockOf (some (⟨b1, off1, none⟩ : Addr)) ≠ blockOf L1) := by
                         rcases hat1 with h | h
                         · rw [h]; exact hNe.out
                         · right; rw [h]; exact HO5.out.ltb (by simp)
                       clear hL1 hg1 hat1))
                  go_roundw
                  case rel =>
                    refine ⟨k + 1, L1, n7 + 1, cL1, nn ++ [x], by omega, by omega, rfl, by go_num, by rw [Hid, List.map_append]; exact HL1.out, ?_, by have := hst2.out; simpa [Hid] using this, HB9, HO9, HN9⟩
                    intro q hq
                    rcases List.mem_append.1 hq with hq | hq
                    · exact hN.out q hq
                    · simp at hq; subst hq; exact hxb
                  case measure => simp [intOf] <;> omega
              · have hnn : Hid (nn = cc.filter (fun l => l != -tv)) := by have := hfl.out; rw [List.drop_of_length_le (by have := HO5.out.len; rw [List.length_map] at this; omega)] at this; simpa [Hid] using this
                have had0 : Hid (addF tv (br.drop 0) nn = res) := by rw [hnn.out]; exact hadd.out
                clear hfl hadd HO5 hNe hnn
                have hn7b : n7 ≤ 1000 := by omega
                go_wp2_with fail
                go_loopw [16, 18] (fun s16 s18 wr => ∃ (k : Nat) (A8 : Option Addr) (n8 c8 : Nat) (mm : List Int), k ≤ n3 ∧ n8 ≤ 1000 + k ∧ s16 = .slice A8 n8 c8 ∧ s18 = .int .i64 k ∧ Hid (Own 3 wr lo A8 n8 c8 (mm.map (Value.int .i64))) ∧ Hid (∀ x ∈ mm, -1000000 ≤ x ∧ x ≤ 1000000) ∧ Hid (Below wd.heap.size wd wr) ∧ Hid (addF tv (br.drop k) mm = res)) (fun _ i _ => n3 - (intOf i).toNat)
                case atStart => exact ⟨0, A7, n7, c7, nn, Nat.zero_le _, by omega, rfl, rfl, HO7, hN, HBW, had0⟩
                case round =>
                  clear HO7 hN HBW had0 k0 zk HK hcellL1 zL1
                  obtain ⟨k, A8, n8, c8, mm, hk, hn8, rfl, rfl, HO8, hM, HBW, had⟩ := hrel
                  have HK := Lib.hid (KD.out.keep HBW.out)
                  have k0 := HK.out.cell 0
                  simp at k0
                  have zk := (cell_lt k0).1
                  have hcellL1 := keepBox HBW.out hcellL
                  have zL1 := (cell_lt hcellL1).1
                  have HXR := Lib.hid (HX3.out.keep HBW.out)
                  have HIN : Hid (∀ x ∈ mm, I64 x) := fun x hx => by have := hM.out x hx; unfold I64; omega
                  by_cases hkn : k < n3
                  · obtain ⟨b5, off5, x, hAe, hbb, hcell5, x1, x2, hxk⟩ := HXR.out.round hkn
                    have hxb := HBL.out x (List.mem_of_getElem? hxk.out)
                    have had2 : Hid ((if x != tv && !hasB mm x then addF tv (br.drop (k + 1)) (mm ++ [x]) else addF tv (br.drop (k + 1)) mm) = res) := by have := had.out; rw [drop_cons_of hxk.out, addF] at this; exact this
                    subst hAe
                    clear had hxk
                    have u3 : (0 : Int) ≤ (k : Int) := by omega
                    have u4 : (k : Int) < (n3 : Int) := by omega
                    have z5 := (cell_lt hcell5).1
                    by_cases hxe : x = tv
                    · have had3 : Hid (addF tv (br.drop (k + 1)) mm = res) := by have := had2.out; rw [hxe] at this; simpa [Hid] using this
                      have dx : (x == tv) = true := by rw [beq_iff_eq]; exact hxe
                      clear had2
                      go_wp2_with fail
                      go_quiet (fail)
                      go_wp2_with fail
                      go_roundw
                      case rel => exact ⟨k + 1, A8, n8, c8, mm, by omega, by omega, rfl, by go_num, HO8.out.keep (below_drewN _ _), hM, below_next HBW.out (below_drewN _ _), had3⟩
                      case measure => simp [intOf] <;> omega
                    · have dx : (x == tv) = false := by rw [beq_eq_false_iff_ne]; exact hxe
                      have dx2 : (x != tv) = true := by simpa using hxe
                      obtain ⟨q, hq⟩ : ∃ q, Hid (hasB mm x = q) := ⟨_, rfl⟩
                      have had3 : Hid ((if q then addF tv (br.drop (k + 1)) mm else addF tv (br.drop (k + 1)) (mm ++ [x])) = res) := by
                        have := had2.out
                        rw [hq.out, bne, dx] at this
                        cases q <;> simpa [Hid] using this
                      clear had2
                      have HIR := Lib.hid (HO8.out.ints HIN.out)
                      go_wp2_with fail
                      go_quiet ((go_at_call 29; exact RetQ.quiet (has_any A8 n8 c8 mm x _ (HIR.out.keep (below_drewN _ _)) q hq)))
                      obtain ⟨wq, hwq⟩ : ∃ wq : World, wq = wr.drewN nq := ⟨_, rfl⟩
                      have hbq : Below wr.heap.size wr wq := by rw [hwq]; exact below_drewN _ _
                      (try rw [← hwq])
                      replace HO8 := Lib.hid (HO8.out.keep hbq)
                      replace HBW := Lib.hid (below_next HBW.out hbq)
                      have hcellq := keepBox hbq hcell5
                      have zq1 := (cell_lt hcellq).1
                      have hqz := HBW.out.size
                      clear hwq hbq hcell5 k0 zk HK hcellL1 zL1 z5 hbb HXR HIR
                      cases q
                      · have hS := ints_made wq 3 [x] rfl (by simp [I64]; omega) (by simp [maxLen])
                        go_wp2_with (first
                          | (at_builtin
                             refine wpList_append_sl _ rfl (.tmp 117) (.tmp 122) _ rfl lo 3 i0 _ 8 Try.underlying25 hi0 hz0 hz1 hz2 rfl A8 n8 c8 _ rfl (HO8.out.keep (below_new _ _)) (some ⟨wq.heap.size, 0, none⟩) 1 1 _ rfl hS.sl (ints_one _) (by simp only [maxLen]; omega) (by omega) (by have := HSL.out; have := hqz; simp; omega) ?_
                             intro L1 cL1 w9 hL1 hg1 hat1
                             have HL1 := Lib.hid hL1
                             have HB9 : Hid (Below wd.heap.size wd w9) := below_grown (below_alloc HBW.out (.cells #[.int .i64 x] 3)) (HO8.out.keep (below_new wq (.cells #[.int .i64 x] 3))) (by have := HSL.out; omega) hg1
                             skip
                             clear hL1 hg1 hat1))
                        go_roundw
                        case rel =>
                          refine ⟨k + 1, L1, n8 + 1, cL1, mm ++ [x], by omega, by omega, rfl, by go_num, by rw [Hid, List.map_append]; exact HL1.out, ?_, HB9, by have := had3.out; simpa [Hid] using this⟩
                          intro q hq
                          rcases List.mem_append.1 hq with hq | hq
                          · exact hM.out q hq
                          · simp at hq; subst hq; exact hxb
                        case measure => simp [intOf] <;> omega
                      · go_wp2_with fail
                        go_roundw
                        case rel => exact ⟨k + 1, A8, n8, c8, mm, by omega, by omega, rfl, by go_num, HO8, hM, HBW, by have := had3.out; simpa [Hid] using this⟩
                        case measure => simp [intOf] <;> omega
                  · have hfin : Hid (mm = res) := by have := had.out; rw [List.drop_of_length_le (by rw [HXR.out.len]; omega), addF] at this; exact this
                    have hcon : Hid (Con t v z mm ((gk - 1 : Nat) : Int)) := by rw [hfin.out]; exact HCON
                    have hclo : Hid (cloF xss t y v z gk mm = R0) := by rw [hfin.out]; exact hF3
                    clear had
                    go_wp2_with fail
                    go_roundg (gk - 1)
                    case measure => have := hgk.out; omega
                    case rel => exact ⟨A8, n8, c8, mm, rfl, HO8, hcon, by rw [hgk.out]; exact hclo, HBW⟩
end Go.Proofs.Ytabjbpkojbdgaaa
