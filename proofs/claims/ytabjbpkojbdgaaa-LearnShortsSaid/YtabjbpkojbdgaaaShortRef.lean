/- Contract of the reference's Short. -/
import Derived.Test.YtabjbpkojbdgaaaTaughtRef
import Derived.Test.YtabjbpkojbdgaaaShortFn
namespace Go.Proofs.Ytabjbpkojbdgaaa
open Go.RowKit
set_option linter.unusedSimpArgs false

def RetShortR (R : List Int) (w : World) (e : Ending) (w' : World) : Prop :=
  ∃ A n c, e = .returned (.slice A n c) ∧ Ints w' A n c R ∧ Below w.heap.size w w'
/-- .. as the reference tells. -/
theorem lv_pos {vars : Int} {xss : List (List Int)} {t y v : List Int} {z : Nat} {a : Int} (h : Told vars xss t y v z a) {x : Int} (hx : -x ∈ t) : 0 ≤ lvF t v x := (h.lev.low _ _ (lv_at h hx)).1

set_option maxHeartbeats 8000000 in
set_option maxRecDepth 100000 in
theorem short_ref (W : World) (A : Option Addr) (n c : Nat) (xss : List (List Int)) (L : Option Addr) (nl cl : Nat) (t : List Int) (Y : Option Addr) (ny cy : Nat) (y : List Int) (V : Option Addr) (nv cv : Nat) (v : List Int) (B : Option Addr) (m d : Nat) (R : List Int) (z : Nat) (a vars : Int)
    (hg : Grid W A n c xss) (hL : Ints W L nl cl t) (hY : Ints W Y ny cy y) (hV : Ints W V nv cv v) (hR : Ints W B m d R) (v0 : 0 ≤ vars) (v1 : vars ≤ 1000)
    (hT : Told vars xss t y v z a) (_ : 0 ≤ a) (hc : ∀ c ∈ xss, Lits vars c) (_ : z ≤ 1000000) (hn : ∀ x ∈ R, -x ∈ t) (hlen : R.length ≤ 1000) (S : List Int) (hS : Hid (shortF xss t y v R = S)) :
    Calls Try.prog 20 #[.slice A n c, .agg #[.slice L nl cl, .slice Y ny cy, .int .i64 a], .slice V nv cv, .slice B m d] W (RetShortR S W) := by
  have HT := Lib.hid hT
  have HCX := Lib.hid hc
  have hbd := hg.bd
  have hm : m ≤ 1000 := by rw [← hR.len]; exact hlen
  have HN := Lib.hid hn
  have HRB : Hid (∀ x ∈ R, -1000000 ≤ x ∧ x ≤ 1000000) := fun x hx => by have := hT.lits.1 _ (hn x hx); omega
  have HTL : Hid (t.length ≤ 1000) := by have := hT.lits.len_le v0; show _ ≤ _; omega
  obtain ⟨i0, hi0, hz0, hz1, hz2⟩ := info_parts int_info
  obtain ⟨wd, hwd⟩ : ∃ wd : World, wd = W.alloc (.cells #[.slice L nl cl, .slice Y ny cy, .int .i64 a] 35) := ⟨_, rfl⟩
  have HBD : Hid (Below W.heap.size W wd) := by rw [hwd]; exact below_new _ _
  have KD0 : Hid (Blk wd W.heap.size 35 #[.slice L nl cl, .slice Y ny cy, .int .i64 a]) := by rw [hwd]; exact Blk.new _ _ _
  have HLD := Lib.hid (hL.keep HBD.out)
  have HYD := Lib.hid (hY.keep HBD.out)
  have HVD := Lib.hid (hV.keep HBD.out)
  have HGD := Lib.hid (hg.keep HBD.out)
  have HRD := Lib.hid (hR.keep HBD.out)
  clear hg hL hY hV hR hT hc hn hlen
  go_enter Try.func20, Try.ntmps20
  go_wp2_with fail
  obtain ⟨bx, hbx⟩ : ∃ bx, bx = W.heap.size := ⟨_, rfl⟩
  (try rw [← hwd])
  rw [← hbx] at KD0 ⊢
  have KD := KD0
  clear KD0 hwd hbx
  have hS0 : Hid ([] ++ (R.drop 0).filter (fun x => !redB xss t y v R x) = S) := hS
  go_loopw [9, 10] (fun s9 s10 wr => ∃ (k : Nat) (A9 : Option Addr) (n9 c9 : Nat) (nn : List Int), k ≤ m ∧ n9 ≤ k ∧ s9 = .slice A9 n9 c9 ∧ s10 = .int .i64 k ∧ Hid (Own 3 wr wd.heap.size A9 n9 c9 (nn.map (Value.int .i64))) ∧ Hid (∀ x ∈ nn, -1000000 ≤ x ∧ x ≤ 1000000) ∧ Hid (nn ++ (R.drop k).filter (fun x => !redB xss t y v R x) = S) ∧ Hid (Below wd.heap.size wd wr)) (fun _ i _ => m - (intOf i).toNat)
  case atStart => exact ⟨0, none, 0, 0, [], Nat.zero_le _, Nat.le_refl _, rfl, rfl, Own.nil _ _ _, by simp [Hid], hS0, Below.refl _ _⟩
  case round =>
    clear hS0
    obtain ⟨k, A9, n9, c9, nn, hk, hn9, rfl, rfl, HO, hN, hfl, hB⟩ := hrel
    have HK := Lib.hid (KD.out.keep hB.out)
    have k0 := HK.out.cell 0
    have k1 := HK.out.cell 1
    simp at k0 k1
    have zk := (cell_lt k0).1
    have HLR := Lib.hid (HLD.out.keep hB.out)
    have HYR := Lib.hid (HYD.out.keep hB.out)
    have HVR := Lib.hid (HVD.out.keep hB.out)
    have HGR := Lib.hid (HGD.out.keep hB.out)
    have HRR := Lib.hid (HRD.out.keep hB.out)
    by_cases hkm : k < m
    · obtain ⟨b1, off1, x, hAe, hbb, hcell1, x1, x2, hxk⟩ := HRR.out.round hkm
      have hxm := List.mem_of_getElem? hxk.out
      have hxb := HRB.out x hxm
      have hxt : Hid (-x ∈ t) := HN.out x hxm
      obtain ⟨p, hp⟩ : ∃ p, Hid (redB xss t y v R x = p) := ⟨_, rfl⟩
      have hst : Hid (nn ++ (if p then (R.drop (k + 1)).filter (fun x => !redB xss t y v R x) else x :: (R.drop (k + 1)).filter (fun x => !redB xss t y v R x)) = S) := by
        have := hfl.out
        rw [drop_cons_of hxk.out, List.filter_cons, hp.out] at this
        cases p <;> simpa [Hid] using this
      clear hfl hxk hxm
      obtain ⟨p0, p1, p2⟩ := plc_mem hxt.out
      obtain ⟨P, hP⟩ : ∃ P : Nat, plcF t x = (P : Int) := ⟨(plcF t x).toNat, by omega⟩
      have HP : Hid (idxF (fun y => y == -x) t 0 = (P : Int)) := hP
      have HPL : Hid (plcF t x = (P : Int)) := hP
      have hPy : P < ny := by rw [← HYR.out.len, HT.out.hist.1]; omega
      obtain ⟨bY, offY, q, hYe, hbY, hcellY, q1, q2, hyk⟩ := HYR.out.round hPy
      have hq : Hid (y.getD P 0 = q) := by rw [List.getD_eq_getElem?_getD, hyk.out]; rfl
      have HYE : Hid (Y = some ⟨bY, offY, none⟩) := hYe
      have HBE : Hid (B = some ⟨b1, off1, none⟩) := hAe
      subst hAe hYe
      have u1 : (0 : Int) ≤ (P : Int) := by omega
      have u2 : (P : Int) < (ny : Int) := by omega
      have u3 : (0 : Int) ≤ (k : Int) := by omega
      have u4 : (k : Int) < (m : Int) := by omega
      have z1 := (cell_lt hcell1).1
      have zY := (cell_lt hcellY).1
      clear p0 p1 p2 hP hyk
      by_cases hq0 : q < 0
      · have hpf : p = false := by
          have := hp.out
          rw [redB, HPL.out, Int.toNat_natCast, hq.out] at this
          rw [← this]
          simp; intro h; omega
        subst hpf
        have hst2 : Hid (nn ++ x :: (R.drop (k + 1)).filter (fun x => !redB xss t y v R x) = S) := by simpa [Hid] using hst.out
        clear hst hp
        go_wp2_with fail
        go_quiet ((go_at_call 27; exact RetQ.quiet (place_ref L nl cl t (-x) _ (HLR.out.keep (below_drewN _ _)) _ HP)))
        obtain ⟨wq, hwq⟩ : ∃ wq : World, wq = wr.drewN nq := ⟨_, rfl⟩
        have hbq : Below wr.heap.size wr wq := by rw [hwq]; exact below_drewN _ _
        (try rw [← hwq])
        replace HO := Lib.hid (HO.out.keep hbq)
        replace hB := Lib.hid (below_next hB.out hbq)
        have HKQ := Lib.hid (HK.out.keep hbq)
        have HLQ := Lib.hid (HLR.out.keep hbq)
        have HVQ := Lib.hid (HVR.out.keep hbq)
        have HGQ := Lib.hid (HGR.out.keep hbq)
        have HRQ := Lib.hid (HRR.out.keep hbq)
        have hcellq := keepBox hbq hcell1
        have zq := (cell_lt hcellq).1
        have hqz := hB.out.size
        clear hwq hbq hcell1 hcellY k0 k1 zk HK HLR HYR HVR HGR HRR z1 zY hbb hbY
        go_wp2_with fail
        go_loopw [12, 13] (fun s12 i wz => ∃ m' : Nat, s12 = .bool false ∧ i = .int .i64 0 ∧ wz = wq.drewN m') (fun _ _ _ => 0)
        case atStart => exact ⟨0, by first | rfl | (simp; omega), rfl, rfl⟩
        case round =>
          obtain ⟨m', rfl, rfl, rfl⟩ := hrel
          obtain ⟨we, hwe⟩ : ∃ we : World, we = wq.drewN m' := ⟨_, rfl⟩
          have hbe : Below wq.heap.size wq we := by rw [hwe]; exact below_drewN _ _
          (try rw [← hwe])
          have HOE := Lib.hid (HO.out.keep hbe)
          have HBE := Lib.hid (below_next hB.out hbe)
          have hcelle := keepBox hbe hcellq
          have ze := (cell_lt hcelle).1
          have hez := HBE.out.size
          clear hwe hbe
          clear hcellq
          have hS := ints_made we 3 [x] rfl (by simp [I64]; omega) (by simp [maxLen])
          go_wp2_with (first
            | (at_builtin
               refine wpList_append_sl _ rfl (.tmp 81) (.tmp 86) _ rfl wd.heap.size 3 i0 _ 8 Try.underlying25 hi0 hz0 hz1 hz2 rfl A9 n9 c9 _ rfl (HOE.out.keep (below_new _ _)) (some ⟨we.heap.size, 0, none⟩) 1 1 _ rfl hS.sl (ints_one _) (by simp only [maxLen]; omega) (by omega) (by simp; omega) ?_
               intro L1 cL1 w9 hL1 hg1 hat1
               have HL1 := Lib.hid hL1
               have HB9 : Hid (Below wd.heap.size wd w9) := below_grown (below_alloc HBE.out (.cells #[.int .i64 x] 3)) (HOE.out.keep (below_new we (.cells #[.int .i64 x] 3))) (Nat.le_refl _) hg1
               clear hL1 hg1 hat1))
          go_roundw
          case rel =>
            refine ⟨k + 1, L1, n9 + 1, cL1, nn ++ [x], by omega, by omega, rfl, by go_num, by rw [Hid, List.map_append]; exact HL1.out, ?_, by have := hst2.out; simpa [Hid] using this, HB9⟩
            intro q hq
            rcases List.mem_append.1 hq with hq | hq
            · exact hN.out q hq
            · simp at hq; subst hq; exact hxb
          case measure => simp [intOf] <;> omega
      · obtain ⟨Q, rfl⟩ : ∃ Q : Nat, q = (Q : Int) := ⟨q.toNat, by omega⟩
        obtain ⟨br, hbr⟩ : ∃ q, Hid (bringF xss t y x = q) := ⟨_, rfl⟩
        have hsp := bring_spec HT.out hxt.out (by rw [HPL.out, Int.toNat_natCast, hq.out]; omega)
        rw [HPL.out, Int.toNat_natCast, hq.out, Int.toNat_natCast, hbr.out] at hsp
        obtain ⟨s1, s2, s3⟩ := hsp
        have hQn : Q < n := by rw [← HGD.out.len]; exact (List.getElem?_eq_some_iff.1 s1).1
        obtain ⟨b3, off3, A3, n3, c3, xs3, hA3, hb3, hcell3, hx3, hxk3⟩ := HGR.out.round hQn
        obtain rfl : br = xs3 := by have := hxk3.out; rw [s1] at this; injection this
        have hlb := HCX.out _ (List.mem_of_getElem? s1)
        have hn3 : n3 ≤ 1000 := by have := hlb.len_le v0; rw [hx3.len] at this; omega
        have HBL : Hid (∀ u ∈ br, -1000000 ≤ u ∧ u ≤ 1000000) := fun u hu => by have := hlb.1 u hu; omega
        have HS3 : Hid (∀ l ∈ br, l ≠ -x → -l ∈ t) := fun l hl hne => (s3 l hl hne).1
        have hall : Hid ((true && (br.drop 0).all (fun u => u == -x || hasB R u || lvF t v u == 0)) = p) := by
          have := hp.out
          rw [redB, HPL.out, Int.toNat_natCast, hq.out, hbr.out] at this
          simpa [Hid] using this
        have HAE : Hid (A = some ⟨b3, off3, none⟩) := hA3
        subst hA3
        have u5 : (0 : Int) ≤ (Q : Int) := by omega
        have u6 : (Q : Int) < (n : Int) := by omega
        have HX3 := Lib.hid hx3
        clear hp hq s1 s2 s3 hxk3 hx3 hlb hbr
        go_wp2_with fail
        go_quiet ((go_at_call 27; exact RetQ.quiet (place_ref L nl cl t (-x) _ (HLR.out.keep (below_drewN _ _)) _ HP)))
        have hcell3q := keepBox (below_drewN wr nq) hcell3
        replace HX3 := Lib.hid (HX3.out.keep (below_drewN wr nq))
        clear hcell3 hb3
        obtain ⟨wq, hwq⟩ : ∃ wq : World, wq = wr.drewN nq := ⟨_, rfl⟩
        rw [← hwq] at hcell3q HX3
        have hbq : Below wr.heap.size wr wq := by rw [hwq]; exact below_drewN _ _
        (try rw [← hwq])
        replace HO := Lib.hid (HO.out.keep hbq)
        replace hB := Lib.hid (below_next hB.out hbq)
        have HKQ := Lib.hid (HK.out.keep hbq)
        have HLQ := Lib.hid (HLR.out.keep hbq)
        have HVQ := Lib.hid (HVR.out.keep hbq)
        have HGQ := Lib.hid (HGR.out.keep hbq)
        have HRQ := Lib.hid (HRR.out.keep hbq)
        have hcellq := keepBox hbq hcell1
        have zq := (cell_lt hcellq).1
        have hqz := hB.out.size
        clear hwq hbq hcell1 hcellY k0 k1 zk HK HLR HYR HVR HGR HRR z1 zY hbb hbY
        have z3 := (cell_lt hcell3q).1
        go_wp2_with fail
        go_loopw [12, 13] (fun s12 s13 wz => ∃ (j m' : Nat) (bq : Bool), j ≤ n3 ∧ s12 = .bool bq ∧ s13 = .int .i64 j ∧ wz = wq.drewN m' ∧ Hid ((bq && (br.drop j).all (fun u => u == -x || hasB R u || lvF t v u == 0)) = p)) (fun _ i _ => n3 - (intOf i).toNat)
        case atStart => exact ⟨0, 0, true, Nat.zero_le _, by first | rfl | simp, rfl, rfl, hall⟩
        case round =>
          clear hall
          obtain ⟨j, m', bq, hj, rfl, rfl, rfl, hall⟩ := hrel
          by_cases hjn : j < n3
          · have kq0 := HKQ.out.cell 0
            simp at kq0
            have zkq := (cell_lt kq0).1
            have HXR := Lib.hid (HX3.out.keep (below_drewN wq m'))
            obtain ⟨b5, off5, u, hAe5, hbb5, hcell5, x51, x52, hxk5⟩ := HX3.out.round hjn
            have hub := HBL.out u (List.mem_of_getElem? hxk5.out)
            have hut := HS3.out u (List.mem_of_getElem? hxk5.out)
            have hst3 : Hid ((bq && ((u == -x || hasB R u || lvF t v u == 0) && (br.drop (j + 1)).all (fun u => u == -x || hasB R u || lvF t v u == 0))) = p) := by have := hall.out; rw [drop_cons_of hxk5.out, List.all_cons] at this; exact this
            have z5 := (cell_lt hcell5).1
            subst hAe5
            have u7 : (0 : Int) ≤ (j : Int) := by omega
            have u8 : (j : Int) < (n3 : Int) := by omega
            clear hall hxk5 hbb5
            by_cases hux : u = -x
            · have dx : (u == -x) = true := by rw [beq_iff_eq]; exact hux
              have dx2 : (u != -x) = false := by simpa using hux
              have hst4 : Hid ((bq && (br.drop (j + 1)).all (fun u => u == -x || hasB R u || lvF t v u == 0)) = p) := by have := hst3.out; rw [dx] at this; simpa [Hid] using this
              clear hst3
              go_wp2_with fail
              go_roundw
              case rel => exact ⟨j + 1, m', bq, by omega, rfl, by go_num, rfl, hst4⟩
              case measure => simp [intOf] <;> omega
            · have dx : (u == -x) = false := by rw [beq_eq_false_iff_ne]; exact hux
              have dx2 : (u != -x) = true := by simpa using hux
              have hut2 : Hid (-u ∈ t) := hut hux
              obtain ⟨r, hr⟩ : ∃ q, Hid (hasB R u = q) := ⟨_, rfl⟩
              have hst4 : Hid ((bq && ((r || lvF t v u == 0) && (br.drop (j + 1)).all (fun u => u == -x || hasB R u || lvF t v u == 0))) = p) := by have := hst3.out; rw [dx, hr.out] at this; simpa [Hid] using this
              clear hst3 hut
              go_wp2_with fail
              refine (has_any _ _ _ R u _ (HRQ.out.keep (below_drewN _ _)) r hr).mono ?_
              rintro e w8 ⟨rfl, m8, rfl⟩
              cases r
              · obtain ⟨lv, hlv⟩ : ∃ lv, Hid (lvF t v u = lv) := ⟨_, rfl⟩
                have hl0 := lv_pos HT.out hut2.out
                rw [hlv.out] at hl0
                obtain ⟨P2, hP2⟩ : ∃ P : Nat, plcF t u = (P : Int) := ⟨(plcF t u).toNat, by have := (plc_mem hut2.out).1; omega⟩
                have hPv : P2 < nv := by have := (plc_mem hut2.out).2.1; rw [← HVQ.out.len, HT.out.lev.len, HT.out.hist.1]; omega
                obtain ⟨b4, off4, lv', hVe, hb4, hcell4, lv1, lv2, hlk⟩ := HVQ.out.round hPv
                obtain rfl : lv' = lv := by have := hlv.out; rw [lvF, hP2, Int.toNat_natCast, List.getD_eq_getElem?_getD, hlk.out] at this; exact this
                have HP2 : Hid (idxF (fun y => y == -u) t 0 = (P2 : Int)) := hP2
                have z4 := (cell_lt hcell4).1
                subst hVe
                have u9 : (0 : Int) ≤ (P2 : Int) := by omega
                have u10 : (P2 : Int) < (nv : Int) := by omega
                clear hlk hb4 hP2
                by_cases hlz : 0 < lv'
                · have hpf : p = false := by
                    have := hst4.out
                    rw [hlv.out] at this
                    have h9 : (lv' == 0) = false := by rw [beq_eq_false_iff_ne]; omega
                    rw [h9] at this
                    simpa using this.symm
                  subst hpf
                  go_wp2_with fail
                  refine (place_ref L nl cl t (-u) _ (HLQ.out.keep (below_drewN _ _)) _ HP2).mono ?_
                  rintro e w9 ⟨rfl, m9, rfl⟩
                  go_wp2_with fail
                  go_roundw
                  case rel => exact ⟨j + 1, m' + m8 + m9, false, by omega, rfl, by go_num, by first | rfl | rw [World.drewN_drewN], by simp [Hid]⟩
                  case measure => simp [intOf] <;> omega
                · have h9 : lv' = 0 := by omega
                  have hst5 : Hid ((bq && (br.drop (j + 1)).all (fun u => u == -x || hasB R u || lvF t v u == 0)) = p) := by have := hst4.out; rw [hlv.out, h9] at this; simpa [Hid] using this
                  clear hst4
                  go_wp2_with fail
                  refine (place_ref L nl cl t (-u) _ (HLQ.out.keep (below_drewN _ _)) _ HP2).mono ?_
                  rintro e w9 ⟨rfl, m9, rfl⟩
                  go_wp2_with fail
                  go_roundw
                  case rel => exact ⟨j + 1, m' + m8 + m9, bq, by omega, rfl, by go_num, by first | rfl | rw [World.drewN_drewN], hst5⟩
                  case measure => simp [intOf] <;> omega
              · have hst5 : Hid ((bq && (br.drop (j + 1)).all (fun u => u == -x || hasB R u || lvF t v u == 0)) = p) := by have := hst4.out; simpa [Hid] using this
                clear hst4
                go_wp2_with fail
                go_roundw
                case rel => exact ⟨j + 1, m' + m8, bq, by omega, rfl, by go_num, by first | rfl | rw [World.drewN_drewN], hst5⟩
                case measure => simp [intOf] <;> omega
          · obtain rfl : bq = p := by have := hall.out; rw [List.drop_of_length_le (by rw [HX3.out.len]; omega)] at this; simpa using this
            obtain ⟨we, hwe⟩ : ∃ we : World, we = wq.drewN m' := ⟨_, rfl⟩
            have hbe : Below wq.heap.size wq we := by rw [hwe]; exact below_drewN _ _
            (try rw [← hwe])
            have HOE := Lib.hid (HO.out.keep hbe)
            have HBE := Lib.hid (below_next hB.out hbe)
            have hcelle := keepBox hbe hcellq
            have ze := (cell_lt hcelle).1
            have hez := HBE.out.size
            have hcell3e := keepBox hbe hcell3q
            have z3e := (cell_lt hcell3e).1
            clear hwe hbe
            clear hall hcellq
            cases bq
            · have hst2 : Hid (nn ++ x :: (R.drop (k + 1)).filter (fun x => !redB xss t y v R x) = S) := by simpa [Hid] using hst.out
              clear hst
              have hS := ints_made we 3 [x] rfl (by simp [I64]; omega) (by simp [maxLen])
              go_wp2_with (first
                | (at_builtin
                   refine wpList_append_sl _ rfl (.tmp 81) (.tmp 86) _ rfl wd.heap.size 3 i0 _ 8 Try.underlying25 hi0 hz0 hz1 hz2 rfl A9 n9 c9 _ rfl (HOE.out.keep (below_new _ _)) (some ⟨we.heap.size, 0, none⟩) 1 1 _ rfl hS.sl (ints_one _) (by simp only [maxLen]; omega) (by omega) (by simp; omega) ?_
                   intro L1 cL1 w9 hL1 hg1 hat1
                   have HL1 := Lib.hid hL1
                   have HB9 : Hid (Below wd.heap.size wd w9) := below_grown (below_alloc HBE.out (.cells #[.int .i64 x] 3)) (HOE.out.keep (below_new we (.cells #[.int .i64 x] 3))) (Nat.le_refl _) hg1
                   clear hL1 hg1 hat1))
              go_roundw
              case rel =>
                refine ⟨k + 1, L1, n9 + 1, cL1, nn ++ [x], by omega, by omega, rfl, by go_num, by rw [Hid, List.map_append]; exact HL1.out, ?_, by have := hst2.out; simpa [Hid] using this, HB9⟩
                intro q hq
                rcases List.mem_append.1 hq with hq | hq
                · exact hN.out q hq
                · simp at hq; subst hq; exact hxb
              case measure => simp [intOf] <;> omega
            · have hst2 : Hid (nn ++ (R.drop (k + 1)).filter (fun x => !redB xss t y v R x) = S) := by simpa [Hid] using hst.out
              clear hst
              go_wp2_with fail
              go_roundw
              case rel => exact ⟨k + 1, A9, n9, c9, nn, by omega, by omega, rfl, by go_num, HOE, hN, hst2, HBE⟩
              case measure => simp [intOf] <;> omega
    · have hfin : nn = S := by have := hfl.out; rw [List.drop_of_length_le (by rw [HRR.out.len]; omega)] at this; simpa using this
      subst hfin
      have HNI : Hid (∀ x ∈ nn, I64 x) := fun x hx => by have := hN.out x hx; unfold I64; omega
      have BW := Lib.hid (below_next HBD.out hB.out)
      clear hfl k0 k1 zk HK HLR HYR HVR HGR HRR
      go_wp2_with fail
      go_ret
      exact ⟨A9, n9, c9, rfl, HO.out.ints HNI.out, BW.out⟩
end Go.Proofs.Ytabjbpkojbdgaaa
