/- Contracts of the reference's Learnt, Needed. -/
import Derived.Test.YtabjbpkojbdgaaaTrimReq
import Derived.Test.YtabjbpkojbdgaaaRefAsk
namespace Go.Proofs.Ytabjbpkojbdgaaa
open Go.RowKit
set_option linter.unusedSimpArgs false

/-- .. as the reference asks: is the literal, or its negation, in a clause? -/
theorem noted_or (row : List (List Int)) (out : List Int) (x : Int) : notedB row out x = out.any (fun j => hasB (row.getD j.toNat []) x || hasB (row.getD j.toNat []) (-x)) := by
  unfold notedB
  congr 1
  funext j
  exact any_abs x _
def RetNeed (R : List Int) (w : World) (e : Ending) (w' : World) : Prop :=
  ∃ A n c, e = .returned (.slice A n c) ∧ Own 3 w' w.heap.size A n c (R.map (Value.int .i64)) ∧ Below w.heap.size w w'

set_option maxHeartbeats 8000000 in
set_option maxRecDepth 100000 in
theorem needed_ref (W : World) (A : Option Addr) (n c : Nat) (row : List (List Int)) (L : Option Addr) (nl cl : Nat) (t : List Int) (Y : Option Addr) (ny cy : Nat) (y : List Int) (a : Nat) (hg : Grid W A n c row) (hL : Ints W L nl cl t) (hY : Ints W Y ny cy y) (hyt : y.length = t.length)
    (ha : a < n) (hy : ∀ k ∈ y, -1 ≤ k ∧ k < n) (ht : ∀ x ∈ t, -1000000 ≤ x ∧ x ≤ 1000000) (htl : t.length ≤ 1000) (R : List Int) (hR : Hid (needF row t y t.length [(a : Int)] = R)) :
    Calls Try.prog 61 #[.slice A n c, .agg #[.slice L nl cl, .slice Y ny cy, .int .i64 a]] W (RetNeed R W) := by
  have hbd := hg.bd
  have HTB := Lib.hid ht
  have HYB := Lib.hid hy
  have hyl : Hid (y.length = t.length) := hyt
  have hnl : nl ≤ 1000 := by rw [← hL.len]; exact htl
  have hnt : Hid (t.length = nl) := hL.len
  have hny : Hid (ny = nl) := by show _ = _; rw [← hY.len, hyt, hL.len]
  obtain ⟨i0, hi0, hz0, hz1, hz2⟩ := info_parts int_info
  obtain ⟨wd, hwd⟩ : ∃ wd : World, wd = W.alloc (.cells #[.slice L nl cl, .slice Y ny cy, .int .i64 a] 35) := ⟨_, rfl⟩
  have HBD : Hid (Below W.heap.size W wd) := by rw [hwd]; exact below_new _ _
  have KD : Hid (Blk wd W.heap.size 35 #[.slice L nl cl, .slice Y ny cy, .int .i64 a]) := by rw [hwd]; exact Blk.new _ _ _
  have HLD := Lib.hid (hL.keep HBD.out)
  have HYD := Lib.hid (hY.keep HBD.out)
  have HGD := Lib.hid (hg.keep HBD.out)
  have HWD := Lib.hid hwd
  have HSD : Hid (wd.heap.size = W.heap.size + 1) := by rw [hwd]; simp [Hid]
  have hR0 : Hid (needF row t y nl [(a : Int)] = R) := by rw [← hL.len]; exact hR
  clear hg hL hY hy ht htl hR hyt hwd
  go_enter Try.func61, Try.ntmps61
  go_wp2_with fail
  obtain ⟨w1, hw1⟩ : ∃ w1 : World, w1 = wd.alloc (.cells #[.int .i64 a] 3) := ⟨_, rfl⟩
  have hbd1 : Below wd.heap.size wd w1 := by rw [hw1]; exact below_new _ _
  have OO : Hid (Own 3 w1 wd.heap.size (some ⟨wd.heap.size, 0, none⟩) 1 1 ([(a : Int)].map (Value.int .i64))) := by
    rw [hw1]
    exact own_new 3 wd wd.heap.size ([(a : Int)].map (Value.int .i64)) (b := wd.heap.size) rfl (Nat.le_refl _) (by simp [maxLen])
  have HB1 := Lib.hid hbd1
  rw [show W.heap.size + 1 = wd.heap.size from HSD.out.symm, ← HWD.out, ← hw1]
  obtain ⟨bx, hbx⟩ : ∃ bx, bx = W.heap.size := ⟨_, rfl⟩
  rw [← hbx] at KD ⊢
  clear hbx hw1 hbd1
  go_loopw [5, 6] (fun s5 s6 wr => ∃ (k n5 c5 : Nat) (A5 : Option Addr) (out : List Int), k ≤ nl ∧ n5 + k ≤ nl + 1 ∧ s5 = .slice A5 n5 c5 ∧ s6 = .int .i64 ((k : Int) - 1) ∧ Hid (Own 3 wr wd.heap.size A5 n5 c5 (out.map (Value.int .i64))) ∧ Hid (∀ x ∈ out, 0 ≤ x ∧ x < n) ∧ Hid (Below wd.heap.size wd wr) ∧ Hid (needF row t y k out = R)) (fun _ i _ => (intOf i + 1).toNat)
  case atStart => exact ⟨nl, 1, 1, _, [(a : Int)], Nat.le_refl _, by omega, rfl, by go_num, OO, by simp [Hid]; omega, HB1, hR0⟩
  case round =>
    clear OO HB1 hR0
    obtain ⟨k, n5, c5, A5, out, hk, hn5, rfl, rfl, hO, hOR, hB, hnd⟩ := hrel
    by_cases hk0 : k = 0
    · subst hk0
      obtain rfl : out = R := hnd.out
      have BW := Lib.hid (below_next HBD.out hB.out)
      have HOW := Lib.hid (hO.out.mono (base' := W.heap.size) HBD.out.size)
      clear hnd
      go_wp2_with fail
      go_ret
      exact ⟨A5, n5, c5, rfl, HOW.out, BW.out⟩
    · obtain ⟨j, rfl⟩ : ∃ j, k = j + 1 := ⟨k - 1, by omega⟩
      have ej : ((j + 1 : Nat) : Int) - 1 = (j : Int) := by omega
      rw [ej]
      have hKR := Lib.hid (KD.out.keep hB.out)
      have k0 := hKR.out.cell 0
      have k1 := hKR.out.cell 1
      simp at k0 k1
      have zk := hKR.out.lt
      have hjn : j < nl := by omega
      obtain ⟨bt, offt, x, hLe, hbt, hcellt, xx1, xx2, hxk⟩ := (HLD.out.keep hB.out).round hjn
      have hny' : j < ny := by have := hny.out; omega
      obtain ⟨by', offy, q, hYe, hby, hcelly, qq1, qq2, hqk⟩ := (HYD.out.keep hB.out).round hny'
      have hqr := HYB.out q (List.mem_of_getElem? hqk.out)
      have hxr := HTB.out x (List.mem_of_getElem? hxk.out)
      have hst : Hid ((if 0 ≤ q ∧ notedB row out x = true ∧ hasB out q = false then needF row t y j (out ++ [q]) else needF row t y j out) = R) := by
        have := hnd.out
        rw [needF, List.getD_eq_getElem?_getD, List.getD_eq_getElem?_getD, hqk.out, hxk.out] at this
        exact this
      have uj1 : (0 : Int) ≤ (j : Int) := by omega
      have uj2 : (j : Int) < (nl : Int) := by omega
      have uj3 : (j : Int) < (ny : Int) := by omega
      have z1 := (cell_lt hcellt).1
      have z2 := (cell_lt hcelly).1
      have HLe : Hid (L = some ⟨bt, offt, none⟩) := hLe
      have HYe : Hid (Y = some ⟨by', offy, none⟩) := hYe
      have HT7 := Lib.hid hcellt
      have HY7 := Lib.hid hcelly
      subst hLe hYe
      clear hnd hxk hqk hbt hby
      by_cases hq0 : q < 0
      · have hst2 : Hid (needF row t y j out = R) := by have := hst.out; rw [if_neg (by omega)] at this; exact this
        clear hst
        go_wp2_with fail
        go_roundw
        case rel => exact ⟨j, n5, c5, A5, out, by omega, by omega, rfl, by go_num, hO, hOR, hB, hst2⟩
        case measure => simp [intOf] <;> omega
      · have dq : decide (q < 0) = false := decide_eq_false hq0
        obtain ⟨nb, hnb⟩ : ∃ nb, Hid (notedB row out x = nb) := ⟨_, rfl⟩
        have hany : Hid ((false || (out.drop 0).any (fun j => hasB (row.getD j.toNat []) x || hasB (row.getD j.toNat []) (-x))) = nb) := by have := hnb.out; rw [noted_or] at this; simpa [Hid] using this
        have hst1 : Hid ((if nb = true ∧ hasB out q = false then needF row t y j (out ++ [q]) else needF row t y j out) = R) := by
          have := hst.out
          rw [hnb.out] at this
          by_cases g : nb = true ∧ hasB out q = false
          · rw [if_pos ⟨by omega, g⟩] at this; rw [Hid, if_pos g]; exact this
          · rw [if_neg (fun h => g h.2)] at this; rw [Hid, if_neg g]; exact this
        have hOI : Hid (∀ x ∈ out, I64 x) := fun x hx => by have := hOR.out x hx; unfold I64; omega
        have hol := hO.out.len
        rw [List.length_map] at hol
        have HOL := Lib.hid hol
        obtain ⟨wo, hwo⟩ : ∃ wo : World, wo = wr := ⟨_, rfl⟩
        subst hwo
        have hwrz : Hid (Below wo.heap.size wo wo) := Below.refl _ _
        clear hst hol hnb
        go_wp2_with fail
        go_loopw [7, 8] (fun s7 s8 wz => ∃ (i : Nat) (b : Bool), i ≤ n5 ∧ s7 = .bool b ∧ s8 = .int .i64 i ∧ Hid (Below wo.heap.size wo wz) ∧ Hid ((b || (out.drop i).any (fun j => hasB (row.getD j.toNat []) x || hasB (row.getD j.toNat []) (-x))) = nb)) (fun _ i _ => n5 - (intOf i).toNat)
        case atStart => exact ⟨0, false, Nat.zero_le _, rfl, rfl, hwrz, hany⟩
        case round =>
          clear hany hwrz k0 k1 zk z1 z2 hcellt hcelly
          obtain ⟨i, b, hi, rfl, rfl, hBz, hany⟩ := hrel
          have hBwd := Lib.hid (below_next hB.out hBz.out)
          have hKR := Lib.hid (KD.out.keep hBwd.out)
          have k0 := hKR.out.cell 0
          have k1 := hKR.out.cell 1
          simp at k0 k1
          have zk := hKR.out.lt
          have hcellt := keepBox hBz.out HT7.out
          have hcelly := keepBox hBz.out HY7.out
          have z1 := (cell_lt hcellt).1
          have z2 := (cell_lt hcelly).1
          by_cases hin : i < n5
          · obtain ⟨b5, off5, e, hAe5, hbb5, hcell5, x51, x52, hek⟩ := ((hO.out.keep hBz.out).ints hOI.out).round hin
            have her := hOR.out e (List.mem_of_getElem? hek.out)
            obtain ⟨eN, rfl⟩ : ∃ eN : Nat, e = (eN : Int) := ⟨e.toNat, by omega⟩
            have hen : eN < n := by omega
            obtain ⟨bg, offg, A', n', c', re, hGe, hbg, hcellg, hIx, hxg⟩ := (HGD.out.keep hBwd.out).round hen
            have HRE := Lib.hid hIx
            obtain ⟨qa, hqa⟩ : ∃ q, Hid (hasB re x = q) := ⟨_, rfl⟩
            obtain ⟨qb, hqb⟩ : ∃ q, Hid (hasB re (-x) = q) := ⟨_, rfl⟩
            have hst3 : Hid ((b || ((qa || qb) || (out.drop (i + 1)).any (fun j => hasB (row.getD j.toNat []) x || hasB (row.getD j.toNat []) (-x)))) = nb) := by
              have := hany.out
              rw [drop_cons_of hek.out, List.any_cons, Int.toNat_natCast, List.getD_eq_getElem?_getD, hxg.out] at this
              simp only [Option.getD_some] at this
              rw [hqa.out, hqb.out] at this
              exact this
            have u1 : (0 : Int) ≤ (eN : Int) := by omega
            have u2 : (eN : Int) < (n : Int) := by omega
            have u3 : (0 : Int) ≤ (i : Int) := by omega
            have u4 : (i : Int) < (n5 : Int) := by omega
            have z5 := (cell_lt hcell5).1
            have zg := (cell_lt hcellg).1
            have HAe5 : Hid (A5 = some ⟨b5, off5, none⟩) := hAe5
            have HGe : Hid (A = some ⟨bg, offg, none⟩) := hGe
            subst hAe5 hGe
            clear hany hek hIx hxg hbb5 hbg
            cases b
            · cases qa
              · cases qb
                · have hst4 : Hid ((false || (out.drop (i + 1)).any (fun j => hasB (row.getD j.toNat []) x || hasB (row.getD j.toNat []) (-x))) = nb) := by simpa [Hid] using hst3.out
                  clear hst3
                  go_wp2_with fail
                  go_quiet ((first | (go_at_call 29; with_reducible exact RetQ.quiet (has_any _ _ _ re x _ (HRE.out.keep (below_drewN _ _)) false hqa)) | (go_at_call 29; with_reducible exact RetQ.quiet (has_any _ _ _ re (-x) _ (HRE.out.keep (below_drewN _ _)) false hqb))))
                  have BQ := Lib.hid (below_next hBz.out (below_drewN wr nq))
                  go_wp2_with fail
                  go_roundw
                  case rel => exact ⟨i + 1, false, by omega, by first | rfl | simp, by go_num, BQ, hst4⟩
                  case measure => simp [intOf] <;> omega
                · have hst4 : Hid ((true || (out.drop (i + 1)).any (fun j => hasB (row.getD j.toNat []) x || hasB (row.getD j.toNat []) (-x))) = nb) := by simpa [Hid] using hst3.out
                  clear hst3
                  go_wp2_with fail
                  go_quiet ((first | (go_at_call 29; with_reducible exact RetQ.quiet (has_any _ _ _ re x _ (HRE.out.keep (below_drewN _ _)) false hqa)) | (go_at_call 29; with_reducible exact RetQ.quiet (has_any _ _ _ re (-x) _ (HRE.out.keep (below_drewN _ _)) true hqb))))
                  have BQ := Lib.hid (below_next hBz.out (below_drewN wr nq))
                  go_wp2_with fail
                  go_roundw
                  case rel => exact ⟨i + 1, true, by omega, by first | rfl | simp, by go_num, BQ, hst4⟩
                  case measure => simp [intOf] <;> omega
              · have hst4 : Hid ((true || (out.drop (i + 1)).any (fun j => hasB (row.getD j.toNat []) x || hasB (row.getD j.toNat []) (-x))) = nb) := by simpa [Hid] using hst3.out
                clear hst3
                go_wp2_with fail
                go_quiet (((go_at_call 29; with_reducible exact RetQ.quiet (has_any _ _ _ re x _ (HRE.out.keep (below_drewN _ _)) true hqa))))
                have BQ := Lib.hid (below_next hBz.out (below_drewN wr nq))
                go_wp2_with fail
                go_roundw
                case rel => exact ⟨i + 1, true, by omega, by first | rfl | simp, by go_num, BQ, hst4⟩
                case measure => simp [intOf] <;> omega
            · have hst4 : Hid ((true || (out.drop (i + 1)).any (fun j => hasB (row.getD j.toNat []) x || hasB (row.getD j.toNat []) (-x))) = nb) := by simpa [Hid] using hst3.out
              clear hst3
              go_wp2_with fail
              go_quiet (fail)
              have BQ := Lib.hid (below_next hBz.out (below_drewN wr nq))
              go_wp2_with fail
              go_roundw
              case rel => exact ⟨i + 1, true, by omega, by first | rfl | simp, by go_num, BQ, hst4⟩
              case measure => simp [intOf] <;> omega
          · obtain rfl : b = nb := by have := hany.out; rw [List.drop_of_length_le (by rw [HOL.out]; omega)] at this; simpa using this
            have HOz := Lib.hid (hO.out.keep hBz.out)
            clear hany
            cases b
            · have hst2 : Hid (needF row t y j out = R) := by have := hst1.out; rw [if_neg (by simp)] at this; exact this
              clear hst1
              go_wp2_with fail
              go_roundw
              case rel => exact ⟨j, n5, c5, A5, out, by omega, by omega, rfl, by go_num, HOz, hOR, hBwd, hst2⟩
              case measure => simp [intOf] <;> omega
            · obtain ⟨hq, hhq⟩ : ∃ z, Hid (hasB out q = z) := ⟨_, rfl⟩
              have HOI := Lib.hid (HOz.out.ints hOI.out)
              cases hq
              · have hst2 : Hid (needF row t y j (out ++ [q]) = R) := by have := hst1.out; rw [if_pos ⟨rfl, hhq.out⟩] at this; exact this
                clear hst1
                go_wp2_with fail
                refine (has_any _ _ _ out q _ HOI.out false hhq).mono ?_
                rintro e w8 ⟨rfl, m8, rfl⟩
                obtain ⟨wq, hwq⟩ : ∃ wq : World, wq = wr.drewN m8 := ⟨_, rfl⟩
                have hbq : Below wr.heap.size wr wq := by rw [hwq]; exact below_drewN _ _
                (try rw [← hwq])
                have HOQ := Lib.hid (HOz.out.keep hbq)
                have HBQ := Lib.hid (below_next hBwd.out hbq)
                have hqz := HBQ.out.size
                have f0 := keepBox hbq k0
                have f1 := keepBox hbq k1
                have fy := keepBox hbq hcelly
                have zf := (cell_lt f0).1
                have zy := (cell_lt fy).1
                have hS := ints_made wq 3 [q] rfl (by simp [I64]; omega) (by simp [maxLen])
                clear hwq hbq k0 k1 zk hcellt hcelly z1 z2 hKR
                go_wp2_with (first
                  | (at_builtin
                     refine wpList_append_sl _ rfl (.tmp 75) (.tmp 81) _ rfl wd.heap.size 3 i0 _ 8 Try.underlying25 hi0 hz0 hz1 hz2 rfl A5 n5 c5 _ rfl (HOQ.out.keep (below_new _ _)) (some ⟨wq.heap.size, 0, none⟩) 1 1 _ rfl hS.sl (ints_one _) (by simp only [maxLen]; omega) (by omega) (by simp; omega) ?_
                     intro L1 cL1 w9 hL1 hg1 hat1
                     have HL1 : Hid (Own 3 w9 wd.heap.size L1 (n5 + 1) cL1 ((out ++ [q]).map (Value.int .i64))) := by rw [Hid, List.map_append]; exact hL1
                     have HB9 : Hid (Below wd.heap.size wd w9) := below_grown (below_alloc HBQ.out (.cells #[.int .i64 q] 3)) (HOQ.out.keep (below_new wq (.cells #[.int .i64 q] 3))) (Nat.le_refl _) hg1
                     clear hL1 hg1 hat1))
                go_roundw
                case rel =>
                  refine ⟨j, n5 + 1, cL1, L1, out ++ [q], by omega, by omega, rfl, by go_num, HL1, ?_, HB9, hst2⟩
                  intro z hz
                  rcases List.mem_append.1 hz with hz | hz
                  · exact hOR.out z hz
                  · simp at hz; subst hz; omega
                case measure => simp [intOf] <;> omega
              · have hst2 : Hid (needF row t y j out = R) := by have := hst1.out; rw [if_neg (by rw [hhq.out]; simp)] at this; exact this
                clear hst1
                go_wp2_with fail
                refine (has_any _ _ _ out q _ HOI.out true hhq).mono ?_
                rintro e w8 ⟨rfl, m8, rfl⟩
                go_wp2_with fail
                go_roundw
                case rel => exact ⟨j, n5, c5, A5, out, by omega, by omega, rfl, by go_num, HOz.out.keep (below_drewN _ _), hOR, below_next hBwd.out (below_drewN _ _), hst2⟩
                case measure => simp [intOf] <;> omega
end Go.Proofs.Ytabjbpkojbdgaaa
