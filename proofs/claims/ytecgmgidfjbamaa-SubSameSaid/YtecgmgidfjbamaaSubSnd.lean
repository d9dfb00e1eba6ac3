/- Contract of the reference's Second. -/
import Derived.Test.YtecgmgidfjbamaaSubStr
namespace Go.Proofs.Ytecgmgidfjbamaa
open Go.RowKit
set_option linter.unusedSimpArgs false

set_option maxHeartbeats 4000000 in
set_option maxRecDepth 100000 in
theorem second_ref (A : Option Addr) (n c : Nat) (l : List (List Int)) (vars : Int) (w : World) (h : Grid w A n c l) (hl : ∀ x ∈ l, Lits vars x) (v0 : 0 ≤ vars) (v1 : vars ≤ 1000) (hn : n ≤ 1000000) (r1 : Nat) (r2 r0 : Int) (hr : Hid (sndF l = (r1, r2))) (hr0 : Hid ((if r2 = 0 then (-1 : Int) else (r1 : Int)) = r0)) :
    Calls Try.prog 66 #[.slice A n c] w (RetV (.tuple #[.int .i64 r0, .int .i64 r2]) w) := by
  have hbd := h.bd
  have hlen := Lib.hid h.len
  have G := Lib.hid h
  have HLT := Lib.hid hl
  obtain ⟨i0, hi0, hz0, hz1, hz2⟩ := info_parts int_info
  clear h hl
  go_enter Try.func66, Try.ntmps66
  go_wp2_with fail
  go_loopw [4] (fun s wr => ∃ i : Nat, i ≤ n ∧ s = .int .i64 i ∧ Hid (strFst l (l.drop i) = (r1, r2)) ∧ Hid (Below w.heap.size w wr)) (fun s _ => n - (intOf s).toNat)
  case atStart => exact ⟨0, Nat.zero_le _, rfl, hr, Below.refl _ _⟩
  case round =>
    obtain ⟨i, hi, rfl, hgo, hbl⟩ := hrel
    obtain ⟨wo, hwo⟩ : ∃ wo : World, wo = wr := ⟨_, rfl⟩
    subst hwo
    by_cases hlt : i < n
    · obtain ⟨b0, off, X, nx, cx, a, hLe, hb, hcell, hx, hak⟩ := (G.out.keep hbl.out).round hlt
      subst hLe
      have HX := Lib.hid hx
      have ha := Lib.hid (HLT.out a (List.mem_of_getElem? hak.out))
      have hnx : nx ≤ 1000 := by have h1 := ha.out.len_le v0; rw [hx.len] at h1; omega
      have hxl := Lib.hid hx.len
      have hbdx := hx.bd
      obtain ⟨q, hq⟩ : ∃ q, Hid (strIn a l 0 = q) := ⟨_, rfl⟩
      have hgo2 : Hid ((if q.2 ≠ 0 then q else strFst l (l.drop (i + 1))) = (r1, r2)) := by have := hgo.out; rw [strFst_cons hak.out, hq.out] at this; exact this
      have y1 : (0 : Int) ≤ (i : Int) := by omega
      have y2 : (i : Int) < (n : Int) := by omega
      clear hgo hx
      go_wp2_with fail
      go_loopw [5] (fun s wr => ∃ k : Nat, k ≤ n ∧ s = .int .i64 k ∧ Hid (strIn a (l.drop k) k = q) ∧ Hid (Below wo.heap.size wo wr)) (fun s _ => n - (intOf s).toNat)
      case atStart => exact ⟨0, Nat.zero_le _, rfl, hq, Below.refl _ _⟩
      case round =>
        obtain ⟨k, hk, rfl, hin, hbk⟩ := hrel
        obtain ⟨wv, hwv⟩ : ∃ wv : World, wv = wr := ⟨_, rfl⟩
        subst hwv
        by_cases hkn : k < n
        · obtain ⟨b0', off', Y, ny, cy, b, hAe, hb', hcell', hy, hbk'⟩ := ((G.out.keep hbl.out).keep hbk.out).round hkn
          cases hAe
          have HY := Lib.hid hy
          have hyl := Lib.hid hy.len
          have hbdy := hy.bd
          obtain ⟨s, hs⟩ : ∃ s, Hid (strP a b a 0 = s) := ⟨_, rfl⟩
          have hin2 : Hid ((if s ≠ 0 then (k, s) else strIn a (l.drop (k + 1)) (k + 1)) = q) := by have := hin.out; rw [strIn_cons hbk'.out, hs.out] at this; exact this
          have y3 : (0 : Int) ≤ (k : Int) := by omega
          have y4 : (k : Int) < (n : Int) := by omega
          clear hin hy
          have hcv := keepBox hbk.out hcell
          go_wp2_with fail
          go_loopw [6] (fun u wr => ∃ p : Nat, p ≤ nx ∧ u = .int .i64 p ∧ Hid (strP a b (a.drop p) p = s) ∧ Hid (Below wv.heap.size wv wr)) (fun u _ => nx - (intOf u).toNat)
          case atStart => exact ⟨0, Nat.zero_le _, rfl, hs, Below.refl _ _⟩
          case round =>
            obtain ⟨p, hp, rfl, hst, hbp⟩ := hrel
            have HXW := Lib.hid ((HX.out.keep hbk.out).keep hbp.out)
            have HYW := Lib.hid (HY.out.keep hbp.out)
            have ci := keepBox hbp.out hcv
            have ck := keepBox hbp.out hcell'
            have lb : b0 < wr.heap.size := (cell_lt ci).1
            have hwzp := hbp.out.size
            by_cases hpn : p < nx
            · obtain ⟨b3, off3, x, hXe, hb3, hcell3, x1, x2, hxp⟩ := HXW.out.round hpn
              subst hXe
              have hxb := ha.out.1 x (List.mem_of_getElem? hxp.out)
              have y5 : (0 : Int) ≤ (p : Int) := by omega
              have y6 : (p : Int) < (nx : Int) := by omega
              obtain ⟨t, ht⟩ : ∃ t, Hid (overF (a.set p (-x)) b = t) := ⟨_, rfl⟩
              have hst2 : Hid ((if t then -x else strP a b (a.drop (p + 1)) (p + 1)) = s) := by have := hst.out; rw [strP_cons hxp.out, ht.out] at this; exact this
              have hk5 := HXW.out.keep (below_new wr (.cells #[] 3))
              have HYW5 := Lib.hid (HYW.out.keep (below_new wr (.cells #[] 3)))
              have CI5 := Lib.hid (keepBox (below_new wr (.cells #[] 3)) ci)
              have CK5 := Lib.hid (keepBox (below_new wr (.cells #[] 3)) ck)
              have zw : IntKind.i64.wrap (-x) = -x := IntWalk.i64_in _ (by omega)
              clear hst hcell3
              go_wp2_with (first
                | (at_builtin
                   refine wpList_append_sl _ rfl (.tmp 29) (.tmp 33) _ rfl wr.heap.size 3 i0 _ 8 Try.underlying26 hi0 hz0 hz1 hz2 rfl (some ⟨wr.heap.size, 0, none⟩) 0 0 [] rfl (own_empty _ _ _ rfl (Nat.le_refl _)) (some ⟨b3, off3, none⟩) nx cx _ rfl hk5.sl (ints_one _) (by simp only [maxLen]; omega) (by omega) (by simp) ?_
                   intro A5 c5 w5 hown5' hg5' hat5
                   have hown5 : Own 3 w5 wr.heap.size A5 nx c5 (a.map (Value.int .i64)) := by simpa using hown5'
                   have hb5 : Below wr.heap.size wr w5 := below_grown (below_new wr (.cells #[] 3)) (own_empty 3 wr wr.heap.size rfl (Nat.le_refl _)) (Nat.le_refl _) hg5'
                   obtain ⟨g5, u5, hA5, hg5, hgl5, hc5, hf5, hu5⟩ := hown5.at_ hpn
                   obtain rfl : u5 = .int .i64 x := by have := hu5.out; rw [List.getElem?_map, hxp.out] at this; exact (Option.some.inj this).symm
                   subst hA5
                   have O5 := Lib.hid (hown5.set_ p (.int .i64 (-x)))
                   have GR5 := hown5.grown_set p (.int .i64 (-x))
                   have B5 : Below wr.heap.size wr (w5.setCell ⟨g5, p, none⟩ (.int .i64 (-x))) := below_grown hb5 hown5 (Nat.le_refl _) GR5
                   have BP5 := Lib.hid (below_next hbp.out B5)
                   have IT : Hid (Ints (w5.setCell ⟨g5, p, none⟩ (.int .i64 (-x))) (some ⟨g5, 0, none⟩) nx c5 (a.set p (-x))) := by
                     have h1 := O5.out
                     have e1 : (a.map (Value.int .i64)).set p (.int .i64 (-x)) = (a.set p (-x)).map (Value.int .i64) := by rw [List.map_set]
                     rw [e1] at h1
                     exact h1.ints (fun z hz => by
                       rcases List.mem_or_eq_of_mem_set hz with hz | rfl
                       · have := ha.out.1 z hz; unfold I64; omega
                       · unfold I64; omega)
                   have HYT := Lib.hid (HYW.out.keep B5)
                   have ck5 := keepBox B5 ck
                   have lb5 : b0 < (w5.setCell ⟨g5, p, none⟩ (.int .i64 (-x))).heap.size := (cell_lt ck5).1
                   simp at lb5
                   have hcx : Hid ((w5.setCell ⟨g5, p, none⟩ (.int .i64 (-x))).cell? ⟨g5, p, none⟩ = some (.int .i64 (-x))) := World.cell?_setCell_same _ _ _ (by rw [hc5])
                   clear hown5 hown5' hg5' hat5 hb5 O5 GR5 B5 hu5))
              (try simp only [Nat.zero_add])
              go_wp2_with fail
              obtain ⟨w6, hw6⟩ : ∃ w6 : World, w6 = w5.setCell ⟨g5, p, none⟩ (.int .i64 (-x)) := ⟨_, rfl⟩
              rw [← hw6] at BP5 IT HYT hcx ck5
              (try rw [← hw6])
              refine (over_ref _ _ _ _ _ _ (a.set p (-x)) b _ IT.out HYT.out t ht).mono ?_
              rintro e w7 ⟨rfl, m7, rfl⟩
              have BP6 := Lib.hid (below_next BP5.out (below_drewN w6 m7))
              have hcx7 := keepBox (below_drewN w6 m7) hcx.out
              have lg7 : g5 < (w6.drewN m7).heap.size := (cell_lt hcx7).1
              clear hw6 hc5 hf5 hgl5
              cases t
              · go_wp2_with fail
                go_roundw
                case rel => exact ⟨p + 1, by omega, by go_num, by have := hst2.out; simpa [Hid] using this, BP6⟩
                case measure => simp [intOf]; omega
              · have hsx : -x = s := by have := hst2.out; simpa using this
                have hq2 : (k, s) = q := by have := hin2.out; rw [if_pos (by rw [← hsx]; omega)] at this; exact this
                have hrr : (k, s) = (r1, r2) := by have := hgo2.out; rw [← hq2, if_pos (by rw [← hsx]; simp; omega)] at this; exact this
                obtain ⟨rfl, rfl⟩ : k = r1 ∧ s = r2 := by simpa using hrr
                subst hsx
                have hne : ¬ -x = 0 := by omega
                have BF := Lib.hid (below_next hbl.out (below_next hbk.out BP6.out))
                obtain rfl : (k : Int) = r0 := by have := hr0.out; rw [if_neg hne] at this; exact this
                clear hq2 hrr
                obtain ⟨w8, hw8⟩ : ∃ w8 : World, w8 = w6.drewN m7 := ⟨_, rfl⟩
                rw [← hw8] at BF hcx7 lg7
                (try rw [← hw8])
                clear hw8
                go_wp2_with fail
                go_quiet (fail)
                go_wp2_with fail
                go_ret2
                exact ⟨rfl, below_next BF.out (below_drewN _ _)⟩
            · have hs0 : 0 = s := by have := hst.out; rw [List.drop_of_length_le (by rw [hxl.out]; omega), strP] at this; exact this
              have hin3 : Hid (strIn a (l.drop (k + 1)) (k + 1) = q) := by have := hin2.out; rw [← hs0] at this; simpa [Hid] using this
              clear hs0
              go_wp2_with fail
              go_roundw
              case rel => exact ⟨k + 1, by omega, by go_num, hin3, below_next hbk.out hbp.out⟩
              case measure => simp [intOf]; omega
        · have hqm : (0, 0) = q := by have := hin.out; rw [List.drop_of_length_le (by rw [hlen.out]; omega), strIn] at this; exact this
          have hgo3 : Hid (strFst l (l.drop (i + 1)) = (r1, r2)) := by have := hgo2.out; rw [← hqm, if_neg (by simp)] at this; exact this
          go_wp2_with fail
          go_roundw
          case rel => exact ⟨i + 1, by omega, by go_num, hgo3, below_next hbl.out hbk.out⟩
          case measure => simp [intOf]; omega
    · have hrr : (0, 0) = (r1, r2) := by have := hgo.out; rw [List.drop_of_length_le (by rw [hlen.out]; omega), strFst] at this; exact this
      obtain ⟨rfl, rfl⟩ : 0 = r1 ∧ 0 = r2 := by simpa using hrr
      clear hrr
      obtain rfl : -1 = r0 := by have := hr0.out; rw [if_pos rfl] at this; exact this
      go_wp2_with fail
      go_ret2
      exact ⟨rfl, hbl.out⟩
end Go.Proofs.Ytecgmgidfjbamaa
