/- Contract of learn's clause: what a false clause teaches. -/
import Derived.Test.YtabjbpkojbdgaaaLearnAt
import Derived.Test.YtabjbpkojbdgaaaSorted
import Derived.StillTailTactics
namespace Go.Proofs.Ytabjbpkojbdgaaa
open Go.RowKit
set_option linter.unusedSimpArgs false

/-- The clause that is learned, as the program tells it. -/
def cloR (xss : List (List Int)) (t y v : List Int) (z : Nat) (c : List Int) : List Int := if z = 0 then c else cloF xss t y v z (t.length + 1) c
def taughtF (xss : List (List Int)) (t y v : List Int) (z : Nat) (a : Int) : List Int :=
  sortF ((cloR xss t y v z (xss.getD a.toNat [])).filter (fun l => !(lvF t v l == 0)))

set_option maxHeartbeats 8000000 in
set_option maxRecDepth 100000 in
theorem clause_any (W : World) (gr : Nat) (A : Option Addr) (n c : Nat) (xss : List (List Int)) (t y v : List Int) (z : Nat) (a vars : Int) (h : RunLook W gr A n c t y v z a) (hg : Grid W A n c xss) (v0 : 0 ≤ vars) (v1 : vars ≤ 1000)
    (hT : Told vars xss t y v z a) (ha : 0 ≤ a) (hc : ∀ c ∈ xss, Lits vars c) (hz6 : z ≤ 1000000) (R : List Int) (hR : Hid (taughtF xss t y v z a = R)) :
    Calls Try.prog 46 #[.pointer (some ⟨gr, 0, none⟩)] W (RetInts R W) := by
  have HH := Lib.hid h
  have HG := Lib.hid hg
  have HT := Lib.hid hT
  have HCX := Lib.hid hc
  obtain ⟨g, L, cl, Y, cy, V, nv, cv, h1, h0, h2, hyy, h3, h4, hY, h5, h6, h7⟩ := h.ex
  obtain ⟨fc, f1, f2, f3⟩ := hT.fals ha
  obtain ⟨aN, haN⟩ : ∃ aN : Nat, a = (aN : Int) := ⟨a.toNat, by omega⟩
  subst haN
  simp only [Int.toNat_natCast] at f1
  have hxl : aN < n := by rw [← hg.len]; exact (List.getElem?_eq_some_iff.1 f1).1
  obtain ⟨b, off, A', n', c', xs, hAe, hb, hcell, hx, hxk⟩ := hg.round hxl
  obtain rfl : fc = xs := by have := hxk.out; rw [f1] at this; injection this
  have hfl := hc fc f2
  have HC0 := Lib.hid (con_first (v := v) (z := z) hfl f3)
  have hR0 : Hid (sortF ((cloR xss t y v z fc).filter (fun l => !(lvF t v l == 0))) = R) := by have := hR.out; rw [taughtF, List.getD_eq_getElem?_getD] at this; simp only [Int.toNat_natCast] at this; rw [f1] at this; exact this
  have hn6 : n' ≤ 1000000 := by
    have e1 := hx.len
    rcases Int.lt_or_le vars 0 with h9 | h9
    · have : fc = [] := by
        cases fc with
        | nil => rfl
        | cons q r => have := hfl.1 q (by simp); omega
      rw [this] at e1; simp at e1; omega
    · have := hfl.len_le h9; omega
  have g0 := (cell_lt h1).1
  have g1 := (cell_lt h0).1
  subst hAe
  have HX := Lib.hid hx
  obtain ⟨i0, hi0, hz0, hz1, hz2⟩ := info_parts int_info
  have hbd := hg.bd
  have q1 : (0 : Int) ≤ (aN : Int) := by omega
  have q2 : (aN : Int) < (n : Int) := by omega
  clear h hg hT h2 hyy h3 h4 hY h5 hx hxk f1 f2 f3 hfl hR hc
  go_enter Try.func46, Try.ntmps46
  go_wp2_with fail
  obtain ⟨w0, hw0⟩ : ∃ w0 : World, w0 = W.alloc (.cells #[.pointer (some ⟨gr, 0, none⟩)] 79) := ⟨_, rfl⟩
  have HB0 : Hid (Below W.heap.size W w0) := by rw [hw0]; exact below_new _ _
  have K0 : Blk w0 W.heap.size 79 #[.pointer (some ⟨gr, 0, none⟩)] := by rw [hw0]; exact Blk.new _ _ _
  have HS0 : Hid (w0.heap.size = W.heap.size + 1) := by rw [hw0]; simp [Hid]
  try rw [← hw0]
  refine wp_region_still_tail 13 (by kernel_rfl) (by kernel_rfl) ?_
  obtain ⟨wd, hwd⟩ : ∃ wd : World, wd = w0.drew := ⟨_, rfl⟩
  have hbd0 : Below w0.heap.size w0 wd := by rw [hwd]; exact below_drewN _ 1
  have HBD : Hid (Below W.heap.size W wd) := below_next HB0.out hbd0
  have HKD := Lib.hid (K0.keep hbd0)
  have HSD : Hid (wd.heap.size = W.heap.size + 1) := by rw [hwd]; exact HS0.out
  change wpStill _ _ w0.drew (fun a' => wpList _ _ _ _ a' w0.drew) _ _
  rw [← hwd]
  have e1 := keepBox HBD.out h1
  have e0 := keepBox HBD.out h0
  have e7 := keepBox HBD.out h7
  have ec := keepBox HBD.out hcell
  have ek := HKD.out.cell 0
  simp at ek
  have HX0 := Lib.hid (HX.out.keep HBD.out)
  have z0 : W.heap.size < wd.heap.size := by rw [HSD.out]; omega
  have z1 : gr < wd.heap.size := by omega
  have z2 : g < wd.heap.size := by omega
  have z3 : b < wd.heap.size := by omega
  clear h1 h0 h7 hcell h6 hwd hbd0 hw0 K0
  simp only [List.take_succ_cons, List.take_zero, List.drop_succ_cons, List.drop_zero]
  repeat still_step
  try refine wpStill_nil ?_
  go_wp2_with fail
  refine (clone_ints _ _ _ fc _ HX0.out hn6).mono ?_
  rintro e w1 ⟨A1, n1, c1, rfl, hown, hb1⟩
  have HB1 := Lib.hid hb1
  have O1 := Lib.hid hown
  have HHD := Lib.hid (HH.out.keep HBD.out)
  have HGD := Lib.hid (HG.out.keep HBD.out)
  obtain ⟨R0, hr0⟩ : ∃ R0, Hid (cloR xss t y v z fc = R0) := ⟨_, rfl⟩
  rw [hr0.out] at hR0
  clear hown hb1 e1 e0 e7 ec ek HX0 HX
  go_wp2_with fail
  go_loopg [3] (t.length) (fun f s wr => ∃ (A5 : Option Addr) (n5 c5 : Nat) (cc : List Int), s = .slice A5 n5 c5 ∧ Hid (Own 3 wr wd.heap.size A5 n5 c5 (cc.map (Value.int .i64))) ∧ Hid (Con t v z cc f) ∧ Hid ((if z = 0 then cc else cloF xss t y v z (f + 1) cc) = R0) ∧ Hid (Below wd.heap.size wd wr))
  case atStart => exact ⟨A1, n1, c1, fc, rfl, O1, HC0, hr0, HB1⟩
  case round =>
    clear O1 HC0 hr0 HB1
    obtain ⟨A5, n5, c5, cc, rfl, hO, hC, hF, hB⟩ := hrel
    have HK := Lib.hid (HKD.out.keep hB.out)
    have HL := Lib.hid (HHD.out.keep hB.out)
    obtain ⟨g, L, cl, Y, cy, V, nv, cv, h1, h0, h2, hyy, h3, h4, hY, h5, h6, h7⟩ := HL.out.ex
    have ek := HK.out.cell 0
    simp at ek
    have zk := (cell_lt ek).1
    have zr := (cell_lt h1).1
    have HCN := hC
    have h0t : Hid ((0 : Int) ∉ t) := HT.out.lits.zero
    have HCB : Hid (∀ x ∈ cc, -1000000 ≤ x ∧ x ≤ 1000000) := fun x hx => by have := HT.out.lits.1 _ (hC.out.neg x hx); omega
    have HTL : Hid (t.length ≤ 1000) := by have := HT.out.lits.len_le v0; show _ ≤ _; omega
    have HN5 : Hid (n5 ≤ 1000000) := by
      have g3 := hO.out.len
      rw [List.length_map] at g3
      have g4 := length_le_of_sub cc (t.map (fun x => -x)) hC.out.nd (fun x hx => List.mem_map.2 ⟨-x, hC.out.neg x hx, by omega⟩)
      rw [List.length_map] at g4
      have := HTL.out
      show _ ≤ _
      omega
    clear hC
    by_cases hz : z = 0
    · subst hz
      have hF2 : Hid (cc = R0) := by simpa [Hid] using hF.out
      have OX := hO
      have BX := hB
      clear hF
      go_wp2_with fail
      refine (deleteFunc_any 75 enters_clause2 _ wd.heap.size n5 c5 A5 cc (fun l => lvF t v l == 0) _ OX.out (fun x hx => by have := HCB.out x hx; unfold I64; omega) ?_ HN5.out).mono ?_
      · intro W2 y2 hg2 hy2
        have hb2 : Below wd.heap.size wd W2 := below_grown BX.out OX.out (Nat.le_refl _) hg2
        exact clause2_any W2 gr W.heap.size _ n c t y v _ aN (HHD.out.keep hb2) (by have := (HKD.out.keep hb2).cell 0; simpa using this) y2 (HCB.out y2 hy2) (HCN.out.neg y2 hy2) _ rfl
      rintro e w6 ⟨n6, rfl, hown6, hg6⟩
      have HB6 := Lib.hid (below_grown BX.out OX.out (Nat.le_refl _) hg6)
      have O6 := Lib.hid hown6
      have hn6' : n6 ≤ 1000000 := by
        have g1 := hown6.len
        rw [List.length_map] at g1
        have g2 := List.length_filter_le (fun l => !(lvF t v l == 0)) cc
        have g3 := OX.out.len
        rw [List.length_map] at g3
        have g4 := HN5.out
        omega
      have HFI : Hid (∀ x ∈ cc.filter (fun l => !(lvF t v l == 0)), -1000000 ≤ x ∧ x ≤ 1000000) := fun x hx => HCB.out x (List.mem_filter.1 hx).1
      have HRC : Hid (sortF (cc.filter (fun l => !(lvF t v l == 0))) = R) := by have := hR0.out; rw [← hF2.out] at this; exact this
      clear hown6 hg6
      go_wp2_with fail
      refine (sorted_any A5 n6 c5 _ w6 (O6.out.ints (fun x hx => by have := HFI.out x hx; unfold I64; omega)) HFI.out hn6').mono ?_
      rintro e w7 ⟨A7, n7, c7, rfl, hown7, hb7⟩
      have HB7 := Lib.hid (below_next (below_next HBD.out HB6.out) hb7)
      have hsz7 := (below_next HBD.out HB6.out).size
      have O7 : Hid (Own 3 w7 W.heap.size A7 n7 c7 (R.map (Value.int .i64))) := by have := hown7.mono hsz7; rw [HRC.out] at this; exact this
      clear hown7 hb7 hsz7
      go_wp2_with fail
      go_ret
      exact ⟨A7, n7, c7, rfl, O7.out, HB7.out⟩
    · have hzp : (0 : Int) < (z : Int) := by omega
      have hF1 : Hid (cloF xss t y v z (gk + 1) cc = R0) := by have := hF.out; rw [if_neg hz] at this; exact this
      clear hF
      obtain ⟨wa, hwa⟩ : ∃ wa : World, wa = wr.alloc (.cells #[.int .i64 0] 3) := ⟨_, rfl⟩
      have hba : Below wr.heap.size wr wa := by rw [hwa]; exact below_new _ _
      have KA := Blk.new wr 3 #[.int .i64 0]
      rw [← hwa] at KA
      have HOA := Lib.hid (hO.out.keep hba)
      have HBA := Lib.hid (below_next hB.out hba)
      have hOb : Hid (blockOf A5 ≠ some wr.heap.size) := hO.out.ltb (Nat.le_refl _)
      have hbrge : Hid (wd.heap.size ≤ wr.heap.size) := hB.out.size
      obtain ⟨la0, m0, hlat⟩ : ∃ la0 m0, Hid (latF t v z cc 0 0 = (la0, m0)) := ⟨_, _, rfl⟩
      have HI : Hid (∀ x ∈ cc, I64 x) := fun x hx => by have := HCB.out x hx; unfold I64; omega
      go_wp2_with fail
      rw [← hwa]
      obtain ⟨br, hbr⟩ : ∃ br, br = wr.heap.size := ⟨_, rfl⟩
      rw [← hbr] at hOb hbrge KA ⊢
      have HKA := Lib.hid KA
      clear hbr hwa hba KA hO hB ek h1 h0 h2 hyy h3 h4 hY h5 h6 h7 HK HL zk zr
      go_loopw [5, 31] (fun s5 s31 wr => ∃ (k : Nat) (la m : Int), k ≤ n5 ∧ 0 ≤ m ∧ m ≤ k ∧ s5 = .int .i64 m ∧ s31 = .int .i64 k ∧ Hid (la = 0 ∨ -la ∈ t) ∧ Hid (Blk wr br 3 #[.int .i64 la]) ∧ Hid (Own 3 wr wd.heap.size A5 n5 c5 (cc.map (Value.int .i64))) ∧ Hid (Below wd.heap.size wd wr) ∧ Hid (latF t v z (cc.drop k) la m = (la0, m0))) (fun _ i _ => n5 - (intOf i).toNat)
      case atStart => exact ⟨0, 0, 0, Nat.zero_le _, Int.le_refl _, Int.le_refl _, rfl, rfl, .inl rfl, HKA, HOA, HBA, hlat⟩
      case round =>
        clear HKA HOA HBA
        obtain ⟨k, la, m, hk, hm0, hmk, rfl, rfl, hla, hbk, hO, hB, hlt⟩ := hrel
        have hn5 : n5 ≤ 1000000 := HN5.out
        have HK := Lib.hid (HKD.out.keep hB.out)
        have HL := Lib.hid (HHD.out.keep hB.out)
        obtain ⟨g, L, cl, Y, cy, V, nv, cv, h1, h0, h2, hyy, h3, h4, hY, h5, h6, h7⟩ := HL.out.ex
        have ek := HK.out.cell 0
        have eb := hbk.out.cell 0
        simp at ek eb
        have zk := (cell_lt ek).1
        have zr := (cell_lt h1).1
        have zb := (cell_lt eb).1
        clear h0 h2 hyy h3 h4 hY h5 h7
        by_cases hkn : k < n5
        · obtain ⟨b, off, x, hAe, hbb, hcell, x1, x2, hxk⟩ := (hO.out.ints HI.out).round hkn
          have hxm := List.mem_of_getElem? hxk.out
          have hxb := HCB.out x hxm
          have hxt : Hid (-x ∈ t) := HCN.out.neg x hxm
          obtain ⟨lv, hlv⟩ : ∃ lv, Hid (lvF t v x = lv) := ⟨_, rfl⟩
          have hst : Hid ((if lv = z then latF t v z (cc.drop (k + 1)) (if la = 0 ∨ plcF t la < plcF t x then x else la) (m + 1) else latF t v z (cc.drop (k + 1)) la m) = (la0, m0)) := by have := hlt.out; rw [drop_cons_of hxk.out, latF, hlv.out] at this; exact this
          have hA5 : Hid (A5 = some ⟨b, off, none⟩) := hAe
          clear hlt hxm
          subst hAe
          by_cases hle : lv = z
          · have hst2 : Hid (latF t v z (cc.drop (k + 1)) (if la = 0 ∨ plcF t la < plcF t x then x else la) (m + 1) = (la0, m0)) := by have := hst.out; rw [if_pos hle] at this; exact this
            clear hst
            go_wp2_with fail
            go_quiet ((go_at_call 47; exact RetQ.quiet (level_any _ gr _ n c t y v z aN (HL.out.keep (below_drewN _ _)) x hxb hxt.out _ hlv)))
            go_wp2_with fail
            obtain ⟨wq, hwq⟩ : ∃ wq : World, wq = wr.drewN nq := ⟨_, rfl⟩
            have hbq : Below wr.heap.size wr wq := by rw [hwq]; exact below_drewN _ _
            (try rw [← hwq])
            have HLQ := Lib.hid (HL.out.keep hbq)
            have HBK := Lib.hid (hbk.out.keep hbq)
            have HOQ := Lib.hid (hO.out.keep hbq)
            have HBQ := Lib.hid (below_next hB.out hbq)
            have eb2 := keepBox hbq eb
            have ek2 := keepBox hbq ek
            have zk2 := (cell_lt ek2).1
            have zb2 := (cell_lt eb2).1
            have fb2 : wq.frozen? ⟨br, 0, none⟩ = false := HBK.out.frozen 0
            clear hbq hwq eb ek zk zb zr h1 h6 hcell hbk hO hB HL HK nq
            by_cases hl0 : la = 0
            · have HC9 : Hid (la = 0 ∨ plcF t la < plcF t x) := .inl hl0
              subst hl0
              go_quiet (fail)
              go_wp2_with fail
              go_roundw
              case rel =>
                refine ⟨k + 1, x, m + 1, by omega, by omega, by omega, by go_num, by go_num, .inr hxt, ?_, ?_, ?_, ?_⟩
                · have := (HBK.out.keep (below_drewN wq nq)).set_ 0 (.int .i64 x)
                  simpa [Hid] using this
                · exact (HOQ.out.keep (below_drewN wq nq)).kept (grown_setCell _ ⟨br, 0, none⟩ _) (.inr (by simpa [blockOf] using hOb.out))
                · exact (below_next HBQ.out (below_drewN wq nq)).setCell hbrge.out _
                · have := hst2.out; rw [if_pos HC9.out] at this; exact this
              case measure => simp [intOf]; omega
            · have hlt9 : Hid (-la ∈ t) := by rcases hla with h | h; exact absurd h hl0; exact h
              have hlab : -1000000 ≤ la ∧ la ≤ 1000000 := by have := HT.out.lits.1 _ hlt9.out; omega
              have dl0 : (la == 0) = false := by rw [beq_eq_false_iff_ne]; exact hl0
              obtain ⟨px, hpx⟩ : ∃ q, Hid (plcF t x = q) := ⟨_, rfl⟩
              obtain ⟨pl, hpl⟩ : ∃ q, Hid (plcF t la = q) := ⟨_, rfl⟩
              by_cases hcmp : pl < px
              · have HC9 : Hid (la = 0 ∨ plcF t la < plcF t x) := .inr (by rw [hpx.out, hpl.out]; exact hcmp)
                go_quiet ((first | (go_at_call 51; with_reducible exact RetQ.quiet (at_any _ gr _ n c t y v z aN (HLQ.out.keep (below_drewN _ _)) x hxb _ hpx)) | (go_at_call 51; with_reducible exact RetQ.quiet (at_any _ gr _ n c t y v z aN (HLQ.out.keep (below_drewN _ _)) la hlab _ hpl))))
                go_wp2_with fail
                go_roundw
                case rel =>
                  refine ⟨k + 1, x, m + 1, by omega, by omega, by omega, by go_num, by go_num, .inr hxt, ?_, ?_, ?_, ?_⟩
                  · have := (HBK.out.keep (below_drewN wq nq)).set_ 0 (.int .i64 x)
                    simpa [Hid] using this
                  · exact (HOQ.out.keep (below_drewN wq nq)).kept (grown_setCell _ ⟨br, 0, none⟩ _) (.inr (by simpa [blockOf] using hOb.out))
                  · exact (below_next HBQ.out (below_drewN wq nq)).setCell hbrge.out _
                  · have := hst2.out; rw [if_pos HC9.out] at this; exact this
                case measure => simp [intOf]; omega
              · have HC9 : Hid (¬ (la = 0 ∨ plcF t la < plcF t x)) := by rw [hpx.out, hpl.out]; rintro (h | h); exact hl0 h; exact hcmp h
                go_quiet ((first | (go_at_call 51; with_reducible exact RetQ.quiet (at_any _ gr _ n c t y v z aN (HLQ.out.keep (below_drewN _ _)) x hxb _ hpx)) | (go_at_call 51; with_reducible exact RetQ.quiet (at_any _ gr _ n c t y v z aN (HLQ.out.keep (below_drewN _ _)) la hlab _ hpl))))
                go_wp2_with fail
                go_roundw
                case rel =>
                  refine ⟨k + 1, la, m + 1, by omega, by omega, by omega, by go_num, by go_num, hla, HBK.out.keep (below_drewN wq nq), HOQ.out.keep (below_drewN wq nq), below_next HBQ.out (below_drewN wq nq), ?_⟩
                  have := hst2.out; rw [if_neg HC9.out] at this; exact this
                case measure => simp [intOf]; omega
          · have hst2 : Hid (latF t v z (cc.drop (k + 1)) la m = (la0, m0)) := by have := hst.out; rw [if_neg hle] at this; exact this
            clear hst
            go_wp2_with fail
            go_quiet ((go_at_call 47; exact RetQ.quiet (level_any _ gr _ n c t y v z aN (HL.out.keep (below_drewN _ _)) x hxb hxt.out _ hlv)))
            go_wp2_with fail
            go_roundw
            case rel => exact ⟨k + 1, la, m, by omega, hm0, by omega, rfl, by go_num, hla, hbk.out.keep (below_drewN _ _), hO.out.keep (below_drewN _ _), below_next hB.out (below_drewN _ _), hst2⟩
            case measure => simp [intOf]; omega
        · have hfin : (la, m) = (la0, m0) := by have := hlt.out; rw [List.drop_of_length_le (by have := hO.out.len; rw [List.length_map] at this; omega), latF] at this; exact this
          obtain ⟨rfl, rfl⟩ : la = la0 ∧ m = m0 := by simpa using hfin
          clear hfin hlt
          by_cases hm2 : m < 2
          · have hF2 : Hid (cc = R0) := by have := hF1.out; rw [cloF, hlat.out, if_pos hm2] at this; exact this
            have OX := hO
            have BX := hB
            clear hF1
            go_wp2_with fail
            refine (deleteFunc_any 75 enters_clause2 _ wd.heap.size n5 c5 A5 cc (fun l => lvF t v l == 0) _ OX.out (fun x hx => by have := HCB.out x hx; unfold I64; omega) ?_ HN5.out).mono ?_
            · intro W2 y2 hg2 hy2
              have hb2 : Below wd.heap.size wd W2 := below_grown BX.out OX.out (Nat.le_refl _) hg2
              exact clause2_any W2 gr W.heap.size _ n c t y v _ aN (HHD.out.keep hb2) (by have := (HKD.out.keep hb2).cell 0; simpa using this) y2 (HCB.out y2 hy2) (HCN.out.neg y2 hy2) _ rfl
            rintro e w6 ⟨n6, rfl, hown6, hg6⟩
            have HB6 := Lib.hid (below_grown BX.out OX.out (Nat.le_refl _) hg6)
            have O6 := Lib.hid hown6
            have hn6' : n6 ≤ 1000000 := by
              have g1 := hown6.len
              rw [List.length_map] at g1
              have g2 := List.length_filter_le (fun l => !(lvF t v l == 0)) cc
              have g3 := OX.out.len
              rw [List.length_map] at g3
              have g4 := HN5.out
              omega
            have HFI : Hid (∀ x ∈ cc.filter (fun l => !(lvF t v l == 0)), -1000000 ≤ x ∧ x ≤ 1000000) := fun x hx => HCB.out x (List.mem_filter.1 hx).1
            have HRC : Hid (sortF (cc.filter (fun l => !(lvF t v l == 0))) = R) := by have := hR0.out; rw [← hF2.out] at this; exact this
            clear hown6 hg6
            go_wp2_with fail
            refine (sorted_any A5 n6 c5 _ w6 (O6.out.ints (fun x hx => by have := HFI.out x hx; unfold I64; omega)) HFI.out hn6').mono ?_
            rintro e w7 ⟨A7, n7, c7, rfl, hown7, hb7⟩
            have HB7 := Lib.hid (below_next (below_next HBD.out HB6.out) hb7)
            have hsz7 := (below_next HBD.out HB6.out).size
            have O7 : Hid (Own 3 w7 W.heap.size A7 n7 c7 (R.map (Value.int .i64))) := by have := hown7.mono hsz7; rw [HRC.out] at this; exact this
            clear hown7 hb7 hsz7
            go_wp2_with fail
            go_ret
            exact ⟨A7, n7, c7, rfl, O7.out, HB7.out⟩
          · have hcs := con_step HT.out HCN.out (by rw [hlat.out]; exact hm2)
            rw [hlat.out] at hcs
            have HCS := Lib.hid hcs
            clear hcs
            go_wp2_with fail
            refine (deleteFunc_any 74 enters_clause1 _ wd.heap.size n5 c5 A5 cc (fun l => l == la) _ hO.out HI.out ?_ HN5.out).mono ?_
            · intro W2 y2 hg2 hy2
              exact clause1_any y2 la br W2 (by have := (hbk.out.grown hg2 (fun e => hOb.out e.symm)).cell 0; simpa using this)
            rintro e w6 ⟨n6, rfl, hown6, hg6⟩
            have HB6 := Lib.hid (below_grown hB.out hO.out (Nat.le_refl _) hg6)
            have O6 := Lib.hid hown6
            have KB6 : Hid (Blk w6 br 3 #[.int .i64 la]) := hbk.out.grown hg6 (fun e => hOb.out e.symm)
            have K6 := Lib.hid (HKD.out.keep HB6.out)
            have L6 := Lib.hid (HHD.out.keep HB6.out)
            have hn6 : n6 ≤ 1000000 := by
              have g1 := hown6.len
              rw [List.length_map] at g1
              have g2 := List.length_filter_le (fun l => !(l == la)) cc
              have g3 := hO.out.len
              rw [List.length_map] at g3
              omega
            obtain ⟨jla, jlt, j0, jy, jx, jneg, jtk, jcon⟩ := HCS.out
            have hlab := HCB.out la jla
            have HCON : Hid (Con t v z (resF xss t y cc la) ((gk - 1 : Nat) : Int)) := ⟨jcon.neg, jcon.nd, fun l hl hlz => by have := jcon.low l hl hlz; omega⟩
            obtain ⟨P, hP⟩ : ∃ P : Nat, plcF t la = (P : Int) := ⟨(plcF t la).toNat, by omega⟩
            have hgk : Hid (gk - 1 + 1 = gk) := by show _ = _; omega
            have hpl := (plc_mem (HCN.out.neg la jla)).2.1
            simp only [hP, Int.toNat_natCast] at jy jx hpl
            obtain ⟨Q, hQ⟩ : ∃ Q : Nat, y.getD P 0 = (Q : Int) := ⟨(y.getD P 0).toNat, by omega⟩
            rw [hQ, Int.toNat_natCast] at jx
            obtain ⟨br2, hbr2⟩ : ∃ q, Hid (bringF xss t y la = q) := ⟨_, rfl⟩
            rw [hbr2.out] at jx
            have hQn : Q < n := by rw [← HGD.out.len]; exact (List.getElem?_eq_some_iff.1 jx).1
            obtain ⟨b3, off3, A3, n3, c3, xs3, hA3, hb3, hcell3, hx3, hxk3⟩ := HGD.out.round hQn
            obtain rfl : br2 = xs3 := by have := hxk3.out; rw [jx] at this; injection this
            cases hA3
            have hlb := HCX.out _ (List.mem_of_getElem? jx)
            have hn3 : n3 ≤ 1000 := by have := hlb.len_le v0; rw [hx3.len] at this; omega
            have HBL : Hid (∀ x ∈ br2, -1000000 ≤ x ∧ x ≤ 1000000) := fun x hx => by have := hlb.1 x hx; omega
            have HX3 := Lib.hid hx3
            have hcell6 := keepBox HB6.out hcell3
            have hPn : P < y.length := by rw [L6.out.leny]; omega
            have hF3 : Hid (cloF xss t y v z gk (resF xss t y cc la) = R0) := by have := hF1.out; rw [cloF, hlat.out, if_neg (by omega)] at this; exact this
            have hadd : Hid (addF (-la) br2 (cc.filter (fun l => !(l == la))) = resF xss t y cc la) := by rw [resF, hbr2.out]; rfl
            obtain ⟨res, hres⟩ : ∃ r, Hid (resF xss t y cc la = r) := ⟨_, rfl⟩
            rw [hres.out] at hadd hF3 HCON
            have HPL : Hid (plcF t la = (P : Int)) := hP
            have HN0 : Hid (∀ x ∈ cc.filter (fun l => !(l == la)), -1000000 ≤ x ∧ x ≤ 1000000) := fun x hx => HCB.out x (List.mem_filter.1 hx).1
            clear ek eb zk zr zb h1 h6 HK HL
            obtain ⟨g, L, cl, Y, cy, V, nv, cv, h1, h0, h2, hyy, h3, h4, hY, h5, h6, h7⟩ := L6.out.ex
            obtain ⟨b4, off4, yv, hYe, hb4, hcell4, yv1, yv2, hyk⟩ := hY.round hPn
            obtain rfl : yv = (Q : Int) := by have := hyk.out; rw [← hQ, List.getD_eq_getElem?_getD, this]; rfl
            cases hYe
            have ek := K6.out.cell 0
            have eb := KB6.out.cell 0
            simp at ek eb
            have zk := (cell_lt ek).1
            have zr := (cell_lt h1).1
            have zg := (cell_lt h0).1
            have zb := (cell_lt eb).1
            have z3 := (cell_lt hcell6).1
            have z4 := (cell_lt hcell4).1
            have u1 : (0 : Int) ≤ (P : Int) := by omega
            have u2 : (P : Int) < (y.length : Int) := by omega
            have u3 : (0 : Int) ≤ (Q : Int) := by omega
            have u4 : (Q : Int) < (n : Int) := by omega
            clear h2 h3 h4 hY h5 h6 h7 hyk hown6 hg6 hO hB hbk jx jy jneg jtk jcon jlt j0 hbr2 hres HCS hx3 hxk3 hcell3 hb3 hF1 hP hQ hlb
            go_wp2_with fail
            go_quiet ((go_at_call 51; exact RetQ.quiet (at_any _ gr _ n c t y v z aN (L6.out.keep (below_drewN _ _)) la hlab _ HPL)))
            go_wp2_with fail
            obtain ⟨wb, hwb⟩ : ∃ wb : World, wb = w6.drewN nq := ⟨_, rfl⟩
            have hbb6 : Below w6.heap.size w6 wb := by rw [hwb]; exact below_drewN _ _
            (try rw [← hwb])
            have O7 := Lib.hid (O6.out.keep hbb6)
            have B7 := Lib.hid (below_next HB6.out hbb6)
            have KB7 := Lib.hid (KB6.out.keep hbb6)
            clear hwb hbb6 ek eb zk zr zg zb z3 z4 h1 h0 hyy hcell6 hcell4 nq
            go_loopw [3, 85] (fun s3 s85 wr => ∃ (k : Nat) (A7 : Option Addr) (n7 c7 : Nat) (nn : List Int), k ≤ n3 ∧ n7 ≤ n6 + k ∧ s3 = .slice A7 n7 c7 ∧ s85 = .int .i64 k ∧ Hid (Own 3 wr wd.heap.size A7 n7 c7 (nn.map (Value.int .i64))) ∧ Hid (∀ x ∈ nn, -1000000 ≤ x ∧ x ≤ 1000000) ∧ Hid (Blk wr br 3 #[.int .i64 la]) ∧ Hid (blockOf A7 ≠ some br) ∧ Hid (Below wd.heap.size wd wr) ∧ Hid (addF (-la) (br2.drop k) nn = res)) (fun _ i _ => n3 - (intOf i).toNat)
            case atStart => exact ⟨0, A5, n6, c5, _, Nat.zero_le _, Nat.le_refl _, rfl, rfl, O7, HN0, KB7, hOb, B7, hadd⟩
            case round =>
              clear O7 HN0 KB7 B7 hadd O6 HB6 KB6 K6 L6
              obtain ⟨k, A7, n7, c7, nn, hk, hn7, rfl, rfl, hO, hN, hbk, hOb7, hB, had⟩ := hrel
              have eb := hbk.out.cell 0
              simp at eb
              have zb := (cell_lt eb).1
              have HXR := Lib.hid (HX3.out.keep hB.out)
              have HIN : Hid (∀ x ∈ nn, I64 x) := fun x hx => by have := hN.out x hx; unfold I64; omega
              by_cases hkn : k < n3
              · obtain ⟨b5, off5, x, hAe, hbb, hcell5, x1, x2, hxk⟩ := HXR.out.round hkn
                have hxb := HBL.out x (List.mem_of_getElem? hxk.out)
                have had2 : Hid ((if x != -la && !hasB nn x then addF (-la) (br2.drop (k + 1)) (nn ++ [x]) else addF (-la) (br2.drop (k + 1)) nn) = res) := by have := had.out; rw [drop_cons_of hxk.out, addF] at this; exact this
                cases hAe
                clear had
                by_cases hxe : x = -la
                · have had3 : Hid (addF (-la) (br2.drop (k + 1)) nn = res) := by have := had2.out; rw [hxe] at this; simpa [Hid] using this
                  have dx : (x == -la) = true := by rw [beq_iff_eq]; exact hxe
                  clear had2
                  go_wp2_with fail
                  go_roundw
                  case rel => exact ⟨k + 1, A7, n7, c7, nn, by omega, by omega, rfl, by go_num, hO, hN, hbk, hOb7, hB, had3⟩
                  case measure => simp [intOf]; omega
                · have dx : (x == -la) = false := by rw [beq_eq_false_iff_ne]; exact hxe
                  obtain ⟨q, hq⟩ : ∃ q, Hid (hasB nn x = q) := ⟨_, rfl⟩
                  have had3 : Hid ((if q then addF (-la) (br2.drop (k + 1)) nn else addF (-la) (br2.drop (k + 1)) (nn ++ [x])) = res) := by
                    have := had2.out
                    rw [hq.out, bne, dx] at this
                    cases q <;> simpa [Hid] using this
                  clear had2
                  go_wp2_with fail
                  refine (contains_ints A7 n7 c7 nn x wr (hO.out.ints HIN.out) q hq).mono ?_
                  rintro e w8 ⟨rfl, m8, rfl⟩
                  obtain ⟨wq, hwq⟩ : ∃ wq : World, wq = wr.drewN m8 := ⟨_, rfl⟩
                  have hbq : Below wr.heap.size wr wq := by rw [hwq]; exact below_drewN _ _
                  have ownq := Lib.hid (hO.out.keep hbq)
                  have blq := Lib.hid (below_next hB.out hbq)
                  have HBK := Lib.hid (hbk.out.keep hbq)
                  (try rw [← hwq])
                  clear hbq hwq
                  cases q
                  · have hS := ints_made wq 3 [x] rfl (by simp [I64]; omega) (by simp [maxLen])
                    have hqz := blq.out.size
                    have zq : br < wq.heap.size := HBK.out.lt
                    go_wp2_with (first
                      | (at_builtin
                         refine wpList_append_sl _ rfl (.tmp 99) (.tmp 101) _ rfl wd.heap.size 3 i0 _ 8 Try.underlying25 hi0 hz0 hz1 hz2 rfl A7 n7 c7 _ rfl (ownq.out.keep (below_new _ _)) (some ⟨wq.heap.size, 0, none⟩) 1 1 _ rfl hS.sl (ints_one _) (by simp only [maxLen]; omega) (by omega) (by simp; omega) ?_
                         intro L1 cL1 w9 hL1 hg1 hat1
                         have HL1 := Lib.hid hL1
                         have HB9 := Lib.hid (below_grown (below_alloc blq.out (.cells #[.int .i64 x] 3)) (ownq.out.keep (below_new wq (.cells #[.int .i64 x] 3))) (Nat.le_refl _) hg1)
                         have HK9 := Lib.hid ((HBK.out.alloc (.cells #[.int .i64 x] 3)).grown hg1 (fun e => hOb7.out e.symm))
                         have HO9 : Hid (blockOf L1 ≠ some br) := by
                           rcases hat1 with h | h
                           · rw [h]; exact hOb7.out
                           · rw [h]; intro e; injection e with e; simp at e; omega
                         clear hL1 hg1 hat1))
                    go_roundw
                    case rel =>
                      refine ⟨k + 1, L1, n7 + 1, cL1, nn ++ [x], by omega, by omega, rfl, by go_num, by rw [List.map_append]; exact HL1, ?_, HK9, HO9, HB9, by have := had3.out; simpa [Hid] using this⟩
                      intro z hz
                      rcases List.mem_append.1 hz with hz | hz
                      · exact hN.out z hz
                      · simp at hz; subst hz; exact hxb
                    case measure => simp [intOf]; omega
                  · go_wp2_with fail
                    go_roundw
                    case rel => exact ⟨k + 1, A7, n7, c7, nn, by omega, by omega, rfl, by go_num, ownq, hN, HBK, hOb7, blq, by have := had3.out; simpa [Hid] using this⟩
                    case measure => simp [intOf]; omega
              · have hfin : Hid (nn = res) := by have := had.out; rw [List.drop_of_length_le (by rw [HXR.out.len]; omega), addF] at this; exact this
                have hcon : Hid (Con t v z nn ((gk - 1 : Nat) : Int)) := by rw [hfin.out]; exact HCON
                have hclo : Hid (cloF xss t y v z gk nn = R0) := by rw [hfin.out]; exact hF3
                clear had
                go_wp2_with fail
                go_roundg (gk - 1)
                case measure => have := hgk.out; omega
                case rel => exact ⟨A7, n7, c7, nn, rfl, hO, hcon, by rw [if_neg hz, hgk.out]; exact hclo, hB⟩
end Go.Proofs.Ytabjbpkojbdgaaa
