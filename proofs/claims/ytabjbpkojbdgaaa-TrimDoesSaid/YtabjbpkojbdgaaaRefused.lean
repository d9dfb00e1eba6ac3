/- Contract of the reference's Refused. (Printed by wip/tools/refused.py.) -/
import Derived.Test.YtabjbpkojbdgaaaStepPlain
import Derived.Test.YtabjbpkojbdgaaaSteps
import Derived.Test.YtabjbpkojbdgaaaRefSort
import Derived.Test.YtabjbpkojbdgaaaRefAsk
import Derived.Test.YtabjbpkojbdgaaaCloneR
import Derived.Test.YtabjbpkojbdgaaaNormA
import Derived.Test.YtabjbpkojbdgaaaCompact
namespace Go.Proofs.Ytabjbpkojbdgaaa
open Go.RowKit
set_option linter.unusedSimpArgs false

/-- What is left of l, looked at to place j: 'gone': has a clause like own gone? -/
def leftF (own : List Int) : List (List Int) → Bool → List (List Int) → List (List Int) × Bool
  | [], g, o => (o, g)
  | x :: t, g, o => if !g && sameB x own then leftF own t true o else leftF own t g (o ++ [x])
theorem leftF_gone (own : List Int) : ∀ (l o : List (List Int)), leftF own l true o = (o ++ l, true)
  | [], o => by simp [leftF]
  | x :: t, o => by rw [leftF]; simp [leftF_gone own t]
theorem leftF_eq (own : List Int) : ∀ (l o : List (List Int)), leftF own l false o = if own ∈ l then (o ++ l.erase own, true) else (o ++ l, false)
  | [], o => by simp [leftF]
  | x :: t, o => by
    rw [leftF]
    by_cases h : x = own
    · subst h
      rw [if_pos (by simp [sameB]), leftF_gone]
      simp
    · have h1 : sameB x own = false := by rw [Bool.eq_false_iff]; exact fun e => h (sameB_iff.1 e)
      rw [if_neg (by simp [h1]), leftF_eq own t]
      have h2 : own ∈ x :: t ↔ own ∈ t := ⟨fun h3 => (List.mem_cons.1 h3).elim (fun e => absurd e.symm h) id, fun h3 => List.mem_cons_of_mem _ h3⟩
      by_cases h3 : own ∈ t
      · rw [if_pos h3, if_pos (h2.2 h3), List.erase_cons_tail (by simpa using h)]
        simp
      · rw [if_neg h3, if_neg (fun e => h3 (h2.1 e))]
        simp

set_option maxHeartbeats 8000000 in
set_option maxRecDepth 100000 in
theorem refused_any (A B : Option Addr) (n c m d : Nat) (xss : List (List Int)) (rs : List (Int × List Int)) (vars : Int) (w : World) (h : Grid w A n c xss) (h' : Steps w B m d rs) (v0 : 0 ≤ vars) (v1 : vars ≤ 120) (hn : n ≤ 400) (hm : m ≤ 3000) (hx : ∀ x ∈ xss, Lits vars x) (hs : ∀ r ∈ rs, (r.1 = 1 ∨ r.1 = 2) ∧ Lits vars r.2) (z : Int) (hz : Hid (whyF vars m xss rs 0 = z)) :
    Calls Try.prog 59 #[.agg #[.int .i64 vars, .slice A n c], .slice B m d] w (RetV (.int .i64 z) w) := by
  have hbd := h.bd
  have hbd' := h'.bd
  have hlx := Lib.hid h.len
  have hlr := Lib.hid h'.len
  obtain ⟨i0, hi0, hz0, hz1, hz2⟩ := info_parts row_info
  have hz' : Hid (refF vars m (xss.map sortF) rs 0 = z) := by rw [why_ref rs xss 0 hx hs]; exact hz
  have HX := Lib.hid hx
  have HS := Lib.hid hs
  obtain ⟨w0, hw0⟩ : ∃ w0 : World, w0 = w.alloc (.cells #[.int .i64 vars, .slice A n c] 24) := ⟨_, rfl⟩
  have hb0 : Below w.heap.size w w0 := by rw [hw0]; exact below_new _ _
  have KC : Hid (Blk w0 w.heap.size 24 #[.int .i64 vars, .slice A n c]) := by rw [hw0]; exact Blk.new _ _ _
  have HB := Lib.hid hb0
  have HW0 := Lib.hid hw0
  have G := Lib.hid (h.keep hb0)
  have V := Lib.hid (h'.keep hb0)
  clear h h' hx hs hz hw0 hb0
  go_enter Try.func59, Try.ntmps59
  go_wp2_with fail
  rw [← HW0.out]
  clear HW0
  go_loopw [5, 6] (fun s5 s6 wr => ∃ (k cl : Nat) (L : Option Addr), k ≤ n ∧ s5 = .slice L k cl ∧ s6 = .int .i64 k ∧ Hid (OwnP 25 3 wr w0.heap.size 0 L k cl ((xss.take k).map sortF)) ∧ Hid (Below w0.heap.size w0 wr)) (fun _ s _ => n - (intOf s).toNat)
  case atStart => exact ⟨0, 0, none, Nat.zero_le _, rfl, rfl, by simpa [Hid] using OwnP.nil _ _ _ _ _, Below.refl _ _⟩
  case round =>
    obtain ⟨k, cl, L, hk, rfl, rfl, hO, hbl⟩ := hrel
    have hwr := hbl.out.size
    have cc := (KC.out.keep hbl.out).cell 1
    have lc := (KC.out.keep hbl.out).lt
    simp at cc
    by_cases hlt : k < n
    · obtain ⟨b, off, X, nx, cx, x, hLe, hb, hcell, hxi, hxk⟩ := (G.out.keep hbl.out).round hlt
      subst hLe
      have hxl := HX.out x (List.mem_of_getElem? hxk.out)
      have HXB : Hid (∀ q ∈ x, -1000000 ≤ q ∧ q ≤ 1000000) := fun q hq => by have := hxl.1 q hq; omega
      have hnx : nx ≤ 120 := by have h1 := hxl.len_le v0; have h2 := hxi.len; omega
      have HXI := Lib.hid hxi
      have y1 : (0 : Int) ≤ (k : Int) := by omega
      have y2 : (k : Int) < (n : Int) := by omega
      clear hxi hxl
      go_wp2_with fail
      refine (sorted_ref _ _ _ x _ HXI.out HXB.out (by omega)).mono ?_
      rintro e w3 ⟨L3, n3, c3, rfl, hO3, hb3⟩
      have I3 := Lib.hid (hO3.ints (fun q hq => (by have := HXB.out q (sortF_mem.1 hq); unfold I64; omega)))
      have O3 := Lib.hid hO3
      have OW := Lib.hid (hO.out.keep hb3)
      have BL3 := Lib.hid (below_next hbl.out hb3)
      have hw3 := BL3.out.size
      clear hO3 hb3
      obtain ⟨vs, hv1, hv2⟩ := OW.out
      have HV1 := Lib.hid (hv1.keep (below_new w3 (.cells #[.slice L3 n3 c3] 25)))
      have HV2 := Lib.hid (hv2.keep (below_new w3 (.cells #[.slice L3 n3 c3] 25)))
      have hSS := sl_one w3 25 (.slice L3 n3 c3) rfl
      clear hv1 hv2
      go_wp2_with (first
        | (at_builtin
           refine wpList_append_sl _ rfl (.tmp 20) (.tmp 27) _ rfl w0.heap.size 25 i0 _ 24 Try.underlying22 hi0 hz0 hz1 hz2 rfl L k cl _ rfl HV1.out (some ⟨w3.heap.size, 0, none⟩) 1 1 _ rfl hSS (by simp [Value.oneCell']) (by simp only [maxLen]; omega) (by omega) (by simp; omega) ?_
           intro L1 cL1 w6 hL1 hg1 hat1
           have HP6 := Lib.hid (OwnP.push HV1.out HV2.out (Nat.zero_le _) row_ne (I3.out.keep (below_new _ _)) (Away.own (O3.out.keep (below_new _ _))) hL1 hg1)
           have HB6 := Lib.hid (below_grown (below_alloc BL3.out (.cells #[.slice L3 n3 c3] 25)) HV1.out (Nat.le_refl _) hg1)
           clear hL1 hg1 hat1))
      go_roundw
      case rel => exact ⟨k + 1, cL1, L1, by omega, rfl, by go_num, by rw [take_snoc_of hxk.out, List.map_append]; exact HP6, HB6⟩
      case measure => simp [intOf]; omega
    · obtain rfl : k = n := by omega
      have HO0 : Hid (OwnP 25 3 wr w0.heap.size 0 L k cl (xss.map sortF)) := by have := hO.out; rw [List.take_of_length_le (by rw [hlx.out]; omega)] at this; exact this
      have HLS : Hid (∀ x ∈ xss.map sortF, Lits vars x) := fun x hx => by obtain ⟨y, hy, rfl⟩ := List.mem_map.1 hx; exact (HX.out y hy).sortF
      obtain ⟨wb, hwb⟩ : ∃ wb : World, wb = wr := ⟨_, rfl⟩
      subst hwb
      have HBB := Lib.hid hbl.out
      clear hO hbl
      go_wp2_with fail
      clear cc lc
      go_loopw [5, 7] (fun s5 s7 wr => ∃ (i nl cl : Nat) (L : Option Addr) (l : List (List Int)), i ≤ m ∧ s5 = .slice L nl cl ∧ s7 = .int .i64 i ∧ nl ≤ 400 + i ∧ Hid (OwnP 25 3 wr w0.heap.size 0 L nl cl l) ∧ Hid (refF vars m l (rs.drop i) i = z) ∧ Hid (∀ x ∈ l, Lits vars x) ∧ Hid (Below w0.heap.size w0 wr)) (fun _ s _ => m - (intOf s).toNat)
      case atStart => exact ⟨0, k, cl, L, xss.map sortF, Nat.zero_le _, rfl, rfl, by omega, HO0, hz', HLS, HBB⟩
      case round =>
        clear HO0 HLS HBB hz'
        obtain ⟨i, nl, cl, L, l, hi, rfl, rfl, hnl, hO, hgo, hll, hbl⟩ := hrel
        obtain ⟨hlnl, hlc, hlc2⟩ := hO.out.len'
        have HLN := Lib.hid hlnl
        have hwr := hbl.out.size
        clear hlnl
        by_cases hlt2 : i < m
        · obtain ⟨b, off, kd, X, nx, cx, xs, X2, n2, c2, i3, i4, i5, X6, n6, c6, i7, i8, hBe, hb, s0, s1, -, -, -, -, -, -, -, hkd, hxs, hrk⟩ := (V.out.keep hbl.out).round hlt2
          subst hBe
          obtain ⟨hkk, hxl⟩ := HS.out (kd, xs) (List.mem_of_getElem? hrk.out)
          have HXL := Lib.hid hxl
          have HXS := Lib.hid hxs
          have HXB : Hid (∀ q ∈ xs, -1000000 ≤ q ∧ q ≤ 1000000) := fun q hq => by have := hxl.1 q hq; omega
          have hnx : nx ≤ 120 := by have h1 := hxl.len_le v0; have h2 := hxs.len; simp at h1; omega
          have y1 : (0 : Int) ≤ (i : Int) := by omega
          have y2 : (i : Int) < (m : Int) := by omega
          have hgo2 : Hid ((if kd = 1 then (if fallsF vars l xs then refF vars m (l ++ [sortF xs]) (rs.drop (i + 1)) (i + 1) else (i : Int)) else (if sortF xs ∈ l then refF vars m (l.erase (sortF xs)) (rs.drop (i + 1)) (i + 1) else (i : Int))) = z) := by have := hgo.out; rw [drop_cons_of hrk.out, refF] at this; exact this
          clear hgo hxs hxl
          go_wp2_with fail
          refine (sorted_ref _ _ _ xs _ HXS.out HXB.out (by omega)).mono ?_
          rintro e w3 ⟨S3, ns3, cs3, rfl, hO3, hb3⟩
          have I3 := Lib.hid (hO3.ints (fun q hq => (by have := HXB.out q (sortF_mem.1 hq); unfold I64; omega)))
          have OS3 := Lib.hid hO3
          have O3 := Lib.hid (hO.out.keep hb3)
          have X3 := Lib.hid (HXS.out.keep hb3)
          have BL3 := Lib.hid (below_next hbl.out hb3)
          have hw3 := BL3.out.size
          have t0 := keepBox hb3 s0
          have t1 := keepBox hb3 s1
          have lb3 := (cell_lt t0).1
          clear hO3 hb3 s0 s1 hb
          rcases hkk with rfl | rfl
          · obtain ⟨q, hfq⟩ : ∃ q, Hid (fallsF vars l xs = q) := ⟨_, rfl⟩
            have hgo3 : Hid ((if q then refF vars m (l ++ [sortF xs]) (rs.drop (i + 1)) (i + 1) else (i : Int)) = z) := by have := hgo2.out; rw [if_pos rfl, hfq.out] at this; exact this
            clear hgo2
            go_wp2_with fail
            refine (fallsR_any _ _ _ _ _ _ l xs vars _ O3.out.grid X3.out v0 (by omega) hll.out HXL.out q hfq).mono ?_
            rintro e w4 ⟨rfl, hb4⟩
            have O4 := Lib.hid (O3.out.keep hb4)
            have I4 := Lib.hid (I3.out.keep hb4)
            have OS4 := Lib.hid (OS3.out.keep hb4)
            have BL4 := Lib.hid (below_next BL3.out hb4)
            have hw4 := BL4.out.size
            clear hb4 t0 t1 lb3
            cases q
            · obtain rfl : (i : Int) = z := by have := hgo3.out; simpa using this
              go_wp2_with fail
              go_ret
              exact ⟨rfl, below_next HB.out BL4.out⟩
            · have hgo4 : Hid (refF vars m (l ++ [sortF xs]) (rs.drop (i + 1)) (i + 1) = z) := by have := hgo3.out; simpa [Hid] using this
              obtain ⟨vs, hv1, hv2⟩ := O4.out
              have HV1 := Lib.hid (hv1.keep (below_new w4 (.cells #[.slice S3 ns3 cs3] 25)))
              have HV2 := Lib.hid (hv2.keep (below_new w4 (.cells #[.slice S3 ns3 cs3] 25)))
              have hSS := sl_one w4 25 (.slice S3 ns3 cs3) rfl
              clear hv1 hv2
              go_wp2_with (first
                | (at_builtin
                   refine wpList_append_sl _ rfl (.tmp 56) (.tmp 58) _ rfl w0.heap.size 25 i0 _ 24 Try.underlying22 hi0 hz0 hz1 hz2 rfl L nl cl _ rfl HV1.out (some ⟨w4.heap.size, 0, none⟩) 1 1 _ rfl hSS (by simp [Value.oneCell']) (by simp only [maxLen]; omega) (by omega) (by simp; omega) ?_
                   intro L1 cL1 w6 hL1 hg1 hat1
                   have HP6 := Lib.hid (OwnP.push HV1.out HV2.out (Nat.zero_le _) row_ne (I4.out.keep (below_new _ _)) (Away.own (OS4.out.keep (below_new _ _))) hL1 hg1)
                   have HB6 := Lib.hid (below_grown (below_alloc BL4.out (.cells #[.slice S3 ns3 cs3] 25)) HV1.out (Nat.le_refl _) hg1)
                   clear hL1 hg1 hat1))
              go_roundw
              case rel => exact ⟨i + 1, nl + 1, cL1, L1, l ++ [sortF xs], by omega, rfl, by go_num, by omega, HP6, hgo4, snoc_lits hll.out HXL.out.sortF, HB6⟩
              case measure => simp [intOf]; omega
          · obtain ⟨l2, g2, hlf⟩ : ∃ l2 g2, Hid (leftF (sortF xs) l false [] = (l2, g2)) := ⟨_, _, rfl⟩
            have hgo3 : Hid ((if g2 then refF vars m l2 (rs.drop (i + 1)) (i + 1) else (i : Int)) = z) := by
              have h1 := hgo2.out
              have h2 := hlf.out
              rw [if_neg (by decide)] at h1
              rw [leftF_eq] at h2
              by_cases h3 : sortF xs ∈ l
              · rw [if_pos h3] at h1 h2
                obtain ⟨h4, h5⟩ := Prod.mk.inj h2
                rw [← h5, ← h4]
                simpa [Hid] using h1
              · rw [if_neg h3] at h1 h2
                obtain ⟨h4, h5⟩ := Prod.mk.inj h2
                rw [← h5]
                simpa [Hid] using h1
            have hl2 : Hid (∀ x ∈ l2, Lits vars x) := by
              have h2 := hlf.out
              rw [leftF_eq] at h2
              by_cases h3 : sortF xs ∈ l
              · rw [if_pos h3] at h2
                rw [← (Prod.mk.inj h2).1]
                exact fun x hx => hll.out x (List.mem_of_mem_erase (by simpa using hx))
              · rw [if_neg h3] at h2
                rw [← (Prod.mk.inj h2).1]
                exact fun x hx => hll.out x (by simpa using hx)
            obtain ⟨wc, hwc⟩ : ∃ wc : World, wc = w3 := ⟨_, rfl⟩
            subst hwc
            clear hgo2
            go_wp2_with fail
            go_loopw [9, 10, 11] (fun s9 s10 s11 wr => ∃ (j no co : Nat) (Lo : Option Addr) (o : List (List Int)) (gn : Bool), j ≤ nl ∧ no ≤ j ∧ s9 = .slice Lo no co ∧ s10 = .bool gn ∧ s11 = .int .i64 j ∧ Hid (OwnP 25 3 wr wc.heap.size 0 Lo no co o) ∧ Hid (leftF (sortF xs) (l.drop j) gn o = (l2, g2)) ∧ Hid (Below wc.heap.size wc wr)) (fun _ _ s _ => nl - (intOf s).toNat)
            case atStart => exact ⟨0, 0, 0, none, [], false, Nat.zero_le _, Nat.le_refl _, rfl, rfl, rfl, OwnP.nil _ _ _ _ _, hlf, Below.refl _ _⟩
            case round =>
              obtain ⟨j, no, co, Lo, o, gn, hj, hno, rfl, rfl, rfl, hOo, hgj, hbj⟩ := hrel
              have hwj := hbj.out.size
              by_cases hlj : j < nl
              · obtain ⟨gl, Y, ny, cy, y, hLe, hg1, hg2, hcy, _, hyi, _, hyk⟩ := (O3.out.keep hbj.out).round hlj
                subst hLe
                have hyl := hll.out y (List.mem_of_getElem? hyk.out)
                have HYI := Lib.hid hyi
                have u1 : (0 : Int) ≤ (j : Int) := by omega
                have u2 : (j : Int) < (nl : Int) := by omega
                obtain ⟨vo, hvo1, hvo2⟩ := hOo.out
                have hgj2 : Hid ((if !gn && sameB y (sortF xs) then leftF (sortF xs) (l.drop (j + 1)) true o else leftF (sortF xs) (l.drop (j + 1)) gn (o ++ [y])) = (l2, g2)) := by have := hgj.out; rw [drop_cons_of hyk.out, leftF] at this; exact this
                have AY : Hid (Away 3 wr 0 Y ny) := by
                  obtain ⟨gl', Y', ny', cy', y', hLe', _, _, hcy', _, _, ha, _⟩ := (O3.out.keep hbj.out).round hlj
                  cases hLe'
                  rw [hcy] at hcy'
                  cases hcy'
                  exact ha
                clear hyi hyl hgj
                cases gn
                · obtain ⟨r, hr⟩ : ∃ r, Hid (sameB y (sortF xs) = r) := ⟨_, rfl⟩
                  have hgj3 : Hid ((if r then leftF (sortF xs) (l.drop (j + 1)) true o else leftF (sortF xs) (l.drop (j + 1)) false (o ++ [y])) = (l2, g2)) := by have := hgj2.out; rw [hr.out] at this; simpa [Hid] using this
                  clear hgj2
                  go_wp2_with fail
                  refine ((same_any _ _ _ _ _ _ y (sortF xs) _ HYI.out (I3.out.keep hbj.out) r hr).mono (fun _ _ hh => hh.v)).mono ?_
                  rintro e w5 ⟨rfl, hb5⟩
                  have HVo1 := Lib.hid (hvo1.keep hb5)
                  have HVo2 := Lib.hid (hvo2.keep hb5)
                  have Oo5 := Lib.hid (hOo.out.keep hb5)
                  have BJ5 := Lib.hid (below_next hbj.out hb5)
                  have HY5 := Lib.hid (HYI.out.keep hb5)
                  have AY5 := Lib.hid (AY.out.keep hb5)
                  have hcy5 := keepBox hb5 hcy
                  have lg5 := (cell_lt hcy5).1
                  have hw5 := BJ5.out.size
                  clear hb5 hcy hg2 hvo1 hvo2
                  cases r
                  · have hgj4 : Hid (leftF (sortF xs) (l.drop (j + 1)) false (o ++ [y]) = (l2, g2)) := by have := hgj3.out; simpa [Hid] using this
                    have HV1 := Lib.hid (HVo1.out.keep (below_new w5 (.cells #[.slice Y ny cy] 25)))
                    have HV2 := Lib.hid (HVo2.out.keep (below_new w5 (.cells #[.slice Y ny cy] 25)))
                    have hSS := sl_one w5 25 (.slice Y ny cy) rfl
                    go_wp2_with (first
                      | (at_builtin
                         refine wpList_append_sl _ rfl (.tmp 76) (.tmp 81) _ rfl wc.heap.size 25 i0 _ 24 Try.underlying22 hi0 hz0 hz1 hz2 rfl Lo no co _ rfl HV1.out (some ⟨w5.heap.size, 0, none⟩) 1 1 _ rfl hSS (by simp [Value.oneCell']) (by simp only [maxLen]; omega) (by omega) (by simp; omega) ?_
                         intro L1 cL1 w6 hL1 hg1' hat1
                         have HP6 := Lib.hid (OwnP.push HV1.out HV2.out (Nat.zero_le _) row_ne (HY5.out.keep (below_new _ _)) (AY5.out.keep (below_new _ _)) hL1 hg1')
                         have HB6 := Lib.hid (below_grown (below_alloc BJ5.out (.cells #[.slice Y ny cy] 25)) HV1.out (Nat.le_refl _) hg1')
                         clear hL1 hg1' hat1))
                    go_roundw
                    case rel => exact ⟨j + 1, no + 1, cL1, L1, o ++ [y], false, by omega, by omega, rfl, rfl, by go_num, HP6, hgj4, HB6⟩
                    case measure => simp [intOf]; omega
                  · have hgj4 : Hid (leftF (sortF xs) (l.drop (j + 1)) true o = (l2, g2)) := by have := hgj3.out; simpa [Hid] using this
                    go_wp2_with fail
                    go_roundw
                    case rel => exact ⟨j + 1, no, co, Lo, o, true, by omega, by omega, rfl, rfl, by go_num, Oo5, hgj4, BJ5⟩
                    case measure => simp [intOf]; omega
                · have hgj4 : Hid (leftF (sortF xs) (l.drop (j + 1)) true (o ++ [y]) = (l2, g2)) := by have := hgj2.out; simpa [Hid] using this
                  obtain ⟨w5, hw5e⟩ : ∃ w5 : World, w5 = wr := ⟨_, rfl⟩
                  subst hw5e
                  have HVo1 := Lib.hid hvo1
                  have HVo2 := Lib.hid hvo2
                  have BJ5 := Lib.hid hbj.out
                  have HY5 := HYI
                  have AY5 := AY
                  have hw5 := BJ5.out.size
                  clear hgj2 hvo1 hvo2
                  have HV1 := Lib.hid (HVo1.out.keep (below_new w5 (.cells #[.slice Y ny cy] 25)))
                  have HV2 := Lib.hid (HVo2.out.keep (below_new w5 (.cells #[.slice Y ny cy] 25)))
                  have hSS := sl_one w5 25 (.slice Y ny cy) rfl
                  go_wp2_with (first
                    | (at_builtin
                       refine wpList_append_sl _ rfl (.tmp 76) (.tmp 81) _ rfl wc.heap.size 25 i0 _ 24 Try.underlying22 hi0 hz0 hz1 hz2 rfl Lo no co _ rfl HV1.out (some ⟨w5.heap.size, 0, none⟩) 1 1 _ rfl hSS (by simp [Value.oneCell']) (by simp only [maxLen]; omega) (by omega) (by simp; omega) ?_
                       intro L1 cL1 w6 hL1 hg1' hat1
                       have HP6 := Lib.hid (OwnP.push HV1.out HV2.out (Nat.zero_le _) row_ne (HY5.out.keep (below_new _ _)) (AY5.out.keep (below_new _ _)) hL1 hg1')
                       have HB6 := Lib.hid (below_grown (below_alloc BJ5.out (.cells #[.slice Y ny cy] 25)) HV1.out (Nat.le_refl _) hg1')
                       clear hL1 hg1' hat1))
                  go_roundw
                  case rel => exact ⟨j + 1, no + 1, cL1, L1, o ++ [y], true, by omega, by omega, rfl, rfl, by go_num, HP6, hgj4, HB6⟩
                  case measure => simp [intOf]; omega
              · obtain rfl : j = nl := by omega
                have hlo : Hid (leftF (sortF xs) [] gn o = (l2, g2)) := by have := hgj.out; rw [List.drop_of_length_le (by rw [HLN.out]; omega)] at this; exact this
                obtain ⟨rfl, rfl⟩ : o = l2 ∧ gn = g2 := by have := hlo.out; rw [leftF] at this; simpa using this
                have BW := Lib.hid (below_next BL3.out hbj.out)
                clear hlo hgj
                cases gn
                · obtain rfl : (i : Int) = z := by have := hgo3.out; simpa using this
                  go_wp2_with fail
                  go_ret
                  exact ⟨rfl, below_next HB.out BW.out⟩
                · have hgo4 : Hid (refF vars m o (rs.drop (i + 1)) (i + 1) = z) := by have := hgo3.out; simpa [Hid] using this
                  go_wp2_with fail
                  go_roundw
                  case rel => exact ⟨i + 1, no, co, Lo, o, by omega, rfl, by go_num, by omega, hOo.out.mono hw3 (Nat.le_refl _), hgo4, hl2, BW⟩
                  case measure => simp [intOf]; omega
        · obtain rfl : i = m := by omega
          have hgo2 : Hid ((if l.any (fun x => x.isEmpty) then (-1 : Int) else (i : Int)) = z) := by have := hgo.out; rw [List.drop_of_length_le (by rw [hlr.out]; omega), refF] at this; exact this
          obtain ⟨wc, hwc⟩ : ∃ wc : World, wc = wr := ⟨_, rfl⟩
          subst hwc
          have BW := Lib.hid (below_next HB.out hbl.out)
          clear hgo
          go_wp2_with fail
          go_loopw [12] (fun s wr => ∃ j : Nat, j ≤ nl ∧ s = .int .i64 j ∧ Hid ((if (l.drop j).any (fun x => x.isEmpty) then (-1 : Int) else (i : Int)) = z) ∧ Hid (wr = wc)) (fun s _ => nl - (intOf s).toNat)
          case atStart => exact ⟨0, Nat.zero_le _, rfl, hgo2, rfl⟩
          case round =>
            obtain ⟨j, hj, rfl, hgj, hwj⟩ := hrel
            rw [hwj.out]
            by_cases hlj : j < nl
            · obtain ⟨gl, Y, ny, cy, y, hLe, hg1, hg2, hcy, _, hyi, _, hyk⟩ := hO.out.round hlj
              subst hLe
              have hly := hyi.len
              have u1 : (0 : Int) ≤ (j : Int) := by omega
              have u2 : (j : Int) < (nl : Int) := by omega
              have hbdy := hyi.bd
              have HWJ := hwj
              by_cases hn0 : ny = 0
              · subst hn0
                obtain rfl : y = [] := List.eq_nil_of_length_eq_zero hly
                obtain rfl : -1 = z := by have := hgj.out; rw [drop_cons_of hyk.out] at this; simpa using this
                go_wp2_with fail
                go_ret
                exact ⟨rfl, BW.out⟩
              · have d1 : ((ny : Int) == 0) = false := by simp; omega
                have hye : y.isEmpty = false := by rw [Bool.eq_false_iff]; intro e; rw [List.isEmpty_iff_length_eq_zero] at e; omega
                have hgj2 : Hid ((if (l.drop (j + 1)).any (fun x => x.isEmpty) then (-1 : Int) else (i : Int)) = z) := by have := hgj.out; rw [drop_cons_of hyk.out, List.any_cons, hye, Bool.false_or] at this; exact this
                clear hgj hyi hly
                go_wp2_with fail
                go_roundw
                case rel => exact ⟨j + 1, by omega, by go_num, hgj2, by first | rfl | trivial⟩
                case measure => simp [intOf]; omega
            · obtain rfl : j = nl := by omega
              obtain rfl : (i : Int) = z := by have := hgj.out; rw [List.drop_of_length_le (by rw [HLN.out]; omega)] at this; simpa using this
              go_wp2_with fail
              go_ret
              exact ⟨rfl, BW.out⟩
end Go.Proofs.Ytabjbpkojbdgaaa
