/- Contract of the reference's Given. -/
import Derived.Test.YtehhhidjgngibaaGiven
namespace Go.Proofs.Ytehhhidjgngibaa
open Go.RowKit

/-- The state of the reference's loop: the boxes of c, the result and out; the rows so far. -/
structure RefSt (w wr : World) (A : Option Addr) (n c : Nat) (vars : Int) (Bs : Nat) (O : Option Addr) (k cO : Nat) (done : List (List Int)) : Prop where
  bl : Below w.heap.size w wr
  cb : Blk wr w.heap.size 41 #[.int .i64 vars, .slice A n c]
  rb : Blk wr (w.heap.size + 1) 41 #[.int .i64 0, .slice none 0 0]
  ob : Blk wr (w.heap.size + 1 + 1) 41 #[.int .i64 vars, .slice O k cO]
  rows : OwnG 22 3 wr Bs w.heap.size O k cO done
theorem RefSt.keep {w wr w' : World} {A : Option Addr} {n c : Nat} {vars : Int} {Bs : Nat} {O : Option Addr} {k cO : Nat} {done : List (List Int)} (h : RefSt w wr A n c vars Bs O k cO done) (hb : Below wr.heap.size wr w') : RefSt w w' A n c vars Bs O k cO done :=
  ⟨below_next h.bl hb, h.cb.keep hb, h.rb.keep hb, h.ob.keep hb, h.rows.keep hb⟩
theorem RefSt.push {w wr w2 : World} {A : Option Addr} {n c : Nat} {vars : Int} {Bs : Nat} {O : Option Addr} {k cO : Nat} {done : List (List Int)} (h : RefSt w wr A n c vars Bs O k cO done) (hBs : w.heap.size + 1 + 1 < Bs)
    {vs : List Value} (h1 : Own 22 wr Bs O k cO vs) (h2 : RowsIn 3 wr w.heap.size vs done) {A' A2 : Option Addr} {n' c' c2 : Nat} {xs : List Int} (hi : Ints wr A' n' c' xs) (ha : Apart 3 wr w.heap.size A')
    (ho : Own 22 w2 Bs A2 (k + 1) c2 (vs ++ [Value.slice A' n' c'])) (hg : wr.grownBy w2 (blockOf O)) :
    RefSt w (w2.setCell ⟨w.heap.size + 1 + 1, 1, none⟩ (.slice A2 (k + 1) c2)) A n c vars Bs A2 (k + 1) c2 (done ++ [xs]) := by
  have hob := h.ob.grownO h1 hg hBs
  have hro := OwnG.push h1 h2 (by omega) (by decide) hi ha ho hg
  have hgs := grown_setCell w2 ⟨w.heap.size + 1 + 1, 1, none⟩ (.slice A2 (k + 1) c2)
  refine ⟨?_, ?_, ?_, ?_, ?_⟩
  · exact (below_grown h.bl h1 (by omega) hg).setCell (p := ⟨w.heap.size + 1 + 1, 1, none⟩) (show w.heap.size ≤ w.heap.size + 1 + 1 by omega) _
  · exact (h.cb.grownO h1 hg (by omega)).far (p := ⟨w.heap.size + 1 + 1, 1, none⟩) (show w.heap.size ≠ w.heap.size + 1 + 1 by omega) _
  · exact (h.rb.grownO h1 hg (by omega)).far (p := ⟨w.heap.size + 1 + 1, 1, none⟩) (show w.heap.size + 1 ≠ w.heap.size + 1 + 1 by omega) _
  · have := hob.set_ 1 (.slice A2 (k + 1) c2)
    simpa using this
  · exact hro.kept hgs (show w.heap.size ≤ w.heap.size + 1 + 1 by omega) (Typed.of_blk hob) (by decide) (by decide)

set_option maxHeartbeats 2000000 in
set_option maxRecDepth 100000 in
theorem given_ref (A B : Option Addr) (n c m d : Nat) (xss : List (List Int)) (l : List Int) (vars : Int) (w : World) (h : Grid w A n c xss) (h' : Ints w B m d l) (hn400 : n ≤ 400) (hrows : ∀ xs ∈ xss, xs.length ≤ 24 ∧ Lits 120 xs) :
    Calls Try.prog 37 #[.agg #[.int .i64 vars, .slice A n c], .slice B m d] w (RetCnf vars (givenF l xss) w) := by
  have hbd := h.bd
  have hlen := Lib.hid h.len
  have HROWS := Lib.hid hrows
  clear hrows
  obtain ⟨i0, hi0, hz0, hz1, hz2⟩ := info_parts int_info
  obtain ⟨j0, hj0, hy0, hy1, hy2⟩ := info_parts row_info
  have HST : Hid (RefSt w (((w.alloc (.cells #[.int .i64 vars, .slice A n c] 41)).alloc (.cells #[.int .i64 0, .slice none 0 0] 41)).alloc (.cells #[.int .i64 vars, .slice none 0 0] 41)) A n c vars (w.heap.size + 3) none 0 0 []) := by
    refine ⟨below_alloc (below_alloc (below_new _ _) _) _, ((Blk.new w _ _).alloc _).alloc _, ?_, ?_, OwnG.nil _ _ _ _ _⟩
    · have := (Blk.new (w.alloc (.cells #[.int .i64 vars, .slice A n c] 41)) 41 #[.int .i64 0, .slice none 0 0]).alloc (.cells #[.int .i64 vars, .slice none 0 0] 41)
      simpa using this
    · have := Blk.new ((w.alloc (.cells #[.int .i64 vars, .slice A n c] 41)).alloc (.cells #[.int .i64 0, .slice none 0 0] 41)) 41 #[.int .i64 vars, .slice none 0 0]
      simpa using this
  go_enter Try.func37, Try.ntmps37
  go_wp2_with fail
  go_loopw [6] (fun i wr => ∃ (j k cO : Nat) (O : Option Addr) (done : List (List Int)), j ≤ n ∧ k ≤ j ∧ i = .int .i64 j ∧ Hid (RefSt w wr A n c vars (w.heap.size + 3) O k cO done) ∧ Hid (done ++ givenF l (xss.drop j) = givenF l xss)) (fun i _ => n - (intOf i).toNat)
  case atStart => exact ⟨0, 0, 0, none, [], Nat.zero_le _, Nat.le_refl _, rfl, HST, rfl⟩
  case round =>
    obtain ⟨j, k, cO, O, done, hj, hkj, rfl, hst, hdone⟩ := hrel
    clear HST
    obtain ⟨wo, hwo⟩ : ∃ wo : World, wo = wr := ⟨_, rfl⟩
    subst hwo
    have hx := h.keep hst.out.bl
    have hx' := h'.keep hst.out.bl
    have c0 := hst.out.cb.cell 0
    have c1 := hst.out.cb.cell 1
    simp at c0 c1
    by_cases hlt : j < n
    · obtain ⟨b, off, A', n', c', xs, rfl, hb, hcell, hi, hy⟩ := hx.round hlt
      have hxs := HROWS.out xs (List.mem_of_getElem? hy.out)
      have hli := Lib.hid hi.len
      have hn24 : n' ≤ 24 := by have := hxs.1; rw [hli.out] at this; exact this
      have HLI : Hid (Lits 120 xs) := hxs.2
      have hbd' := hi.bd
      obtain ⟨q, hq⟩ : ∃ q, Hid (xs.any (fun y => hasB l y) = q) := ⟨_, rfl⟩
      have hdone2 : Hid (done ++ (if q then givenF l (xss.drop (j + 1)) else leftF l xs :: givenF l (xss.drop (j + 1))) = givenF l xss) := by
        have := hdone.out
        rw [drop_cons_of hy.out, givenF, hq.out] at this
        exact this
      have zj1 : (j : Int) < (n : Int) := by omega
      have zj2 : (0 : Int) ≤ (j : Int) := by omega
      clear hdone hxs
      go_wp2_with fail
      go_loopw [7, 8, 9] (fun hs lf i wr2 => ∃ (p nl cl : Nat) (s : Bool) (Lf : Option Addr) (ys : List Int), p ≤ n' ∧ nl ≤ p ∧ hs = .bool s ∧ lf = .slice Lf nl cl ∧ i = .int .i64 p ∧ Hid (Own 3 wr2 wo.heap.size Lf nl cl (ys.map (Value.int .i64))) ∧ Hid (∀ y ∈ ys, I64 y) ∧ Hid (Below wo.heap.size wo wr2) ∧ Hid (ys ++ leftF l (xs.drop p) = leftF l xs) ∧ Hid ((s || (xs.drop p).any (fun y => hasB l y)) = q)) (fun _ _ i _ => n' - (intOf i).toNat)
      case atStart => exact ⟨0, 0, 0, false, none, [], Nat.zero_le _, Nat.le_refl _, rfl, rfl, rfl, Own.nil _ _ _, by simp [Hid], Below.refl _ _, rfl, by have := hq.out; simpa [Hid] using this⟩
      case round =>
        obtain ⟨p, nl, cl, s, Lf, ys, hp, hnl, rfl, rfl, rfl, hown, hys, hbw, hleft, hsq⟩ := hrel
        have hi3 := hi.keep hbw.out
        have hx3' := hx'.keep hbw.out
        have hst3 := Lib.hid (hst.out.keep hbw.out)
        have d0 := keepBox hbw.out c0
        have d1 := keepBox hbw.out c1
        have hcell2 := keepBox hbw.out hcell
        by_cases hlp : p < n'
        · obtain ⟨b3, off3, y, rfl, hb3, hcell3, y1, y2, hyp⟩ := hi3.round hlp
          have hyl := HLI.out.1 y (List.mem_of_getElem? hyp.out)
          obtain ⟨t, ht⟩ : ∃ t, Hid (hasB l (-y) = t) := ⟨_, rfl⟩
          obtain ⟨r, hr⟩ : ∃ r, Hid (hasB l y = r) := ⟨_, rfl⟩
          have hleft2 : Hid ((ys ++ if t then leftF l (xs.drop (p + 1)) else y :: leftF l (xs.drop (p + 1))) = leftF l xs) := by
            have := hleft.out
            rw [drop_cons_of hyp.out, leftF, List.filter_cons, ht.out] at this
            cases t <;> exact this
          have hsq2 : Hid (((s || r) || (xs.drop (p + 1)).any (fun y => hasB l y)) = q) := by
            have := hsq.out
            rw [drop_cons_of hyp.out, List.any_cons, hr.out, ← Bool.or_assoc] at this
            exact this
          have zp1 : (p : Int) < (n' : Int) := by omega
          have zp2 : (0 : Int) ≤ (p : Int) := by omega
          clear hleft hsq
          -- the world ahead of the second test: 'wr' after at most some draws
          cases s
          · go_wp2_with fail
            refine (has_any _ _ _ _ _ _ hx3' _ hr).mono ?_
            rintro e w4 ⟨rfl, m4, rfl⟩
            go_wp2_with fail
            refine (has_any _ _ _ _ _ _ (hx3'.drewN _) _ ht).mono ?_
            rintro e w5 ⟨rfl, m5, rfl⟩
            rw [World.drewN_drewN]
            generalize m4 + m5 = mm
            cases t
            · have hS := ints_made (wr.drewN mm) 3 [y] rfl (by simp [I64]; omega) (by simp [maxLen])
              have hownD := hown.out.keep (below_drewN wr mm)
              go_wp2_with (first
                | (at_builtin
                   refine wpList_append_sl _ rfl (.tmp 50) (.tmp 52) _ rfl wo.heap.size 3 i0 _ 8 Try.underlying22 hi0 hz0 hz1 hz2 rfl Lf nl cl _ rfl (hownD.keep (below_new _ _)) (some ⟨wr.heap.size, 0, none⟩) 1 1 _ rfl hS.sl (ints_one _) (by simp only [maxLen]; omega) (by omega) (by have := hbw.out.size; simp; omega) ?_
                   intro L1 cL1 w6 hL1 hg1 hat1
                   have HL1 := Lib.hid hL1
                   have HB5 := Lib.hid (below_grown (below_alloc (below_next hbw.out (below_drewN wr mm)) (.cells #[.int .i64 y] 3)) (hownD.keep (below_new (wr.drewN mm) (.cells #[.int .i64 y] 3))) (Nat.le_refl _) hg1)
                   clear hL1 hg1 hat1))
              go_roundw
              case rel =>
                refine ⟨p + 1, nl + 1, cL1, r, L1, ys ++ [y], by omega, by omega, by simp, rfl, by go_num, ?_, ?_, HB5, ?_, by have := hsq2.out; simpa [Hid] using this⟩
                · have := HL1.out
                  rw [List.map_append]
                  exact this
                · intro z hz
                  rcases List.mem_append.1 hz with hz | hz
                  · exact hys.out z hz
                  · simp at hz; subst hz; exact ⟨y1, y2⟩
                · have := hleft2.out
                  show _ = _
                  rw [List.append_assoc]
                  exact this
              case measure => simp [intOf]; omega
            · go_wp2_with fail
              go_roundw
              case rel => exact ⟨p + 1, nl, cl, r, Lf, ys, by omega, by omega, by simp, rfl, by go_num, hown.out.keep (below_drewN wr mm), hys, below_next hbw.out (below_drewN wr mm), by have := hleft2.out; exact this, by have := hsq2.out; simpa [Hid] using this⟩
              case measure => simp [intOf]; omega
          · go_wp2_with fail
            refine (has_any _ _ _ _ _ _ hx3' _ ht).mono ?_
            rintro e w5 ⟨rfl, mm, rfl⟩
            cases t
            · have hS := ints_made (wr.drewN mm) 3 [y] rfl (by simp [I64]; omega) (by simp [maxLen])
              have hownD := hown.out.keep (below_drewN wr mm)
              go_wp2_with (first
                | (at_builtin
                   refine wpList_append_sl _ rfl (.tmp 50) (.tmp 52) _ rfl wo.heap.size 3 i0 _ 8 Try.underlying22 hi0 hz0 hz1 hz2 rfl Lf nl cl _ rfl (hownD.keep (below_new _ _)) (some ⟨wr.heap.size, 0, none⟩) 1 1 _ rfl hS.sl (ints_one _) (by simp only [maxLen]; omega) (by omega) (by have := hbw.out.size; simp; omega) ?_
                   intro L1 cL1 w6 hL1 hg1 hat1
                   have HL1 := Lib.hid hL1
                   have HB5 := Lib.hid (below_grown (below_alloc (below_next hbw.out (below_drewN wr mm)) (.cells #[.int .i64 y] 3)) (hownD.keep (below_new (wr.drewN mm) (.cells #[.int .i64 y] 3))) (Nat.le_refl _) hg1)
                   clear hL1 hg1 hat1))
              go_roundw
              case rel =>
                refine ⟨p + 1, nl + 1, cL1, true, L1, ys ++ [y], by omega, by omega, rfl, rfl, by go_num, ?_, ?_, HB5, ?_, by have := hsq2.out; simpa [Hid] using this⟩
                · have := HL1.out
                  rw [List.map_append]
                  exact this
                · intro z hz
                  rcases List.mem_append.1 hz with hz | hz
                  · exact hys.out z hz
                  · simp at hz; subst hz; exact ⟨y1, y2⟩
                · have := hleft2.out
                  show _ = _
                  rw [List.append_assoc]
                  exact this
              case measure => simp [intOf]; omega
            · go_wp2_with fail
              go_roundw
              case rel => exact ⟨p + 1, nl, cl, true, Lf, ys, by omega, by omega, rfl, rfl, by go_num, hown.out.keep (below_drewN wr mm), hys, below_next hbw.out (below_drewN wr mm), by have := hleft2.out; exact this, by have := hsq2.out; simpa [Hid] using this⟩
              case measure => simp [intOf]; omega
        · have hres : Hid (ys = leftF l xs) := by
            have := hleft.out
            rw [List.drop_of_length_le (by rw [hli.out]; omega)] at this
            simpa [leftF, Hid] using this
          obtain rfl : s = q := by
            have := hsq.out
            rw [List.drop_of_length_le (by rw [hli.out]; omega)] at this
            simpa using this
          clear hleft hsq
          cases s
          · have hleftI : Ints wr Lf nl cl ys := hown.out.ints hys.out
            obtain ⟨vs, hO, hR⟩ := hst3.out.rows
            have HO := Lib.hid hO
            have HR := Lib.hid hR
            have o0 := hst3.out.ob.cell 0
            have o1 := hst3.out.ob.cell 1
            simp at o0 o1
            have lgo : w.heap.size + 1 + 1 < wr.heap.size := hst3.out.ob.lt
            clear hO hR hi3 hx3'
            go_wp2_with (first
              | (at_builtin
                 refine wpList_append_sl _ rfl (.tmp 57) (.tmp 59) _ rfl (w.heap.size + 3) 22 j0 _ 24 Try.underlying39 hj0 hy0 hy1 hy2 rfl O k cO _ rfl (HO.out.keep (below_new _ _)) (some ⟨wr.heap.size, 0, none⟩) 1 1 _ rfl (sl_one wr 22 (.slice Lf nl cl) rfl) (by simp [Value.oneCell']) (by simp only [maxLen]; omega) (by omega) (by simp; omega) ?_
                 intro O2 cO2 w6 hO2 hg6 hat6
                 have stB := hst3.out.keep (below_new wr (.cells #[.slice Lf nl cl] 22))
                 have oB := HO.out.keep (below_new wr (.cells #[.slice Lf nl cl] 22))
                 have st6 := Lib.hid (stB.push (by omega) oB (HR.out.keep (below_new wr (.cells #[.slice Lf nl cl] 22))) (hleftI.keep (below_new wr (.cells #[.slice Lf nl cl] 22))) (Apart.of_own (hown.out.keep (below_new wr (.cells #[.slice Lf nl cl] 22)))) hO2 hg6)
                 have ob6 := stB.ob.grownO oB hg6 (by omega)
                 have s1 := ob6.cell 1
                 have sf1 := ob6.frozen 1
                 simp at s1
                 clear hO2 hg6 hat6 stB oB ob6))
            go_roundw
            case rel =>
              refine ⟨j + 1, k + 1, cO2, O2, done ++ [ys], by omega, by omega, by go_num, st6, ?_⟩
              have := hdone2.out
              show _ = _
              rw [List.append_assoc, hres.out]
              exact this
            case measure => simp [intOf]; omega
          · go_wp2_with fail
            go_roundw
            case rel => exact ⟨j + 1, k, cO, O, done, by omega, by omega, by go_num, hst3, hdone2.out⟩
            case measure => simp [intOf]; omega
    · have hres : Hid (done = givenF l xss) := by
        have := hdone.out
        rw [List.drop_of_length_le (by rw [hlen.out]; omega)] at this
        simpa [givenF, Hid] using this
      have o0 := hst.out.ob.cell 0
      have o1 := hst.out.ob.cell 1
      have r0 := hst.out.rb.cell 0
      have r1 := hst.out.rb.cell 1
      have rf0 := hst.out.rb.frozen 0
      have rf1 := hst.out.rb.frozen 1
      simp at o0 o1 r0 r1
      have HB := Lib.hid hst.out.bl
      have hrb := (hst.out.rb.set_ 0 (.int .i64 vars)).set_ 1 (.slice O k cO)
      have hro := (hst.out.rows.kept (grown_setCell wo ⟨w.heap.size + 1, 0, none⟩ (.int .i64 vars)) (show w.heap.size ≤ w.heap.size + 1 by omega) (Typed.of_blk hst.out.rb) (by decide) (by decide)).kept
        (grown_setCell _ ⟨w.heap.size + 1, 1, none⟩ (.slice O k cO)) (show w.heap.size ≤ w.heap.size + 1 by omega) (Typed.of_blk (hst.out.rb.set_ 0 (.int .i64 vars))) (by decide) (by decide)
      have u0 := hrb.cell 0
      have u1 := hrb.cell 1
      simp at u0 u1
      have U0 := Lib.hid u0
      have U1 := Lib.hid u1
      have HRO := Lib.hid hro.grid
      clear hrb hro u0 u1 hx hx'
      go_wp2_with fail
      exact bodyPost_ret (v := .agg #[.int .i64 vars, .slice O k cO]) (by simp [results, Try.results37, go_sem, U0.out, U1.out]) rfl
        ⟨O, k, cO, rfl, by rw [← hres.out]; exact HRO.out, below_put2 HB.out (g := w.heap.size + 1) (by omega) _ _⟩
end Go.Proofs.Ytehhhidjgngibaa
