/- Contract of cnf.Given. -/
import Derived.Test.YtghebbkpdldjfaaBoth
import Derived.Test.YtghebbkpdldjfaaGrid
namespace Go.Proofs.Ytghebbkpdldjfaa
open Go.RowKit

def leftF (l xs : List Int) : List Int := xs.filter (fun y => !hasB l (-y))
def givenF (l : List Int) : List (List Int) → List (List Int)
  | [] => []
  | x :: t => if x.any (fun y => hasB l y) then givenF l t else leftF l x :: givenF l t

theorem row_info : (Try.prog.info? 25).map (fun i => (i.zero, i.size, i.bytes)) = some (some (.slice none 0 0), 1, 24) := by kernel_rfl

theorem given_lit (x : Int) (b : Nat) (W : World) (A : Option Addr) (n c : Nat) (l : List Int) (hc : W.cell? ⟨b, 0, none⟩ = some (.slice A n c)) (h : Ints W A n c l) :
    Calls Try.prog 34 #[.int .i64 x, .pointer (some ⟨b, 0, none⟩)] W (RetQ (.bool (hasB l x)) W) := by
  obtain ⟨r, hr⟩ : ∃ r, Hid (hasB l x = r) := ⟨_, rfl⟩
  rw [hr.out]
  go_enter Try.func34, Try.ntmps34
  go_wp2_with fail
  refine (contains_ints _ _ _ _ _ _ h _ hr).mono ?_
  rintro e w1 ⟨rfl, m, rfl⟩
  go_wp2_with fail
  go_ret
  exact RetQ.of _ rfl
theorem enters_given : Enters Try.prog 34 := enters_of Try.func34 (by kernel_rfl) rfl

/-- The state of Given's loop: the boxes of c, l, the two results and out; the rows so far. -/
structure GivSt (w wr : World) (A B : Option Addr) (n c m d : Nat) (vars : Int) (go Bs : Nat) (O : Option Addr) (k cO : Nat) (done : List (List Int)) : Prop where
  bl : Below w.heap.size w wr
  cb : Blk wr w.heap.size 24 #[.int .i64 vars, .slice A n c]
  lb : Blk wr (w.heap.size + 1) 25 #[.slice B m d]
  rb : Blk wr (w.heap.size + 1 + 1) 24 #[.int .i64 0, .slice none 0 0]
  fb : Blk wr (w.heap.size + 1 + 1 + 1) 28 #[.int .i64 0, .int .i64 0]
  ob : Blk wr go 24 #[.int .i64 vars, .slice O k cO]
  rows : OwnG 25 3 wr Bs w.heap.size O k cO done
theorem GivSt.keep {w wr w' : World} {A B : Option Addr} {n c m d : Nat} {vars : Int} {go Bs : Nat} {O : Option Addr} {k cO : Nat} {done : List (List Int)} (h : GivSt w wr A B n c m d vars go Bs O k cO done) (hb : Below wr.heap.size wr w') : GivSt w w' A B n c m d vars go Bs O k cO done :=
  ⟨below_next h.bl hb, h.cb.keep hb, h.lb.keep hb, h.rb.keep hb, h.fb.keep hb, h.ob.keep hb, h.rows.keep hb⟩
/-- A row is pushed onto out.Clauses, and stored. -/
theorem GivSt.push {w wr w2 : World} {A B : Option Addr} {n c m d : Nat} {vars : Int} {go Bs : Nat} {O : Option Addr} {k cO : Nat} {done : List (List Int)} (h : GivSt w wr A B n c m d vars go Bs O k cO done) (hgo : w.heap.size + 4 ≤ go) (hBs : go < Bs)
    {vs : List Value} (h1 : Own 25 wr Bs O k cO vs) (h2 : RowsIn 3 wr w.heap.size vs done) {A' A2 : Option Addr} {n' c' c2 : Nat} {xs : List Int} (hi : Ints wr A' n' c' xs) (ha : Apart 3 wr w.heap.size A')
    (ho : Own 25 w2 Bs A2 (k + 1) c2 (vs ++ [Value.slice A' n' c'])) (hg : wr.grownBy w2 (blockOf O)) :
    GivSt w (w2.setCell ⟨go, 1, none⟩ (.slice A2 (k + 1) c2)) A B n c m d vars go Bs A2 (k + 1) c2 (done ++ [xs]) := by
  have hob := h.ob.grownO h1 hg hBs
  have hro := OwnG.push h1 h2 (by omega) (by decide) hi ha ho hg
  have hgs := grown_setCell w2 ⟨go, 1, none⟩ (.slice A2 (k + 1) c2)
  refine ⟨?_, ?_, ?_, ?_, ?_, ?_, ?_⟩
  · exact (below_grown h.bl h1 (by omega) hg).setCell (p := ⟨go, 1, none⟩) (show w.heap.size ≤ go by omega) _
  · exact (h.cb.grownO h1 hg (by omega)).far (p := ⟨go, 1, none⟩) (show w.heap.size ≠ go by omega) _
  · exact (h.lb.grownO h1 hg (by omega)).far (p := ⟨go, 1, none⟩) (show w.heap.size + 1 ≠ go by omega) _
  · exact (h.rb.grownO h1 hg (by omega)).far (p := ⟨go, 1, none⟩) (show w.heap.size + 1 + 1 ≠ go by omega) _
  · exact (h.fb.grownO h1 hg (by omega)).far (p := ⟨go, 1, none⟩) (show w.heap.size + 1 + 1 + 1 ≠ go by omega) _
  · have := hob.set_ 1 (.slice A2 (k + 1) c2)
    simpa using this
  · exact hro.kept hgs (show w.heap.size ≤ go by omega) (Typed.of_blk hob) (by decide) (by decide)

/-- A formula and no fault; what lay in the world lies unturned. -/
def RetCnfF (vars : Int) (xss : List (List Int)) (w : World) (e : Ending) (w' : World) : Prop :=
  ∃ A n c, e = .returned (.tuple #[.agg #[.int .i64 vars, .slice A n c], .agg #[.int .i64 0, .int .i64 0]]) ∧ Grid w' A n c xss ∧ Below w.heap.size w w'

set_option maxHeartbeats 2000000 in
set_option maxRecDepth 100000 in
theorem given_own (A B : Option Addr) (n c m d : Nat) (xss : List (List Int)) (l : List Int) (vars : Int) (w : World) (h : Grid w A n c xss) (hv : I64 vars) (h' : Ints w B m d l) (hr : Hid (besideR vars xss l = (0, 0))) :
    Calls Try.prog 12 #[.agg #[.int .i64 vars, .slice A n c], .slice B m d] w (RetCnfF vars (givenF l xss) w) := by
  have hbd := h.bd
  have hlen := Lib.hid h.len
  obtain ⟨_, hc0, _⟩ := besideR_ok (vars := vars) (xss := xss) (l := l) (by rw [hr.out])
  obtain ⟨_, v0, v1, hn400, hrows⟩ := checkC_ok hc0
  have HROWS := Lib.hid hrows
  rw [hlen.out] at hn400
  clear hrows hc0
  obtain ⟨i0, hi0, hz0, hz1, hz2⟩ := info_parts int_info
  obtain ⟨j0, hj0, hy0, hy1, hy2⟩ := info_parts row_info
  obtain ⟨W0, hW0⟩ : ∃ W0, W0 = (((w.alloc (.cells #[.int .i64 vars, .slice A n c] 24)).alloc (.cells #[.slice B m d] 25)).alloc (.cells #[.int .i64 0, .slice none 0 0] 24)).alloc (.cells #[.int .i64 0, .int .i64 0] 28) := ⟨_, rfl⟩
  have bW0 : Hid (Below w.heap.size w W0) := by rw [hW0]; exact below_alloc (below_alloc (below_alloc (below_new _ _) _) _) _
  have k1 : Hid (Blk W0 w.heap.size 24 #[.int .i64 vars, .slice A n c]) := by rw [hW0]; exact (((Blk.new w _ _).alloc _).alloc _).alloc _
  have k2 : Hid (Blk W0 (w.heap.size + 1) 25 #[.slice B m d]) := by
    rw [hW0]
    have := ((Blk.new (w.alloc (.cells #[.int .i64 vars, .slice A n c] 24)) 25 #[.slice B m d]).alloc (.cells #[.int .i64 0, .slice none 0 0] 24)).alloc (.cells #[.int .i64 0, .int .i64 0] 28)
    simpa [Hid] using this
  have k3 : Hid (Blk W0 (w.heap.size + 1 + 1) 24 #[.int .i64 0, .slice none 0 0]) := by
    rw [hW0]
    have := (Blk.new ((w.alloc (.cells #[.int .i64 vars, .slice A n c] 24)).alloc (.cells #[.slice B m d] 25)) 24 #[.int .i64 0, .slice none 0 0]).alloc (.cells #[.int .i64 0, .int .i64 0] 28)
    simpa [Hid] using this
  have k4 : Hid (Blk W0 (w.heap.size + 1 + 1 + 1) 28 #[.int .i64 0, .int .i64 0]) := by
    rw [hW0]
    have := Blk.new (((w.alloc (.cells #[.int .i64 vars, .slice A n c] 24)).alloc (.cells #[.slice B m d] 25)).alloc (.cells #[.int .i64 0, .slice none 0 0] 24)) 28 #[.int .i64 0, .int .i64 0]
    simpa [Hid] using this
  have hsz : W0.heap.size = w.heap.size + 4 := by rw [hW0]; simp
  have HSZ := Lib.hid hsz
  have HW0 := Lib.hid hW0
  clear hW0 hsz
  go_enter Try.func12, Try.ntmps12
  go_wp2_with fail
  rw [← HW0.out]
  refine (both_any _ _ _ _ _ _ _ _ _ _ (h.keep bW0.out) hv (h'.keep bW0.out) _ _ hr).mono ?_
  rintro e w1 ⟨rfl, hb1⟩
  have hW1 : Hid (w.heap.size + 4 ≤ w1.heap.size) := by have := hb1.size; rw [HSZ.out] at this; exact this
  have hl1 := hW1.out
  have q1 := (k1.out.keep hb1)
  have c0 := q1.cell 0
  have c1 := q1.cell 1
  simp at c0 c1
  have HST : Hid (GivSt w ((w1.alloc (.cells #[.int .i64 0, .int .i64 0] 28)).alloc (.cells #[.int .i64 vars, .slice none 0 0] 24)) A B n c m d vars (w1.heap.size + 1) (w1.heap.size + 2) none 0 0 []) := by
    have hb2 := below_alloc (below_alloc hb1 (.cells #[.int .i64 0, .int .i64 0] 28)) (.cells #[.int .i64 vars, .slice none 0 0] 24)
    refine ⟨below_next bW0.out hb2, k1.out.keep hb2, k2.out.keep hb2, k3.out.keep hb2, k4.out.keep hb2, ?_, OwnG.nil _ _ _ _ _⟩
    have := Blk.new (w1.alloc (.cells #[.int .i64 0, .int .i64 0] 28)) 24 #[.int .i64 vars, .slice none 0 0]
    simpa using this
  have z0 : w.heap.size < w1.heap.size := by omega
  clear q1 hb1
  go_wp2_with fail
  go_loopw [27] (fun i wr => ∃ (j k cO : Nat) (O : Option Addr) (done : List (List Int)), j ≤ n ∧ k ≤ j ∧ i = .int .i64 j ∧ Hid (GivSt w wr A B n c m d vars (w1.heap.size + 1) (w1.heap.size + 2) O k cO done) ∧ Hid (done ++ givenF l (xss.drop j) = givenF l xss)) (fun i _ => n - (intOf i).toNat)
  case atStart => exact ⟨0, 0, 0, none, [], Nat.zero_le _, Nat.le_refl _, rfl, HST, rfl⟩
  case round =>
    obtain ⟨j, k, cO, O, done, hj, hkj, rfl, hst, hdone⟩ := hrel
    clear HST c0 c1
    have hx := h.keep hst.out.bl
    have hx' := h'.keep hst.out.bl
    by_cases hlt : j < n
    · obtain ⟨b, off, A', n', c', xs, rfl, hb, hcell, hi, hy⟩ := hx.round hlt
      have hxs := HROWS.out xs (List.mem_of_getElem? hy.out)
      have hli := Lib.hid hi.len
      have hn24 : n' ≤ 24 := by have := hxs.1; rw [hli.out] at this; exact this
      have HLI : Hid (Lits vars xs) := hxs.2
      have hbd' := hi.bd
      have lc := hst.out.lb.cell 0
      simp at lc
      have HP : Hid (Pred 34 #[.pointer (some ⟨w.heap.size + 1, 0, none⟩)] xs (fun y => hasB l y) wr) := by
        intro W x hW _
        exact (given_lit x (w.heap.size + 1) W B m d l (keepBox hW lc) (hx'.keep hW)).mono fun _ _ hh => hh.v
      obtain ⟨q, hq⟩ : ∃ q, Hid (xs.any (fun y => hasB l y) = q) := ⟨_, rfl⟩
      have hdone2 : Hid (done ++ (if q then givenF l (xss.drop (j + 1)) else leftF l xs :: givenF l (xss.drop (j + 1))) = givenF l xss) := by
        have := hdone.out
        rw [drop_cons_of hy.out, givenF, hq.out] at this
        exact this
      clear hdone hxs
      go_wp2_with fail
      refine (containsFunc_ints _ _ _ _ _ hi _ _ enters_given _ HP.out q hq).mono ?_
      rintro e w2 ⟨rfl, hb2⟩
      have hst2 := Lib.hid (hst.out.keep hb2)
      have hi2 := hi.keep hb2
      have hx2' := hx'.keep hb2
      have lc2 := keepBox hb2 lc
      have l12 := hb2.size
      clear hb2 HP hst hi lc hx hx' hq hcell
      cases q
      · go_wp2_with fail
        go_loopw [10, 37] (fun lf i wr => ∃ (p nl cl : Nat) (Lf : Option Addr) (ys : List Int), p ≤ n' ∧ nl ≤ p ∧ lf = .slice Lf nl cl ∧ i = .int .i64 p ∧ Hid (Own 3 wr w2.heap.size Lf nl cl (ys.map (Value.int .i64))) ∧ Hid (∀ y ∈ ys, I64 y) ∧ Hid (Below w2.heap.size w2 wr) ∧ Hid (ys ++ leftF l (xs.drop p) = leftF l xs)) (fun _ i _ => n' - (intOf i).toNat)
        case atStart => exact ⟨0, 0, 0, _, [], Nat.zero_le _, Nat.le_refl _, rfl, rfl, own_empty 3 w2 w2.heap.size rfl (Nat.le_refl _), by simp [Hid], below_new _ _, rfl⟩
        case round =>
          obtain ⟨p, nl, cl, Lf, ys, hp, hnl, rfl, rfl, hown, hys, hbw, hleft⟩ := hrel
          have hi3 := hi2.keep hbw.out
          have hx3' := hx2'.keep hbw.out
          have lc3 := keepBox hbw.out lc2
          by_cases hlp : p < n'
          · obtain ⟨b3, off3, y, rfl, hb3, hcell3, y1, y2, hyp⟩ := hi3.round hlp
            have hyl := HLI.out.1 y (List.mem_of_getElem? hyp.out)
            obtain ⟨t, ht⟩ : ∃ t, Hid (hasB l (-y) = t) := ⟨_, rfl⟩
            have hleft2 : Hid ((ys ++ if t then leftF l (xs.drop (p + 1)) else y :: leftF l (xs.drop (p + 1))) = leftF l xs) := by
              have := hleft.out
              rw [drop_cons_of hyp.out, leftF, List.filter_cons, ht.out] at this
              cases t <;> exact this
            clear hleft
            go_wp2_with fail
            refine (contains_ints _ _ _ _ _ _ hx3' _ ht).mono ?_
            rintro e w4 ⟨rfl, m4, rfl⟩
            cases t
            · have hS := ints_made (wr.drewN m4) 3 [y] rfl (by simp [I64]; omega) (by simp [maxLen])
              have hownD := hown.out.keep (below_drewN wr m4)
              go_wp2_with (first
                | (at_builtin
                   refine wpList_append_sl _ rfl (.tmp 46) (.tmp 48) _ rfl w2.heap.size 3 i0 _ 8 Try.underlying25 hi0 hz0 hz1 hz2 rfl Lf nl cl _ rfl (hownD.keep (below_new _ _)) (some ⟨wr.heap.size, 0, none⟩) 1 1 _ rfl hS.sl (ints_one _) (by simp only [maxLen]; omega) (by omega) (by have := hbw.out.size; simp; omega) ?_
                   intro L1 cL1 w5 hL1 hg1 hat1
                   have HL1 := Lib.hid hL1
                   have HB5 := Lib.hid (below_grown (below_alloc (below_next hbw.out (below_drewN wr m4)) (.cells #[.int .i64 y] 3)) (hownD.keep (below_new (wr.drewN m4) (.cells #[.int .i64 y] 3))) (Nat.le_refl _) hg1)
                   clear hL1 hg1 hat1))
              go_roundw
              case rel =>
                refine ⟨p + 1, nl + 1, cL1, L1, ys ++ [y], by omega, by omega, rfl, by go_num, ?_, ?_, HB5, ?_⟩
                · have := HL1.out
                  rw [List.map_append]
                  exact this
                · intro z hz
                  rcases List.mem_append.1 hz with hz | hz
                  · exact hys.out z hz
                  · simp at hz; subst hz; exact ⟨y1, y2⟩
                · have := hleft2.out
                  show _ = _
                  rw [List.append_assoc]
                  exact this
              case measure => simp [intOf]; omega
            · go_wp2_with fail
              go_roundw
              case rel => exact ⟨p + 1, nl, cl, Lf, ys, by omega, by omega, rfl, by go_num, hown.out.keep (below_drewN wr m4), hys, below_next hbw.out (below_drewN wr m4), by have := hleft2.out; exact this⟩
              case measure => simp [intOf]; omega
          · have hres : Hid (ys = leftF l xs) := by
              have := hleft.out
              rw [List.drop_of_length_le (by rw [hli.out]; omega)] at this
              simpa [leftF, Hid] using this
            have hst3 := Lib.hid (hst2.out.keep hbw.out)
            have hleftI : Ints wr Lf nl cl ys := hown.out.ints hys.out
            obtain ⟨vs, hO, hR⟩ := hst3.out.rows
            have HO := Lib.hid hO
            have HR := Lib.hid hR
            have o0 := hst3.out.ob.cell 0
            have o1 := hst3.out.ob.cell 1
            simp at o0 o1
            have of1 := hst3.out.ob.frozen 1
            have lgo : w1.heap.size + 1 < wr.heap.size := hst3.out.ob.lt
            clear hO hR hleft hi3 hx3' lc3
            go_wp2_with (first
              | (at_builtin
                 refine wpList_append_sl _ rfl (.tmp 52) (.tmp 54) _ rfl (w1.heap.size + 2) 25 j0 _ 24 Try.underlying22 hj0 hy0 hy1 hy2 rfl O k cO _ rfl (HO.out.keep (below_new _ _)) (some ⟨wr.heap.size, 0, none⟩) 1 1 _ rfl (sl_one wr 25 (.slice Lf nl cl) rfl) (by simp [Value.oneCell']) (by simp only [maxLen]; omega) (by omega) (by have := hst3.out.bl.size; simp; omega) ?_
                 intro O2 cO2 w6 hO2 hg6 hat6
                 have stB := hst3.out.keep (below_new wr (.cells #[.slice Lf nl cl] 25))
                 have oB := HO.out.keep (below_new wr (.cells #[.slice Lf nl cl] 25))
                 have st6 := Lib.hid (stB.push (by omega) (by omega) oB (HR.out.keep (below_new wr (.cells #[.slice Lf nl cl] 25))) (hleftI.keep (below_new wr (.cells #[.slice Lf nl cl] 25))) (Apart.of_own (hown.out.keep (below_new wr (.cells #[.slice Lf nl cl] 25)))) hO2 hg6)
                 have ob6 := stB.ob.grownO oB hg6 (by omega)
                 have s1 := ob6.cell 1
                 have sf1 := ob6.frozen 1
                 simp at s1
                 clear hO2 hg6 hat6 stB oB ob6))
            go_roundw
            case rel =>
              refine ⟨j + 1, k + 1, cO2, O2, done ++ [ys], by omega, by omega, by go_num, st6, ?_⟩
              have := hdone2.out
              show _ = _
              rw [List.append_assoc, hres.out]
              exact this
            case measure => simp [intOf]; omega
      · go_wp2_with fail
        go_roundw
        case rel => exact ⟨j + 1, k, cO, O, done, by omega, by omega, by go_num, hst2, hdone2.out⟩
        case measure => simp [intOf]; omega
    · have hres : Hid (done = givenF l xss) := by
        have := hdone.out
        rw [List.drop_of_length_le (by rw [hlen.out]; omega)] at this
        simpa [givenF, Hid] using this
      have o0 := hst.out.ob.cell 0
      have o1 := hst.out.ob.cell 1
      have r0 := hst.out.rb.cell 0
      have r1 := hst.out.rb.cell 1
      have rf0 := hst.out.rb.frozen 0
      have rf1 := hst.out.rb.frozen 1
      have t0 := hst.out.fb.cell 0
      have t1 := hst.out.fb.cell 1
      have tf0 := hst.out.fb.frozen 0
      have tf1 := hst.out.fb.frozen 1
      simp at o0 o1 r0 r1 t0 t1
      have hB := hst.out.bl
      have HB := Lib.hid hB
      have hrb := (hst.out.rb.set_ 0 (.int .i64 vars)).set_ 1 (.slice O k cO)
      have hfb := ((hst.out.fb.far (p := ⟨w.heap.size + 1 + 1, 0, none⟩) (show w.heap.size + 1 + 1 + 1 ≠ w.heap.size + 1 + 1 by omega) (.int .i64 vars)).far (p := ⟨w.heap.size + 1 + 1, 1, none⟩) (show w.heap.size + 1 + 1 + 1 ≠ w.heap.size + 1 + 1 by omega) (.slice O k cO))
      have hrb2 := (hrb.far (p := ⟨w.heap.size + 1 + 1 + 1, 0, none⟩) (show w.heap.size + 1 + 1 ≠ w.heap.size + 1 + 1 + 1 by omega) (.int .i64 0)).far (p := ⟨w.heap.size + 1 + 1 + 1, 1, none⟩) (show w.heap.size + 1 + 1 ≠ w.heap.size + 1 + 1 + 1 by omega) (.int .i64 0)
      have hfb2 := (hfb.set_ 0 (.int .i64 0)).set_ 1 (.int .i64 0)
      have hro := (((hst.out.rows.kept (grown_setCell wr ⟨w.heap.size + 1 + 1, 0, none⟩ (.int .i64 vars)) (show w.heap.size ≤ w.heap.size + 1 + 1 by omega) (Typed.of_blk hst.out.rb) (by decide) (by decide)).kept
        (grown_setCell _ ⟨w.heap.size + 1 + 1, 1, none⟩ (.slice O k cO)) (show w.heap.size ≤ w.heap.size + 1 + 1 by omega) (Typed.of_blk (hst.out.rb.set_ 0 (.int .i64 vars))) (by decide) (by decide)).kept
        (grown_setCell _ ⟨w.heap.size + 1 + 1 + 1, 0, none⟩ (.int .i64 0)) (show w.heap.size ≤ w.heap.size + 1 + 1 + 1 by omega) (Typed.of_blk hfb) (by decide) (by decide)).kept
        (grown_setCell _ ⟨w.heap.size + 1 + 1 + 1, 1, none⟩ (.int .i64 0)) (show w.heap.size ≤ w.heap.size + 1 + 1 + 1 by omega) (Typed.of_blk (hfb.set_ 0 (.int .i64 0))) (by decide) (by decide)
      have u0 := hrb2.cell 0
      have u1 := hrb2.cell 1
      have u2 := hfb2.cell 0
      have u3 := hfb2.cell 1
      simp at u0 u1 u2 u3
      have U0 := Lib.hid u0
      have U1 := Lib.hid u1
      have U2 := Lib.hid u2
      have U3 := Lib.hid u3
      have HRO := Lib.hid hro.grid
      clear hrb hfb hrb2 hfb2 hro u0 u1 u2 u3 hB hx hx'
      go_wp2_with fail
      exact bodyPost_ret (v := .tuple #[.agg #[.int .i64 vars, .slice O k cO], .agg #[.int .i64 0, .int .i64 0]]) (by simp [results, Try.results12, go_sem, U0.out, U1.out, U2.out, U3.out]) rfl
        ⟨O, k, cO, rfl, by rw [← hres.out]; exact HRO.out, below_put2 (below_put2 HB.out (g := w.heap.size + 1 + 1) (by omega) _ _) (g := w.heap.size + 1 + 1 + 1) (by omega) _ _⟩

set_option maxHeartbeats 1000000 in
theorem given_wrong (A B : Option Addr) (n c m d : Nat) (xss : List (List Int)) (l : List Int) (vars : Int) (w : World) (h : Grid w A n c xss) (hv : I64 vars) (h' : Ints w B m d l) (r1 r2 : Int) (hr : Hid (besideR vars xss l = (r1, r2))) (h0 : r1 ≠ 0) :
    Calls Try.prog 12 #[.agg #[.int .i64 vars, .slice A n c], .slice B m d] w (RetV (.tuple #[.agg #[.int .i64 0, .slice none 0 0], .agg #[.int .i64 r1, .int .i64 r2]]) w) := by
  have d1 : (r1 != 0) = true := by simpa using h0
  have hbW := below_alloc (below_alloc (below_alloc (below_new w (.cells #[.int .i64 vars, .slice A n c] 24)) (.cells #[.slice B m d] 25)) (.cells #[.int .i64 0, .slice none 0 0] 24)) (.cells #[.int .i64 0, .int .i64 0] 28)
  have g := h.keep hbW
  have g' := h'.keep hbW
  have HBW := Lib.hid hbW
  clear hbW
  go_enter Try.func12, Try.ntmps12
  go_wp2_with fail
  refine (both_any _ _ _ _ _ _ _ _ _ _ g hv g' _ _ hr).mono ?_
  rintro e w1 ⟨rfl, hb1⟩
  obtain ⟨k3, k4, _, l1⟩ := two_blks hb1
  have e3 : ((w.alloc (.cells #[.int .i64 vars, .slice A n c] 24)).alloc (.cells #[.slice B m d] 25)).heap.size = w.heap.size + 1 + 1 := by simp
  rw [e3] at k3 k4 l1
  have r0 := k3.cell 0
  have q1 := k3.cell 1
  have rf0 := k3.frozen 0
  have rf1 := k3.frozen 1
  have t0 := k4.cell 0
  have t1 := k4.cell 1
  have tf0 := k4.frozen 0
  have tf1 := k4.frozen 1
  simp at r0 q1 t0 t1
  have HB := Lib.hid (below_next HBW.out hb1)
  have l2 : w.heap.size + 1 + 1 < w1.heap.size := by omega
  have l3 : w.heap.size + 1 + 1 + 1 < w1.heap.size := by omega
  clear hb1 e3 k3 k4 g g'
  go_wp2_with fail
  go_region
  go_wp2_with fail
  refine bodyPost_ret (v := .tuple #[.agg #[.int .i64 0, .slice none 0 0], .agg #[.int .i64 r1, .int .i64 r2]]) (by simp [results, Try.results12, go_sem, r0, q1, t0, t1, l2, l3]) rfl ⟨rfl, ?_⟩
  exact ((below_put2 (below_put2 HB.out (g := w.heap.size + 1 + 1) (by omega) _ _) (g := w.heap.size + 1 + 1 + 1) (by omega) _ _).alloc (by simp; omega) _).drew
end Go.Proofs.Ytghebbkpdldjfaa
