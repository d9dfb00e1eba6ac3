/- Contract of sub.Pure: the pure literals. -/
import Derived.Test.YtehhhidjgngibaaConcat
import Derived.Test.YtehhhidjgngibaaGlue
import Derived.Test.YtehhhidjgngibaaGiven
namespace Go.Proofs.Ytehhhidjgngibaa
open Go.RowKit Go.Maps Go.WideMaps

def purB (zs : List Int) (y : Int) : Bool := hasB zs y && !hasB zs (-y)
def candF : Nat → Int → List Int
  | 0, _ => []
  | m + 1, v => v :: -v :: candF m (v + 1)
def pureF (vars : Int) (xss : List (List Int)) : List Int := (candF vars.toNat 1).filter (purB xss.flatten)

theorem flatten_le {m : Nat} : ∀ (xss : List (List Int)), (∀ xs ∈ xss, xs.length ≤ m) → xss.flatten.length ≤ m * xss.length
  | [], _ => by simp
  | x :: t, h => by
    have h1 := h x (by simp)
    have h2 := flatten_le t (fun xs hx => h xs (by simp [hx]))
    simp only [List.flatten_cons, List.length_append, List.length_cons, Nat.mul_add]
    omega

def MapI (w : World) (b n : Nat) (D : DataW Unit) : Prop := w.ownsMap Try.prog 3 (plainElem Try.prog 4) b n D
theorem MapI.keep {w w' : World} {b n : Nat} {D : DataW Unit} (h : MapI w b n D) (hb : Below w.heap.size w w') : MapI w' b n D := by
  have hlt := World.ownsMap.lt h
  obtain ⟨es, clock, h1, F, hs, hD⟩ := h
  exact ⟨es, clock, (hb.block b hlt).trans h1, F, hs, hD⟩
def MapHas (D : DataW Unit) (zs : List Int) : Prop := ∀ x, D.atKey (.int .i64 x) (.lit (.bool false)) = .lit (.bool (hasB zs x))

theorem bool_infoP : (Try.prog.info? 4).map (fun i => (i.zero, i.size, i.bytes)) = some (some (.bool false), 1, 1) := by kernel_rfl
theorem zero_bool (w : World) : (zeroValue 4).run Try.prog w = .ok (.bool false) w := by
  obtain ⟨i, h1, h2, _, _⟩ := info_parts bool_infoP
  simp [zeroValue, typeInfo, h1, h2]

theorem look_has {w : World} {b n : Nat} {D : DataW Unit} {zs : List Int} (h : MapI w b n D) (hD : MapHas D zs) {x : Int} (hx : I64 x) : (Instr.lookup 68 (.map (some b)) (.int .i64 x) false).run Try.prog w = .ok (.bool (hasB zs x)) w := by
  have hkey := keyOf_int_mk (P := Try.prog) Try.underlying3 (show (Lit.int .i64 x).wf = true from WalkArith.wf_i64 hx)
  obtain ⟨v, ps, hrun, hv⟩ := World.ownsMap.lookup h keyed_int Try.underlying68 (zero_bool w) (plainElem_bool Try.underlying4 false) hkey
  rw [hD x] at hv
  rw [hrun]
  unfold plainElem at hv
  rw [Try.underlying4] at hv
  cases v <;> simp at hv
  rw [hv.1]

structure PureSt (w wr : World) (A : Option Addr) (n c : Nat) (vars : Int) (g k : Nat) (D : DataW Unit) (zs : List Int) : Prop where
  bl : Below w.heap.size w wr
  cb : Blk wr w.heap.size 41 #[.int .i64 vars, .slice A n c]
  fb : Blk wr (w.heap.size + 1) 24 #[.int .i64 0, .int .i64 0]
  mp : MapI wr g k D
  has : MapHas D zs
theorem PureSt.keep {w wr w' : World} {A : Option Addr} {n c : Nat} {vars : Int} {g k : Nat} {D : DataW Unit} {zs : List Int} (h : PureSt w wr A n c vars g k D zs) (hb : Below wr.heap.size wr w') : PureSt w w' A n c vars g k D zs :=
  ⟨below_next h.bl hb, h.cb.keep hb, h.fb.keep hb, h.mp.keep hb, h.has⟩

/-- A row of the call's own grows. -/
theorem PureSt.grownO {w wr w' : World} {A : Option Addr} {n c : Nat} {vars : Int} {g k : Nat} {D : DataW Unit} {zs : List Int} {e : TypeId} {base nl cl : Nat} {L : Option Addr} {xs : List Value} (h : PureSt w wr A n c vars g k D zs) (ho : Own e wr base L nl cl xs) (hg : wr.grownBy w' (blockOf L)) (h1 : g < base) (h2 : w.heap.size + 1 < g) : PureSt w w' A n c vars g k D zs := by
  refine ⟨below_grown h.bl ho (by omega) hg, h.cb.grownO ho hg (by omega), h.fb.grownO ho hg (by omega), World.ownsMap.kept h.mp hg ?_, h.has⟩
  rcases ho.form with ⟨rfl, _⟩ | ⟨g', cur, rfl, hg', _⟩
  · simp [blockOf]
  · simp [blockOf]; omega

/-- A row of ints of the call's own, and no fault. -/
def RetIntsF (xs : List Int) (w : World) (e : Ending) (w' : World) : Prop :=
  ∃ A n c, e = .returned (.tuple #[.slice A n c, .agg #[.int .i64 0, .int .i64 0]]) ∧ Ints w' A n c xs ∧ Below w.heap.size w w'

set_option maxHeartbeats 1000000 in
theorem pure_wrong (A : Option Addr) (n c : Nat) (xss : List (List Int)) (vars : Int) (w : World) (h : Grid w A n c xss) (hv : I64 vars) (r1 r2 : Int) (hr : Hid (checkC vars xss = (r1, r2))) (h0 : r1 ≠ 0) :
    Calls Try.prog 39 #[.agg #[.int .i64 vars, .slice A n c]] w (RetV (.tuple #[.slice none 0 0, .agg #[.int .i64 r1, .int .i64 r2]]) w) := by
  have d1 : (r1 != 0) = true := by simpa using h0
  have hbW := below_alloc (below_new w (.cells #[.int .i64 vars, .slice A n c] 41)) (.cells #[.int .i64 0, .int .i64 0] 24)
  have g := h.keep hbW
  have HBW := Lib.hid hbW
  clear hbW
  go_enter Try.func39, Try.ntmps39
  go_wp2_with fail
  refine (check_own _ _ _ _ _ _ g hv _ _ hr).mono ?_
  rintro e w1 ⟨rfl, hb1⟩
  obtain ⟨k3, k4, _, l1⟩ := two_blks hb1
  have t0 := k4.cell 0
  have t1 := k4.cell 1
  have tf0 := k4.frozen 0
  have tf1 := k4.frozen 1
  simp at t0 t1
  have HB := Lib.hid (below_next HBW.out hb1)
  have l3 : w.heap.size + 1 < w1.heap.size := by omega
  clear hb1 k3 k4 g
  go_wp2_with fail
  go_region
  go_wp2_with fail
  refine bodyPost_ret (v := .tuple #[.slice none 0 0, .agg #[.int .i64 r1, .int .i64 r2]]) (by simp [results, Try.results39, go_sem, t0, t1, l3]) rfl ⟨rfl, ?_⟩
  exact ((below_put2 HB.out (g := w.heap.size + 1) (by omega) _ _).alloc (by simp; omega) _).drew

set_option maxHeartbeats 2000000 in
set_option maxRecDepth 100000 in
theorem pure_own (A : Option Addr) (n c : Nat) (xss : List (List Int)) (vars : Int) (w : World) (h : Grid w A n c xss) (hv : I64 vars) (hr : Hid (checkC vars xss = (0, 0))) :
    Calls Try.prog 39 #[.agg #[.int .i64 vars, .slice A n c]] w (RetIntsF (pureF vars xss) w) := by
  obtain ⟨_, v0, v1, hn400, hrows⟩ := checkC_ok (by rw [hr.out])
  have hfl := flatten_le xss (fun xs hx => (hrows xs hx).1)
  have hflat : xss.flatten.length ≤ 9600 := by omega
  have hlits : ∀ x ∈ xss.flatten, I64 x := by
    intro x hx
    obtain ⟨xs, h1, h2⟩ := List.mem_flatten.1 hx
    have := (hrows xs h1).2.1 x h2
    unfold I64
    omega
  have HLITS := Lib.hid hlits
  generalize hzs : xss.flatten = zs at *
  have HZS := Lib.hid hzs
  have HFL := Lib.hid hflat
  clear hrows hlits hn400 hfl hflat
  obtain ⟨i0, hi0, hz0, hz1, hz2⟩ := info_parts int_info
  have hmm := @run_makeMap Try.prog
  obtain ⟨W0, hW0⟩ : ∃ W0, W0 = (w.alloc (.cells #[.int .i64 vars, .slice A n c] 41)).alloc (.cells #[.int .i64 0, .int .i64 0] 24) := ⟨_, rfl⟩
  have bW0 : Hid (Below w.heap.size w W0) := by rw [hW0]; exact below_alloc (below_new _ _) _
  have k1 : Hid (Blk W0 w.heap.size 41 #[.int .i64 vars, .slice A n c]) := by rw [hW0]; exact (Blk.new w _ _).alloc _
  have k4 : Hid (Blk W0 (w.heap.size + 1) 24 #[.int .i64 0, .int .i64 0]) := by
    rw [hW0]
    have := Blk.new (w.alloc (.cells #[.int .i64 vars, .slice A n c] 41)) 24 #[.int .i64 0, .int .i64 0]
    simpa [Hid] using this
  have hsz : W0.heap.size = w.heap.size + 2 := by rw [hW0]; simp
  have HSZ := Lib.hid hsz
  have HW0 := Lib.hid hW0
  clear hW0 hsz hzs
  go_enter Try.func39, Try.ntmps39
  go_wp2_with fail
  rw [← HW0.out]
  refine (check_own _ _ _ _ _ _ (h.keep bW0.out) hv _ _ hr).mono ?_
  rintro e w1 ⟨rfl, hb1⟩
  have hl1 : w.heap.size + 2 ≤ w1.heap.size := by have := hb1.size; rw [HSZ.out] at this; exact this
  have q1 := (k1.out.keep hb1)
  have c0 := q1.cell 0
  have c1 := q1.cell 1
  simp at c0 c1
  have HST : Hid (PureSt w ((w1.alloc (.cells #[.int .i64 0, .int .i64 0] 24)).alloc (.map #[] 0)) A n c vars (w1.heap.size + 1) 0 (.map []) []) := by
    have hb2 := below_alloc (below_alloc hb1 (.cells #[.int .i64 0, .int .i64 0] 24)) (.map #[] 0)
    refine ⟨below_next bW0.out hb2, k1.out.keep hb2, k4.out.keep hb2, ?_, fun x => rfl⟩
    have := World.ownsMap_made (H := Unit) (w1.alloc (.cells #[.int .i64 0, .int .i64 0] 24)) Try.prog 3 (plainElem Try.prog 4)
    simpa [MapI] using this
  have z0 : w.heap.size < w1.heap.size := by omega
  clear q1 hb1
  go_wp2_with fail
  refine (concat_ints _ _ _ xss _ (h.keep HST.out.bl) (by rw [HZS.out]; have := HFL.out; omega)).mono ?_
  rintro e w2 ⟨L, nL, cL, rfl, hown, hb2⟩
  rw [HZS.out] at hown
  have HOW : Hid (Own 3 w2 (w1.heap.size + 2) L nL cL (zs.map (Value.int .i64))) := by simpa [Hid] using hown
  have hnL : nL ≤ 9600 := by have := hown.len; rw [List.length_map] at this; have := HFL.out; omega
  have hlL : Hid (zs.length = nL) := by have := hown.len; rw [List.length_map] at this; exact this
  have HST2 := Lib.hid (HST.out.keep hb2)
  have hl2 := hb2.size
  simp at hl2
  have hneL : Hid (blockOf L = none ∨ blockOf L ≠ some (w1.heap.size + 1)) := by
    rcases HOW.out.form with ⟨rfl, _⟩ | ⟨g, cur, rfl, hg, _⟩
    · exact .inl rfl
    · right
      simp [blockOf]
      omega
  have HRES : Hid ((candF vars.toNat 1).filter (purB zs) = pureF vars xss) := by rw [← HZS.out]; rfl
  clear hown hb2 HST c0 c1
  go_wp2_with fail
  go_loopw [23] (fun i wr => ∃ (k : Nat) (D : DataW Unit), k ≤ nL ∧ i = .int .i64 k ∧ Hid (PureSt w wr A n c vars (w1.heap.size + 1) k D (zs.take k)) ∧ Hid (Own 3 wr (w1.heap.size + 2) L nL cL (zs.map (Value.int .i64))) ∧ Hid (w1.heap.size + 2 ≤ wr.heap.size)) (fun i _ => nL - (intOf i).toNat)
  case atStart => exact ⟨0, .map [], Nat.zero_le _, rfl, HST2, HOW, by show _ ≤ _; omega⟩
  case round =>
    obtain ⟨k, D, hk, rfl, hst, how, hws⟩ := hrel
    clear HST2 HOW
    by_cases hlt : k < nL
    · obtain ⟨b, off, y, rfl, hb, hcell, y1, y2, hy⟩ := (how.out.ints HLITS.out).round hlt
      have hkey := keyOf_int_mk (P := Try.prog) Try.underlying3 (show (Lit.int .i64 y).wf = true from WalkArith.wf_i64 (by omega))
      go_wp2_with (first | (at_mapUpdate; refine wpList_mapUpdate_own _ rfl _ _ _ 68 rfl 3 4 keyed_int Try.underlying68 (plainElem (H := Unit) Try.prog 4) (w1.heap.size + 1) k D rfl hst.out.mp (by unfold maxLen; omega) _ _ _ rfl rfl hkey _ [] (plainElem_bool Try.underlying4 true) ?_; intro w3 hown1 hgrow1))
      go_roundw
      case rel =>
        have ht := World.ownsMap.tidy hst.out.mp keyed_int
        refine ⟨k + 1, _, by omega, by go_num, ⟨hst.out.bl.grown hgrow1 hst.out.bl.size (fun j hj => by cases hj; omega), hst.out.cb.grown hgrow1 (by simp; omega), hst.out.fb.grown hgrow1 (by simp; omega), hown1, ?_⟩, how.out.kept hgrow1 hneL.out, ?_⟩
        · intro x
          rw [take_snoc_of hy.out, hasB_append]
          by_cases hx : x = y
          · subst hx
            rw [Maps.atKey_put_same ht.isMap (k := .int .i64 x) trivial]
            simp [hasB]
          · rw [Maps.atKey_put_other (by simpa using hx), hst.out.has x]
            have : ¬ y = x := fun e => hx e.symm
            simp [hasB, this]
        · have := hgrow1.size
          have := hws.out
          show _ ≤ _
          omega
      case measure => simp [intOf]; omega
    · have hkn : k = nL := by omega
      subst hkn
      have hst1 : Hid (PureSt w wr A n c vars (w1.heap.size + 1) k D zs) := by have := hst.out; rw [List.take_of_length_le (by rw [hlL.out]; exact Nat.le_refl _)] at this; exact this
      have hwz : Hid (w1.heap.size + 2 ≤ wr.heap.size) := hws
      obtain ⟨wm, hwm⟩ : ∃ wm : World, wm = wr := ⟨_, rfl⟩
      subst hwm
      clear hst how
      go_wp2_with fail
      go_loopw [8, 9] (fun o v wr => ∃ (j m nl cl : Nat) (Lf : Option Addr) (ys : List Int), (j : Int) + m = vars ∧ nl ≤ 2 * j ∧ o = .slice Lf nl cl ∧ v = .int .i64 (j + 1) ∧ Hid (PureSt w wr A n c vars (w1.heap.size + 1) k D zs) ∧ Hid (Own 3 wr wm.heap.size Lf nl cl (ys.map (Value.int .i64))) ∧ Hid (∀ y ∈ ys, I64 y) ∧ Hid (wm.heap.size ≤ wr.heap.size) ∧ Hid (ys ++ (candF m (j + 1)).filter (purB zs) = pureF vars xss)) (fun _ v _ => (vars + 1 - intOf v).toNat)
      case atStart => exact ⟨0, vars.toNat, 0, 0, none, [], by omega, Nat.zero_le _, rfl, rfl, hst1, Own.nil _ _ _, by simp [Hid], Nat.le_refl _, by have := HRES.out; simpa [Hid] using this⟩
      case round =>
        obtain ⟨j, m, nl, cl, Lf, ys, hjm, hnl, rfl, rfl, hst, hown, hys, hws2, hdone⟩ := hrel
        clear hst1
        have c0 := hst.out.cb.cell 0
        simp at c0
        obtain ⟨wo, hwo⟩ : ∃ wo : World, wo = wr := ⟨_, rfl⟩
        subst hwo
        by_cases hlt : (j : Int) + 1 ≤ vars
        · obtain ⟨m', rfl⟩ : ∃ m', m = m' + 1 := ⟨m - 1, by omega⟩
          have hdone2 : Hid (ys ++ (([(j : Int) + 1, -((j : Int) + 1)].drop 0).filter (purB zs) ++ (candF m' ((j : Int) + 1 + 1)).filter (purB zs)) = pureF vars xss) := by
            have := hdone.out
            rw [candF, ← List.singleton_append, ← List.singleton_append (l := candF _ _), ← List.append_assoc, List.filter_append] at this
            exact this
          have hne0 : Hid (blockOf Lf ≠ some wo.heap.size) := by
            rcases hown.out.form with ⟨rfl, _⟩ | ⟨g, cur, rfl, _, hg, _⟩
            · simp [blockOf, Hid]
            · have := heap_lt hg
              simp [blockOf, Hid]
              omega
          have hpair := ints_made wo 3 [(j : Int) + 1, -((j : Int) + 1)] rfl (by simp [I64]; omega) (by simp [maxLen])
          have HPAIR := Lib.hid hpair
          have hst0 := Lib.hid (hst.out.keep (below_new wo (.cells #[.int .i64 ((j : Int) + 1), .int .i64 (-((j : Int) + 1))] 3)))
          have hown0 := Lib.hid (hown.out.keep (below_new wo (.cells #[.int .i64 ((j : Int) + 1), .int .i64 (-((j : Int) + 1))] 3)))
          clear hpair hdone
          go_wp2_with fail
          go_loopw [8, 41] (fun o i wr => ∃ (p nl cl : Nat) (Lf : Option Addr) (ys : List Int), p ≤ 2 ∧ nl ≤ 2 * j + p ∧ o = .slice Lf nl cl ∧ i = .int .i64 p ∧ Hid (PureSt w wr A n c vars (w1.heap.size + 1) k D zs) ∧ Hid (Own 3 wr wm.heap.size Lf nl cl (ys.map (Value.int .i64))) ∧ Hid (∀ y ∈ ys, I64 y) ∧ Hid (blockOf Lf ≠ some wo.heap.size) ∧ Hid (Ints wr (some ⟨wo.heap.size, 0, none⟩) 2 2 [(j : Int) + 1, -((j : Int) + 1)]) ∧ Hid (wo.heap.size < wr.heap.size) ∧ Hid (ys ++ (([(j : Int) + 1, -((j : Int) + 1)].drop p).filter (purB zs) ++ (candF m' ((j : Int) + 1 + 1)).filter (purB zs)) = pureF vars xss)) (fun _ i _ => 2 - (intOf i).toNat)
          case atStart => exact ⟨0, nl, cl, Lf, ys, by omega, by omega, rfl, rfl, hst0, hown0, hys, hne0, HPAIR, by simp [Hid], hdone2⟩
          case round =>
            clear hst hown hys hws hdone2 hne0 HPAIR hst0 hown0 c0 hnl
            obtain ⟨p, nl, cl, Lf, ys, hp, hnl, rfl, rfl, hst, hown, hys, hne, hpr, hwl, hdone⟩ := hrel
            by_cases hlp : p < 2
            · obtain ⟨b3, off3, y, heq, hb3, hcell3, y1, y2, hyp⟩ := hpr.out.round hlp
              cases heq
              rw [Nat.zero_add] at hcell3
              have hym := List.mem_of_getElem? hyp.out
              have hy1 : -120 ≤ y ∧ y ≤ 120 := by
                simp at hym
                omega
              obtain ⟨q1, hq1⟩ : ∃ q, Hid (hasB zs y = q) := ⟨_, rfl⟩
              obtain ⟨q2, hq2⟩ : ∃ q, Hid (hasB zs (-y) = q) := ⟨_, rfl⟩
              have lk1 := look_has hst.out.mp hst.out.has (x := y) ⟨by omega, by omega⟩
              have lk2 := look_has hst.out.mp hst.out.has (x := -y) ⟨by omega, by omega⟩
              rw [hq1.out] at lk1
              rw [hq2.out] at lk2
              have hdone2 : Hid (ys ++ ((if q1 && !q2 then [y] else []) ++ (([(j : Int) + 1, -((j : Int) + 1)].drop (p + 1)).filter (purB zs) ++ (candF m' ((j : Int) + 1 + 1)).filter (purB zs))) = pureF vars xss) := by
                have := hdone.out
                rw [drop_cons_of hyp.out, List.filter_cons, purB, hq1.out, hq2.out] at this
                show _ = _
                cases q1 <;> cases q2 <;> simpa using this
              clear hdone hym
              have hskip : (q1 && !q2) = false → ∃ (p' nl' cl' : Nat) (Lf' : Option Addr) (ys' : List Int), p' = p + 1 := fun _ => ⟨p + 1, 0, 0, none, [], rfl⟩
              clear hskip
              cases q1
              · go_wp2_with fail
                go_roundw
                case rel => exact ⟨p + 1, nl, cl, Lf, ys, by omega, by omega, rfl, by go_num, hst, hown, hys, hne, hpr, hwl, hdone2⟩
                case measure => simp [intOf]; omega
              · cases q2
                · have hS := ints_made wr 3 [y] rfl (by simp [I64]; omega) (by simp [maxLen])
                  go_wp2_with (first
                    | (at_builtin
                       refine wpList_append_sl _ rfl (.tmp 55) (.tmp 57) _ rfl wm.heap.size 3 i0 _ 8 Try.underlying22 hi0 hz0 hz1 hz2 rfl Lf nl cl _ rfl (hown.out.keep (below_new _ _)) (some ⟨wr.heap.size, 0, none⟩) 1 1 _ rfl hS.sl (ints_one _) (by simp only [maxLen]; omega) (by omega) (by have := hws2.out; have := hwl.out; simp; omega) ?_
                       intro L1 cL1 w5 hL1 hg1 hat1
                       have HL1 := Lib.hid hL1
                       have HG1 := Lib.hid hg1
                       have HAT1 := Lib.hid hat1
                       clear hL1 hg1 hat1))
                  go_roundw
                  case rel =>
                    have hbn := below_new wr (.cells #[.int .i64 y] 3)
                    have hst6 := hst.out.keep hbn
                    have how6 := hown.out.keep hbn
                    refine ⟨p + 1, nl + 1, cL1, L1, ys ++ [y], by omega, by omega, rfl, by go_num, ?_, by rw [List.map_append]; exact HL1.out, ?_, ?_, (hpr.out.keep hbn).kept HG1.out ?_, ?_, ?_⟩
                    · exact hst6.grownO how6 HG1.out (by have := hwz.out; omega) (by omega) 
                    · intro z hz
                      rcases List.mem_append.1 hz with hz | hz
                      · exact hys.out z hz
                      · simp at hz; subst hz; exact ⟨y1, y2⟩
                    · rcases HAT1.out with h1 | h1
                      · show _ ≠ _
                        rw [h1]; exact hne.out
                      · show _ ≠ _
                        rw [h1]; have := hwl.out; simp; omega
                    · exact .inr fun e => hne.out e.symm
                    · have := HG1.out.size
                      have := hwl.out
                      simp at *
                      show _ < _
                      omega
                    · have := hdone2.out
                      show _ = _
                      rw [List.append_assoc]
                      exact this
                  case measure => simp [intOf]; omega
                · go_wp2_with fail
                  go_roundw
                  case rel => exact ⟨p + 1, nl, cl, Lf, ys, by omega, by omega, rfl, by go_num, hst, hown, hys, hne, hpr, hwl, hdone2⟩
                  case measure => simp [intOf]; omega
            · go_wp2_with fail
              go_roundw
              case rel =>
                refine ⟨j + 1, m', nl, cl, Lf, ys, by omega, by omega, rfl, by go_num, hst, hown, hys, by have := hws2.out; have := hwl.out; show _ ≤ _; omega, ?_⟩
                have := hdone.out
                rw [List.drop_of_length_le (by simp; omega)] at this
                simpa [Hid] using this
              case measure => simp [intOf]; omega
        · have hm0 : m = 0 := by omega
          subst hm0
          have hres : Hid (ys = pureF vars xss) := by have := hdone.out; simpa [candF, Hid] using this
          have t0 := hst.out.fb.cell 0
          have t1 := hst.out.fb.cell 1
          have tf0 := hst.out.fb.frozen 0
          have tf1 := hst.out.fb.frozen 1
          simp at t0 t1
          have hfb := (hst.out.fb.set_ 0 (.int .i64 0)).set_ 1 (.int .i64 0)
          have u0 := hfb.cell 0
          have u1 := hfb.cell 1
          simp at u0 u1
          have U0 := Lib.hid u0
          have U1 := Lib.hid u1
          have HB := Lib.hid hst.out.bl
          have hneF : blockOf Lf = none ∨ blockOf Lf ≠ some (w.heap.size + 1) := by
            rcases hown.out.form with ⟨rfl, _⟩ | ⟨g, cur, rfl, hg, _⟩
            · exact .inl rfl
            · right
              have := hwz.out
              simp [blockOf]
              omega
          have HI := Lib.hid (((hown.out.ints hys.out).kept (grown_setCell _ ⟨w.heap.size + 1, 0, none⟩ (.int .i64 0)) hneF).kept (grown_setCell _ ⟨w.heap.size + 1, 1, none⟩ (.int .i64 0)) hneF)
          clear hfb u0 u1 hneF
          go_wp2_with fail
          exact bodyPost_ret (v := .tuple #[.slice Lf nl cl, .agg #[.int .i64 0, .int .i64 0]]) (by simp [results, Try.results39, go_sem, U0.out, U1.out]) rfl
            ⟨Lf, nl, cl, rfl, by rw [← hres.out]; exact HI.out, below_put2 HB.out (g := w.heap.size + 1) (by omega) _ _⟩
end Go.Proofs.Ytehhhidjgngibaa
