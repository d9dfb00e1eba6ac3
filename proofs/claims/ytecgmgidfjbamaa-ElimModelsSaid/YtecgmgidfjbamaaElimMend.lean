/- Contract of elim.Mend. (Printed by wip/tools/elimmend.py.) -/
import Derived.Test.YtecgmgidfjbamaaElimDo
import Derived.Test.YtecgmgidfjbamaaCloneB
namespace Go.Proofs.Ytecgmgidfjbamaa
open Go.RowKit
set_option linter.unusedSimpArgs false

/-- What elim.Mend tells. -/
def mendS (vars : Int) (xss : List (List Int)) (vs : List Int) (a : List Bool) : List Bool × Int × Int :=
  if (doneS vars xss vs).2.1 ≠ 0 then ([], (doneS vars xss vs).2) else if (a.length : Int) ≠ vars then ([], 9, -1) else if allB (lastS vs (normF xss)) a = false then ([], 11, 0) else (mendF vs (doneS vars xss vs).1 a, 0, 0)
theorem mendF_step {vs : List Int} {R : List (List (List Int))} {a : List Bool} {j : Nat} {v : Int} {l : List (List Int)} (hv : vs[j]? = some v) (hl : R[j]? = some l) :
    mendF (vs.drop j) (R.drop j) a = (mendF (vs.drop (j + 1)) (R.drop (j + 1)) a).set (v.natAbs - 1) (!allB l ((mendF (vs.drop (j + 1)) (R.drop (j + 1)) a).set (v.natAbs - 1) false)) := by
  rw [drop_cons_of hv, drop_cons_of hl, mendF]

set_option maxHeartbeats 8000000 in
set_option maxRecDepth 100000 in
theorem mend_any (A B C : Option Addr) (n c m d p f : Nat) (xss : List (List Int)) (vs : List Int) (a : List Bool) (vars : Int) (w : World) (h : Grid w A n c xss) (hv : I64 vars) (h' : Ints w B m d vs) (ha : Bools w C p f a) (Z : List Bool) (z1 z2 : Int) (hZ : Hid (mendS vars xss vs a = (Z, z1, z2))) :
    Calls Try.prog 40 #[.agg #[.int .i64 vars, .slice A n c], .slice B m d, .slice C p f] w (fun e w' => ∃ A' n' c', e = .returned (.tuple #[.slice A' n' c', .agg #[.int .i64 z1, .int .i64 z2]]) ∧ Own 4 w' w.heap.size A' n' c' (Z.map Value.bool) ∧ Below w.heap.size w w') := by
  have hbd := h.bd
  have hbd' := h'.bd
  have hbda := ha.bd
  have hlen := Lib.hid h'.len
  have hla := Lib.hid ha.len
  have G := Lib.hid h
  have HV := Lib.hid h'
  have HA := Lib.hid ha
  obtain ⟨R, r1, r2, hR⟩ : ∃ R r1 r2, Hid (doneS vars xss vs = (R, r1, r2)) := ⟨_, _, _, rfl⟩
  clear h h' ha
  go_enter Try.func40, Try.ntmps40
  go_wp2_with fail
  refine (stages_any _ _ _ _ _ _ xss vs vars _ (G.out.keep (below_alloc (below_new _ _) _)) hv (HV.out.keep (below_alloc (below_new _ _) _)) R r1 r2 hR).mono ?_
  rintro e w1 ⟨A1, n1, c1, rfl, hQ1, hb1⟩
  obtain ⟨K_c0, K_r0, B_w1, l_w1⟩ := two_blks hb1
  have hbx := below_new w1 (.cells #[.int .i64 r1, .int .i64 r2] 28)
  obtain ⟨w0, hw0⟩ : ∃ w0 : World, w0 = w1.alloc (.cells #[.int .i64 r1, .int .i64 r2] 28) := ⟨_, rfl⟩
  rw [← hw0] at hbx
  have KR := Lib.hid (K_r0.keep hbx)
  have HB1 := Lib.hid B_w1
  have HB := Lib.hid (below_next B_w1 hbx)
  have HQ := Lib.hid (hQ1.keep hbx)
  have HQ1 := Lib.hid hQ1
  have HBX := Lib.hid hbx
  have HW0 := Lib.hid hw0
  have lww : w.heap.size + 2 ≤ w1.heap.size := l_w1
  have c0 := K_c0.cell 0
  have c1' := K_c0.cell 1
  have k30 := K_r0.cell 0
  have k31 := K_r0.cell 1
  have g30 := K_r0.frozen 0
  have g31 := K_r0.frozen 1
  simp at c0 c1' k30 k31
  have lc : w.heap.size < w1.heap.size := by omega
  have lr : w.heap.size + 1 < w1.heap.size := by omega
  clear hb1 K_c0 K_r0 B_w1 hbx hw0 hQ1
  by_cases hr1 : r1 ≠ 0
  · have d1 : (r1 != 0) = true := by simpa using hr1
    obtain ⟨rfl, rfl, rfl⟩ : [] = Z ∧ r1 = z1 ∧ r2 = z2 := by have := hZ.out; rw [mendS, hR.out, if_pos hr1] at this; simpa using this
    go_wp2_with fail
    go_region
    go_wp2_with fail
    refine bodyPost_ret (v := .tuple #[.slice none 0 0, .agg #[.int .i64 r1, .int .i64 r2]]) (by simp [results, Try.results40, go_sem, k30, k31, lr]) rfl ⟨none, 0, 0, rfl, Own.nil _ _ _, ?_⟩
    exact ((below_put2 HB1.out (g := w.heap.size + 1) (by omega) _ _).alloc (by simp; omega) _).drew
  · obtain rfl : r1 = 0 := by omega
    obtain ⟨hRR, hr2, hck, _, hvs, _, _⟩ := doneS_ok hR.out
    subst hr2
    obtain ⟨_, v0, v1, _, hrows⟩ := checkC_ok hck
    have HRR := Lib.hid hRR
    have HTD : Hid (∀ x ∈ normF xss, Lits vars x) := fun x hx => ((norm_tidy hrows).2 x hx).2
    have HVS := Lib.hid hvs
    have hZ2 : Hid ((if (p : Int) ≠ vars then ([], (9 : Int), (-1 : Int)) else if allB (lastS vs (normF xss)) a = false then ([], 11, 0) else (mendF vs R a, 0, 0)) = (Z, z1, z2)) := by have := hZ.out; rw [mendS, hR.out, if_neg (by simp), hla.out] at this; exact this
    clear hRR hrows hvs hck hr1 hZ
    by_cases hpv : (p : Int) ≠ vars
    · have d2 : ((p : Int) != vars) = true := by simpa using hpv
      obtain ⟨rfl, rfl, rfl⟩ : [] = Z ∧ 9 = z1 ∧ -1 = z2 := by have := hZ2.out; rw [if_pos hpv] at this; simpa using this
      go_wp2_with fail
      refine bodyPost_ret (v := .tuple #[.slice none 0 0, .agg #[.int .i64 9, .int .i64 (-1)]]) (by simp [results, Try.results40, go_sem, k30, k31, lr]) rfl ⟨none, 0, 0, rfl, Own.nil _ _ _, ?_⟩
      exact (below_put2 HB1.out (g := w.heap.size + 1) (by omega) _ _).alloc (by simp; omega) _
    · have hpv : (p : Int) = vars := by omega
      obtain ⟨r, hr⟩ : ∃ r, Hid (allB (lastS vs (normF xss)) a = r) := ⟨_, rfl⟩
      have hZ3 : Hid ((if r = false then ([], (11 : Int), (0 : Int)) else (mendF vs R a, 0, 0)) = (Z, z1, z2)) := by have := hZ2.out; rw [if_neg (by simpa using hpv), hr.out] at this; exact this
      have hp120 : p ≤ 120 := by omega
      have HRL : Hid (R.length = m + 1) := by show _ = _; rw [HRR.out]; simp [chain_len]; exact hlen.out
      have hn1 : m < n1 := by have h1 := HQ.out.len.1; rw [HRL.out] at h1; omega
      have hLS : Hid (R[m]? = some (lastS vs (normF xss))) := by show _ = _; rw [HRR.out, ← hlen.out]; exact chain_last _ _
      have HLL : Hid (∀ l ∈ R, ∀ x ∈ l, InLits p x) := by rw [HRR.out]; exact fun l hl x hx => (chain_lits vs _ HTD.out l hl x hx).inLits hpv
      obtain ⟨g, X, nx, cx, l', hAe, hgb, hgl, hcx, hX1, hlk⟩ := HQ1.out.round hn1
      have hX := hX1.keep HBX.out
      clear hX1
      subst hAe
      obtain rfl : l' = lastS vs (normF xss) := by have := hlk.out; rw [hLS.out] at this; cases this; rfl
      have HX := Lib.hid hX.grid
      have hbx := hX.grid.bd
      have y1 : (0 : Int) ≤ (m : Int) := by omega
      have y2 : (m : Int) < (n1 : Int) := by omega
      clear hX hZ2 hlk hgb
      have d2 : ((p : Int) != vars) = false := by simpa using hpv
      go_wp2_with fail
      rw [← HW0.out]
      refine (all_own _ _ _ _ _ _ (lastS vs (normF xss)) a w0 HX.out (HA.out.keep HB.out) (HLL.out _ (List.mem_of_getElem? hLS.out)) r hr).mono ?_
      rintro e w3 ⟨rfl, hb3⟩
      have HB3 := Lib.hid (below_next HB.out hb3)
      have KR3 := Lib.hid (KR.out.keep hb3)
      have Q3 := Lib.hid (HQ.out.keep hb3)
      clear hb3 k30 k31 g30 g31 lr c0 c1' lc hcx hgl
      have k30 := KR3.out.cell 0
      have k31 := KR3.out.cell 1
      have g30 := KR3.out.frozen 0
      have g31 := KR3.out.frozen 1
      simp at k30 k31
      have lr := KR3.out.lt
      cases r
      · obtain ⟨rfl, rfl, rfl⟩ : [] = Z ∧ 11 = z1 ∧ 0 = z2 := by have := hZ3.out; rw [if_pos rfl] at this; simpa using this
        obtain ⟨q0, q1⟩ := KR3.out.put2 (.int .i64 11) (.int .i64 0)
        have QQ0 := Lib.hid q0
        have QQ1 := Lib.hid q1
        have BF := Lib.hid (below_put2 HB3.out (g := w.heap.size + 1) (by omega) (.int .i64 11) (.int .i64 0))
        clear q0 q1
        go_wp2_with fail
        exact bodyPost_ret (v := .tuple #[.slice none 0 0, .agg #[.int .i64 11, .int .i64 0]]) (by simp [results, Try.results40, go_sem, QQ0.out, QQ1.out]) rfl ⟨none, 0, 0, rfl, Own.nil _ _ _, BF.out⟩
      · obtain ⟨rfl, rfl, rfl⟩ : mendF vs R a = Z ∧ 0 = z1 ∧ 0 = z2 := by have := hZ3.out; rw [if_neg (by simp)] at this; simpa using this
        clear hZ3
        go_wp2_with fail
        refine (clone_bools _ _ _ a w3 (HA.out.keep HB3.out) (by omega)).mono ?_
        rintro e w4 ⟨A4, n4, c4, rfl, hO4, hb4⟩
        obtain rfl : n4 = p := by have h1 := hO4.len; rw [List.length_map, hla.out] at h1; exact h1.symm
        have hc4 := hO4.sl.le
        have hc5 := hO4.sl.cap
        unfold maxLen at hc5
        have O4 := Lib.hid hO4
        have B4 := Lib.hid hb4
        have hm63 : (m : Int) ≤ 9223372036854775807 := by omega
        clear hO4 hb4 k30 k31 g30 g31 lr
        have hw3 := HB3.out.size
        go_wp2_with fail
        go_loopw [11] (fun s wr => ∃ k : Nat, k ≤ m ∧ s = .int .i64 ((k : Int) - 1) ∧ Hid (Own 4 wr w3.heap.size A4 n4 c4 ((mendF (vs.drop k) (R.drop k) a).map Value.bool)) ∧ Hid (Below w3.heap.size w3 wr)) (fun s _ => (intOf s + 1).toNat)
        case atStart => exact ⟨m, Nat.le_refl _, rfl, by have := O4.out; rw [List.drop_of_length_le (by rw [hlen.out]; omega)]; exact this, B4.out⟩
        case round =>
          clear O4 B4
          obtain ⟨k, hk, rfl, hO, hbl⟩ := hrel
          have hwr := hbl.out.size
          by_cases hlt : 0 < k
          · obtain ⟨j, rfl⟩ : ∃ j, k = j + 1 := ⟨k - 1, by omega⟩
            obtain ⟨b, off, v, hBe, hb, hcv, u1, u2, hvk⟩ := ((HV.out.keep HB3.out).keep hbl.out).round (k := j) (by omega)
            subst hBe
            obtain ⟨g', X5, nx5, cx5, l5, hAe, hgb, hgl, hcx, hX, hlk⟩ := (Q3.out.keep hbl.out).round (k := j) (by omega)
            cases hAe
            have hvb := HVS.out v (List.mem_of_getElem? hvk.out)
            obtain ⟨u, hu⟩ : ∃ u : Nat, v = (u : Int) + 1 := ⟨(v - 1).toNat, by omega⟩
            have hun : u < n4 := by omega
            have hva : v.natAbs - 1 = u := by omega
            obtain ⟨g2, ub, hA4, hg2, hl2, hc2, hfr, hub⟩ := hO.out.at_ hun
            subst hA4
            obtain ⟨bb, hbb⟩ : ∃ bb, Hid (mendF (vs.drop (j + 1)) (R.drop (j + 1)) a = bb) := ⟨_, rfl⟩
            rw [hbb.out] at hO
            have hbbl : bb.length = n4 := by rw [← hbb.out, mendF_len, hla.out]
            have z1 : ((j + 1 : Nat) : Int) - 1 = (j : Int) := by omega
            have z2 : (0 : Int) ≤ (j : Int) := by omega
            have z3 : (j : Int) < (m : Int) := by omega
            have z4 : v - 1 = (u : Int) := by omega
            have z5 : (0 : Int) ≤ (u : Int) := by omega
            have z6 : (u : Int) < (n4 : Int) := by omega
            have z7 : (j : Int) < (n1 : Int) := by omega
            have z8 : (u : Int) < vars := by omega
            have zw : IntKind.i64.wrap (u : Int) = (u : Int) := IntWalk.i64_in _ (by omega)
            rw [z1]
            obtain ⟨w5, hw5⟩ : ∃ w5 : World, w5 = wr.setCell ⟨g2, u, none⟩ (.bool false) := ⟨_, rfl⟩
            have BL5 : Hid (Below w3.heap.size w3 w5) := by rw [hw5]; exact hbl.out.setCell (p := ⟨g2, u, none⟩) hg2 _
            have O5 : Hid (Own 4 w5 w3.heap.size (some ⟨g2, 0, none⟩) n4 c4 ((bb.set u false).map Value.bool)) := by rw [hw5]; have := hO.out.set_ u (.bool false); rw [List.map_set]; exact this
            have HW5 := Lib.hid hw5
            obtain ⟨r5, hr5⟩ : ∃ r5, Hid (allB l5 (bb.set u false) = r5) := ⟨_, rfl⟩
            have HXl := Lib.hid (HLL.out l5 (List.mem_of_getElem? hlk.out))
            clear hw5 hX hcx hgl hgb
            go_wp2_with fail
            rw [← HW5.out]
            clear hb hcv
            obtain ⟨b', off', v', hBe, hb, hcv, -, -, hvk'⟩ := ((HV.out.keep HB3.out).keep BL5.out).round (k := j) (by omega)
            cases hBe
            obtain rfl : v = v' := by have := hvk'.out; rw [hvk.out] at this; cases this; rfl
            obtain ⟨g'', X6, nx6, cx6, l6, hAe, hgb, hgl, hcx, hX, hlk'⟩ := (Q3.out.keep BL5.out).round (k := j) (by omega)
            cases hAe
            obtain rfl : l6 = l5 := by have := hlk'.out; rw [hlk.out] at this; cases this; rfl
            have HX6 := Lib.hid hX.grid
            have hb6 := hX.grid.bd
            clear hX hvk' hlk'
            have hneb : g2 ≠ b := fun e => by subst e; obtain ⟨b9, off9, e9, hlt9, _⟩ := HV.out.sl.at_ (by omega); cases e9; have h2 := HB3.out.size; omega
            have hneg : g2 ≠ g := fun e => by subst e; obtain ⟨g9, _, _, _, _, e9, _, hl9, _⟩ := Q3.out.round (k := j) (by omega); cases e9; omega
            have hS : w5.drew.cell? ⟨b, off + j, none⟩ = some (.int .i64 v) ∧ w5.drew.cell? ⟨g, j, none⟩ = some (.slice X6 nx6 cx6) := ⟨keepBox (below_drewN w5 1) hcv, keepBox (below_drewN w5 1) hcx⟩
            refine wp_region_tail (fun w' => w'.cell? ⟨b, off + j, none⟩ = some (.int .i64 v) ∧ w'.cell? ⟨g, j, none⟩ = some (.slice X6 nx6 cx6)) [] (by kernel_rfl) ?_
            refine take0 (i := 0) (oi := _) (v := ?_) rfl (by kernel_rfl) (by kernel_rfl) (by kernel_rfl) (fun _ _ _ h => h) rfl (Or.inl ⟨by rfl, ?_⟩) (fun _ => hS) ?_
            rotate_left
            · intro w0; go_simp; with_reducible rfl
            (try simp only [Act.put, List.setIfInBounds_toArray, List.set_cons_zero, List.set_cons_succ])
            refine take0 (i := 1) (oi := _) (v := ?_) rfl (by kernel_rfl) (by kernel_rfl) (by kernel_rfl) (fun _ _ _ h => h) rfl (Or.inl ⟨by rfl, ?_⟩) (fun _ => hS) ?_
            rotate_left
            · intro w0; go_simp; with_reducible rfl
            (try simp only [Act.put, List.setIfInBounds_toArray, List.set_cons_zero, List.set_cons_succ])
            refine take0 (i := 2) (oi := _) (v := ?_) rfl (by kernel_rfl) (by kernel_rfl) (by kernel_rfl) (fun _ _ _ h => h) rfl (Or.inl ⟨by rfl, ?_⟩) (fun _ => hS) ?_
            rotate_left
            · intro w0; go_simp; with_reducible rfl
            (try simp only [Act.put, List.setIfInBounds_toArray, List.set_cons_zero, List.set_cons_succ])
            refine take0 (i := 3) (oi := _) (v := ?_) rfl (by kernel_rfl) (by kernel_rfl) (by kernel_rfl) (fun _ _ _ h => h) rfl (Or.inl ⟨by rfl, ?_⟩) (fun _ => hS) ?_
            rotate_left
            · intro w0; go_simp; with_reducible rfl
            (try simp only [Act.put, List.setIfInBounds_toArray, List.set_cons_zero, List.set_cons_succ])
            refine takeS (i := 4) (oi := _) (v := ?_) rfl (by kernel_rfl) (by kernel_rfl) (by kernel_rfl) (fun _ _ _ h => h) rfl (by kernel_rfl) (by kernel_rfl) (Or.inl ⟨by rfl, ?_⟩) hS ?_
            rotate_left
            · intro w0 hSw; (try dsimp only at hSw); go_simp; with_reducible rfl
            (try simp only [Act.put, List.setIfInBounds_toArray, List.set_cons_zero, List.set_cons_succ])
            refine take0 (i := 5) (oi := _) (v := ?_) rfl (by kernel_rfl) (by kernel_rfl) (by kernel_rfl) (fun _ _ _ h => h) rfl (Or.inl ⟨by rfl, ?_⟩) (fun _ => hS) ?_
            rotate_left
            · intro w0; go_simp; with_reducible rfl
            (try simp only [Act.put, List.setIfInBounds_toArray, List.set_cons_zero, List.set_cons_succ])
            refine take0 (i := 6) (oi := _) (v := ?_) rfl (by kernel_rfl) (by kernel_rfl) (by kernel_rfl) (fun _ _ _ h => h) rfl (Or.inl ⟨by rfl, ?_⟩) (fun _ => hS) ?_
            rotate_left
            · intro w0; go_simp; with_reducible rfl
            (try simp only [Act.put, List.setIfInBounds_toArray, List.set_cons_zero, List.set_cons_succ])
            refine take0 (i := 7) (oi := _) (v := ?_) rfl (by kernel_rfl) (by kernel_rfl) (by kernel_rfl) (fun _ _ _ h => h) rfl (Or.inl ⟨by rfl, ?_⟩) (fun _ => hS) ?_
            rotate_left
            · intro w0; go_simp; with_reducible rfl
            (try simp only [Act.put, List.setIfInBounds_toArray, List.set_cons_zero, List.set_cons_succ])
            refine take0 (i := 8) (oi := _) (v := ?_) rfl (by kernel_rfl) (by kernel_rfl) (by kernel_rfl) (fun _ _ _ h => h) rfl (Or.inl ⟨by rfl, ?_⟩) (fun _ => hS) ?_
            rotate_left
            · intro w0; go_simp; with_reducible rfl
            (try simp only [Act.put, List.setIfInBounds_toArray, List.set_cons_zero, List.set_cons_succ])
            refine takeS (i := 9) (oi := _) (v := ?_) rfl (by kernel_rfl) (by kernel_rfl) (by kernel_rfl) (fun _ _ _ h => h) rfl (by kernel_rfl) (by kernel_rfl) (Or.inl ⟨by rfl, ?_⟩) hS ?_
            rotate_left
            · intro w0 hSw; (try dsimp only at hSw); go_simp; with_reducible rfl
            (try simp only [Act.put, List.setIfInBounds_toArray, List.set_cons_zero, List.set_cons_succ])
            refine take0 (i := 10) (oi := _) (v := ?_) rfl (by kernel_rfl) (by kernel_rfl) (by kernel_rfl) (fun _ _ _ h => h) rfl (Or.inl ⟨by rfl, ?_⟩) (fun _ => hS) ?_
            rotate_left
            · intro w0; go_simp; with_reducible rfl
            (try simp only [Act.put, List.setIfInBounds_toArray, List.set_cons_zero, List.set_cons_succ])
            refine oneT (i := 11) (by kernel_rfl) rfl (by rfl) (fun K hK => ?_)
            go_simp
            refine (all_own _ _ _ _ _ _ l6 (bb.set u false) _ (HX6.out.drewN 1) (O5.out.keep (below_drewN w5 1)).sl HXl.out r5 hr5).mono ?_
            rintro e w6 ⟨rfl, hb6'⟩
            have B6 := Lib.hid (below_next (below_drewN w5 1) hb6')
            clear hb6'
            have hS : w6.cell? ⟨b, off + j, none⟩ = some (.int .i64 v) ∧ w6.cell? ⟨g, j, none⟩ = some (.slice X6 nx6 cx6) := ⟨keepBox B6.out hcv, keepBox B6.out hcx⟩
            refine hK _ _ (fun _ => hS) ?_
            clear hK
            (try simp only [Act.put, List.setIfInBounds_toArray, List.set_cons_zero, List.set_cons_succ])
            refine take0 (i := 12) (oi := _) (v := ?_) rfl (by kernel_rfl) (by kernel_rfl) (by kernel_rfl) (fun _ _ _ h => h) rfl (Or.inl ⟨by rfl, ?_⟩) (fun _ => hS) ?_
            rotate_left
            · intro w0; go_simp; with_reducible rfl
            (try simp only [Act.put, List.setIfInBounds_toArray, List.set_cons_zero, List.set_cons_succ])
            refine oneT (i := 13) (by kernel_rfl) rfl (by rfl) (fun K hK => ?_)
            go_simp
            refine hK _ _ (fun _ => hS) ?_
            clear hK
            (try simp only [Act.put, List.setIfInBounds_toArray, List.set_cons_zero, List.set_cons_succ])
            have O6 := Lib.hid (O5.out.keep B6.out)
            obtain ⟨_, ub6, e6, _, hl6, hc6, hf6, hub6⟩ := O6.out.at_ hun
            cases e6
            obtain ⟨w7, hw7⟩ : ∃ w7 : World, w7 = w6.setCell ⟨g2, u, none⟩ (.bool (!r5)) := ⟨_, rfl⟩
            have B7 : Hid (Below w3.heap.size w3 w7) := by rw [hw7]; exact (below_next BL5.out B6.out).setCell (p := ⟨g2, u, none⟩) hg2 _
            have O7 : Hid (Own 4 w7 w3.heap.size (some ⟨g2, 0, none⟩) n4 c4 ((bb.set u (!r5)).map Value.bool)) := by rw [hw7]; have := O6.out.set_ u (.bool (!r5)); rw [← List.map_set, List.set_set] at this; exact this
            have HW7 := Lib.hid hw7
            clear hw7
            refine oneT (i := 14) (by kernel_rfl) rfl (by rfl) (fun K hK => ?_)
            go_simp
            rw [← HW7.out]
            have hS : w7.cell? ⟨b, off + j, none⟩ = some (.int .i64 v) ∧ w7.cell? ⟨g, j, none⟩ = some (.slice X6 nx6 cx6) := by
              rw [HW7.out]
              refine ⟨?_, ?_⟩
              · rw [World.cell?_setCell_other _ _ _ _ (fun e => hneb (congrArg Addr.block e))]; exact hS.1
              · rw [World.cell?_setCell_other _ _ _ _ (fun e => hneg (congrArg Addr.block e))]; exact hS.2
            refine hK _ _ (fun _ => hS) ?_
            clear hK
            (try simp only [Act.put, List.setIfInBounds_toArray, List.set_cons_zero, List.set_cons_succ])
            refine doneT (by kernel_rfl) ?_ _
            go_wp2_with fail
            go_roundw
            case rel => exact ⟨j, by omega, by go_num, by rw [mendF_step hvk.out hlk.out, hbb.out, hva, hr5.out]; exact O7.out, B7.out⟩
            case measure => simp [intOf]
          · obtain rfl : k = 0 := by omega
            have KR9 := Lib.hid (KR3.out.keep hbl.out)
            have k30 := KR9.out.cell 0
            have k31 := KR9.out.cell 1
            have g30 := KR9.out.frozen 0
            have g31 := KR9.out.frozen 1
            simp at k30 k31
            have lw3 := KR9.out.lt
            have SI : Hid ((wr.setCell ⟨w.heap.size + 1, 0, none⟩ (.int .i64 0)).setCell ⟨w.heap.size + 1, 1, none⟩ (.int .i64 0) = wr) := by rw [setCell_id KR9.out rfl, setCell_id KR9.out rfl]; rfl
            have OF : Hid (Own 4 wr w.heap.size A4 n4 c4 ((mendF vs R a).map Value.bool)) := by have := hO.out; simp only [List.drop_zero] at this; exact this.mono hw3
            have BF := Lib.hid (below_next HB3.out hbl.out)
            go_wp2_with fail
            exact bodyPost_ret (v := .tuple #[.slice A4 n4 c4, .agg #[.int .i64 0, .int .i64 0]]) (by rw [SI.out]; simp [results, Try.results40, go_sem, k30, k31]) rfl ⟨A4, n4, c4, rfl, by rw [SI.out]; exact OF.out, by rw [SI.out]; exact BF.out⟩
end Go.Proofs.Ytecgmgidfjbamaa
