/- The walk of ElimBlocked: it returns true. (Printed by wip/tools/elimblocked.py.) -/
import Derived.Test.YtecgmgidfjbamaaBlkSound
import Derived.Test.YtecgmgidfjbamaaHolds
import Derived.Test.YtecgmgidfjbamaaGrid
import Derived.Test.YtecgmgidfjbamaaTail
import Derived.Test.YtecgmgidfjbamaaRefSort
namespace Go.Proofs.Ytecgmgidfjbamaa
open Go.RowKit
set_option linter.unusedSimpArgs false

theorem grid_rest {w w' : World} {k m cL : Nat} {L : Option Addr} {vs : List Value} {xss : List (List Int)} (hl : vs.length = xss.length)
    (hr : ∀ (k : Nat) (v : Value), vs[k]? = some v → ∃ (A' : Option Addr) (n' c' : Nat) (xs : List Int), v = Value.slice A' n' c' ∧ xss[k]? = some xs ∧ Ints w A' n' c' xs) (hb : Below w.heap.size w w')
    (h : Sl w' L m cL (vs.take k ++ vs.drop (k + 1))) : Grid w' L m cL (xss.take k ++ xss.drop (k + 1)) := by
  refine ⟨_, h, by simp [hl], fun j v hv => ?_⟩
  have htl : (vs.take k).length = (xss.take k).length := by simp [hl]
  by_cases hj : j < (vs.take k).length
  · rw [List.getElem?_append_left hj] at hv
    have hjk : j < k := by rw [List.length_take] at hj; omega
    rw [List.getElem?_take, if_pos hjk] at hv
    obtain ⟨A', n', c', xs, e1, hx, hi⟩ := hr j v hv
    exact ⟨A', n', c', xs, e1, by rw [List.getElem?_append_left (by rw [← htl]; exact hj), List.getElem?_take, if_pos hjk]; exact hx, hi.keep hb⟩
  · rw [List.getElem?_append_right (by omega), List.getElem?_drop] at hv
    obtain ⟨A', n', c', xs, e1, hx, hi⟩ := hr _ v hv
    exact ⟨A', n', c', xs, e1, by rw [List.getElem?_append_right (by rw [← htl]; omega), List.getElem?_drop, ← htl]; exact hx, hi.keep hb⟩

theorem of_same (x : Int) (w : World) (h1 : -9223372036854775807 ≤ x) (h2 : x ≤ 9223372036854775807) : Calls Try.prog 24 #[.int .i64 x] w (fun e w' => e = .returned (.int .i64 x.natAbs) ∧ w' = w) := by
  by_cases h : x < 0
  · go_enter Try.func24, Try.ntmps24
    go_wp2_with fail
    go_ret
    exact ⟨ret_int (by omega), rfl⟩
  · go_enter Try.func24, Try.ntmps24
    go_wp2_with fail
    go_ret
    exact ⟨ret_int (by omega), rfl⟩

theorem bool_info : (Try.prog.info? 4).map (fun i => (i.zero, i.size, i.bytes)) = some (some (.bool false), 1, 1) := by kernel_rfl
theorem row_info : (Try.prog.info? 26).map (fun i => (i.zero, i.size, i.bytes)) = some (some (.slice none 0 0), 1, 24) := by kernel_rfl

set_option maxHeartbeats 8000000 in
set_option maxRecDepth 100000 in
theorem elimBlocked_walk {vars i : Int} {A B : Option Addr} {n c m d : Nat} {xss : List (List Int)} {a : List Bool} (w : World) (hv : I64 vars) (h : Grid w A n c xss) (hi64 : I64 i) (h' : Bools w B m d a) :
    Calls Try.prog 4 #[.agg #[.int .i64 vars, .slice A n c], .int .i64 i, .slice B m d] w fun e w' => e = .returned (.bool true) ∧ Below w.heap.size w w' := by
  have hbd := h.bd
  have hbd' := h'.bd
  have hlen := Lib.hid h.len
  have hlen' := Lib.hid h'.len
  have G := Lib.hid h
  have BA := Lib.hid h'
  obtain ⟨i0, hi0, hz0, hz1, hz2⟩ := info_parts int_info
  obtain ⟨r1, r2, hr⟩ : ∃ r1 r2, Hid (checkC vars xss = (r1, r2)) := ⟨_, _, rfl⟩
  have _h6 := hi64
  clear h h'
  by_cases hr1 : r1 = 0
  · subst hr1
    obtain ⟨hr0, v0, v1, hn400, hrows⟩ := checkC_ok (vars := vars) (xss := xss) (by rw [hr.out])
    obtain rfl : r2 = 0 := by rw [hr.out] at hr0; simpa using hr0
    have HC : Hid (∀ x ∈ xss, Lits vars x) := fun x hx => (hrows x hx).2
    have hn4 : n ≤ 400 := by rw [← hlen.out]; exact hn400
    clear hr0 hrows
    by_cases hout : i < 0 ∨ (n : Int) ≤ i
    · skip
      go_enter Try.func4, Try.ntmps4
      go_wp2_with fail
      refine (blocked_out _ _ _ xss vars i _ (G.out.keep (below_new _ _)) hv hr hout).mono ?_
      rintro e w2 ⟨rfl, hb2⟩
      obtain ⟨K_c0, B_w2, l_w2⟩ := blk1 hb2
      replace G := Lib.hid (G.out.keep B_w2)
      replace BA := Lib.hid (BA.out.keep B_w2)
      have HB := Lib.hid B_w2
      have K_c := Lib.hid K_c0
      clear hb2 B_w2 K_c0
      have cK_c_0 := K_c.out.cell 0
      have cK_c_1 := K_c.out.cell 1
      simp at cK_c_0 cK_c_1
      have zK_c := K_c.out.lt
      go_wp2_with fail
      refine (pair_any _).mono ?_
      rintro e w4 ⟨A5, n5, c5, rfl, hG5, hb4⟩
      obtain ⟨K_f0, B_w4, l_w4⟩ := blk1 hb4
      replace G := Lib.hid (G.out.keep B_w4)
      replace BA := Lib.hid (BA.out.keep B_w4)
      replace K_c := Lib.hid (K_c.out.keep B_w4)
      replace HB := Lib.hid (below_next HB.out B_w4)
      have K_f := Lib.hid K_f0
      clear hb4 B_w4 K_f0
      clear cK_c_0 cK_c_1 zK_c
      have cK_c_0 := K_c.out.cell 0
      have cK_c_1 := K_c.out.cell 1
      simp at cK_c_0 cK_c_1
      have zK_c := K_c.out.lt
      have cK_f_0 := K_f.out.cell 0
      have cK_f_1 := K_f.out.cell 1
      simp at cK_f_0 cK_f_1
      have zK_f := K_f.out.lt
      have GP := Lib.hid hG5
      clear hG5
      go_wp2_with fail
      refine (blocked_own _ _ _ 0 [[1, 2], [-1]] [1, 2] 2 _ GP.out ⟨by omega, by omega⟩ (by show _ = _; decide) rfl).mono ?_
      rintro e w5 ⟨L5, n5', c5', rfl, hI5, hb5⟩
      have B_w5 := hb5
      replace G := Lib.hid (G.out.keep B_w5)
      replace BA := Lib.hid (BA.out.keep B_w5)
      replace GP := Lib.hid (GP.out.keep B_w5)
      replace K_c := Lib.hid (K_c.out.keep B_w5)
      replace K_f := Lib.hid (K_f.out.keep B_w5)
      replace HB := Lib.hid (below_next HB.out B_w5)
      clear hb5 B_w5
      clear cK_c_0 cK_c_1 zK_c cK_f_0 cK_f_1 zK_f
      have cK_c_0 := K_c.out.cell 0
      have cK_c_1 := K_c.out.cell 1
      simp at cK_c_0 cK_c_1
      have zK_c := K_c.out.lt
      have cK_f_0 := K_f.out.cell 0
      have cK_f_1 := K_f.out.cell 1
      simp at cK_f_0 cK_f_1
      have zK_f := K_f.out.lt
      have IO : Hid (Ints w5 L5 n5' c5' [2]) := hI5
      clear hI5
      go_wp2_with fail
      refine (same_any _ _ _ _ _ _ [2] [2] _ (IO.out.keep (below_alloc (below_new _ _) _)) (ints_made _ 3 [2] (by simp) (by simp [I64]) (by decide)) true (by show _ = _; rfl)).mono ?_
      rintro e w6 hq6
      obtain ⟨rfl, hb6⟩ := hq6.v
      clear hq6
      obtain ⟨K_g0, K_o0, B_w6, l_w6⟩ := two_blks hb6
      replace G := Lib.hid (G.out.keep B_w6)
      replace BA := Lib.hid (BA.out.keep B_w6)
      replace GP := Lib.hid (GP.out.keep B_w6)
      replace IO := Lib.hid (IO.out.keep B_w6)
      replace K_c := Lib.hid (K_c.out.keep B_w6)
      replace K_f := Lib.hid (K_f.out.keep B_w6)
      replace HB := Lib.hid (below_next HB.out B_w6)
      have K_g := Lib.hid K_g0
      have K_o := Lib.hid K_o0
      clear hb6 B_w6 K_g0 K_o0
      clear cK_c_0 cK_c_1 zK_c cK_f_0 cK_f_1 zK_f
      have cK_c_0 := K_c.out.cell 0
      have cK_c_1 := K_c.out.cell 1
      simp at cK_c_0 cK_c_1
      have zK_c := K_c.out.lt
      have cK_f_0 := K_f.out.cell 0
      have cK_f_1 := K_f.out.cell 1
      simp at cK_f_0 cK_f_1
      have zK_f := K_f.out.lt
      have cK_g_0 := K_g.out.cell 0
      have cK_g_1 := K_g.out.cell 1
      simp at cK_g_0 cK_g_1
      have zK_g := K_g.out.lt
      have cK_o_0 := K_o.out.cell 0
      simp at cK_o_0
      have zK_o := K_o.out.lt
      go_wp2_with fail
      go_ret
      exact ⟨rfl, HB.out⟩
    · obtain ⟨k, rfl⟩ : ∃ k : Nat, i = k := ⟨i.toNat, by omega⟩
      have hin : k < n := by omega
      have dn : decide ((k : Int) < 0) = false := decide_eq_false (by omega)
      have dge : decide ((n : Int) ≤ (k : Int)) = false := decide_eq_false (by omega)
      have dge2 : decide (n ≤ k) = false := decide_eq_false (by omega)
      obtain ⟨ci, hci⟩ : ∃ ci, Hid (xss[k]? = some ci) := ⟨xss[k]'(by rw [hlen.out]; exact hin), List.getElem?_eq_getElem _⟩
      by_cases hmv : (m : Int) = vars
      · subst hmv
        have HI : Hid (∀ x ∈ xss, InLits m x) := fun x hx => (HC.out x hx).inLits rfl
        have HIC : Hid (InLits m ci) := HI.out ci (List.mem_of_getElem? hci.out)
        go_enter Try.func4, Try.ntmps4
        go_wp2_with fail
        refine (blocked_own _ _ _ k xss ci (m : Int) _ (G.out.keep (below_new _ _)) hv hr hci).mono ?_
        rintro e w2 ⟨L, nL, cL, rfl, hI2, hb2⟩
        obtain ⟨K_c0, B_w2, l_w2⟩ := blk1 hb2
        replace G := Lib.hid (G.out.keep B_w2)
        replace BA := Lib.hid (BA.out.keep B_w2)
        have HB := Lib.hid B_w2
        have K_c := Lib.hid K_c0
        clear hb2 B_w2 K_c0
        have cK_c_0 := K_c.out.cell 0
        have cK_c_1 := K_c.out.cell 1
        simp at cK_c_0 cK_c_1
        have zK_c := K_c.out.lt
        have IL := Lib.hid hI2
        have hbL := hI2.bd
        clear hI2
        go_wp2_with fail
        refine (pair_any _).mono ?_
        rintro e w4 ⟨A5, n5, c5, rfl, hG5, hb4⟩
        obtain ⟨K_f0, B_w4, l_w4⟩ := blk1 hb4
        replace G := Lib.hid (G.out.keep B_w4)
        replace BA := Lib.hid (BA.out.keep B_w4)
        replace IL := Lib.hid (IL.out.keep B_w4)
        replace K_c := Lib.hid (K_c.out.keep B_w4)
        replace HB := Lib.hid (below_next HB.out B_w4)
        have K_f := Lib.hid K_f0
        clear hb4 B_w4 K_f0
        clear cK_c_0 cK_c_1 zK_c
        have cK_c_0 := K_c.out.cell 0
        have cK_c_1 := K_c.out.cell 1
        simp at cK_c_0 cK_c_1
        have zK_c := K_c.out.lt
        have cK_f_0 := K_f.out.cell 0
        have cK_f_1 := K_f.out.cell 1
        simp at cK_f_0 cK_f_1
        have zK_f := K_f.out.lt
        have GP := Lib.hid hG5
        clear hG5
        go_wp2_with fail
        refine (blocked_own _ _ _ 0 [[1, 2], [-1]] [1, 2] 2 _ GP.out ⟨by omega, by omega⟩ (by show _ = _; decide) rfl).mono ?_
        rintro e w5 ⟨L5, n5', c5', rfl, hI5, hb5⟩
        have B_w5 := hb5
        replace G := Lib.hid (G.out.keep B_w5)
        replace BA := Lib.hid (BA.out.keep B_w5)
        replace IL := Lib.hid (IL.out.keep B_w5)
        replace GP := Lib.hid (GP.out.keep B_w5)
        replace K_c := Lib.hid (K_c.out.keep B_w5)
        replace K_f := Lib.hid (K_f.out.keep B_w5)
        replace HB := Lib.hid (below_next HB.out B_w5)
        clear hb5 B_w5
        clear cK_c_0 cK_c_1 zK_c cK_f_0 cK_f_1 zK_f
        have cK_c_0 := K_c.out.cell 0
        have cK_c_1 := K_c.out.cell 1
        simp at cK_c_0 cK_c_1
        have zK_c := K_c.out.lt
        have cK_f_0 := K_f.out.cell 0
        have cK_f_1 := K_f.out.cell 1
        simp at cK_f_0 cK_f_1
        have zK_f := K_f.out.lt
        have IO : Hid (Ints w5 L5 n5' c5' [2]) := hI5
        clear hI5
        go_wp2_with fail
        refine (same_any _ _ _ _ _ _ [2] [2] _ (IO.out.keep (below_alloc (below_new _ _) _)) (ints_made _ 3 [2] (by simp) (by simp [I64]) (by decide)) true (by show _ = _; rfl)).mono ?_
        rintro e w6 hq6
        obtain ⟨rfl, hb6⟩ := hq6.v
        clear hq6
        obtain ⟨K_g0, K_o0, B_w6, l_w6⟩ := two_blks hb6
        replace G := Lib.hid (G.out.keep B_w6)
        replace BA := Lib.hid (BA.out.keep B_w6)
        replace IL := Lib.hid (IL.out.keep B_w6)
        replace GP := Lib.hid (GP.out.keep B_w6)
        replace IO := Lib.hid (IO.out.keep B_w6)
        replace K_c := Lib.hid (K_c.out.keep B_w6)
        replace K_f := Lib.hid (K_f.out.keep B_w6)
        replace HB := Lib.hid (below_next HB.out B_w6)
        have K_g := Lib.hid K_g0
        have K_o := Lib.hid K_o0
        clear hb6 B_w6 K_g0 K_o0
        clear cK_c_0 cK_c_1 zK_c cK_f_0 cK_f_1 zK_f
        have cK_c_0 := K_c.out.cell 0
        have cK_c_1 := K_c.out.cell 1
        simp at cK_c_0 cK_c_1
        have zK_c := K_c.out.lt
        have cK_f_0 := K_f.out.cell 0
        have cK_f_1 := K_f.out.cell 1
        simp at cK_f_0 cK_f_1
        have zK_f := K_f.out.lt
        have cK_g_0 := K_g.out.cell 0
        have cK_g_1 := K_g.out.cell 1
        simp at cK_g_0 cK_g_1
        have zK_g := K_g.out.lt
        have cK_o_0 := K_o.out.cell 0
        simp at cK_o_0
        have zK_o := K_o.out.lt
        by_cases hn0 : nL = 0
        · subst hn0
          go_wp2_with fail
          go_ret
          exact ⟨rfl, HB.out⟩
        · have dn0 : ((nL : Int) == 0) = false := by simpa using hn0
          obtain ⟨b0, off, A', n', c', xs', hAe, hb, hcell, hi', hxs⟩ := G.out.round hin
          subst hAe
          obtain rfl : xs' = ci := by have := hxs.out; rw [hci.out] at this; cases this; rfl
          have HCI := Lib.hid hi'
          clear hxs hi'
          obtain ⟨j0, hj0, hj1, hj2, hj3⟩ := info_parts row_info
          obtain ⟨vs, hsl, hvl, hvr⟩ := G.out
          have HSL := Lib.hid hsl
          have HVL := Lib.hid hvl
          have HVR := Lib.hid hvr
          have HONE : Hid (∀ u ∈ vs, u.oneCell' = true) := fun u hu => (by obtain ⟨jj, hjj⟩ := List.mem_iff_getElem?.1 hu; obtain ⟨A9, n9, c9, xs9, e9, _⟩ := HVR.out jj u hjj; rw [e9]; rfl)
          clear hsl hvl hvr
          have yk0 : (0 : Int) ≤ (k : Int) := by omega
          have yk1 : (k : Int) ≤ (n : Int) := by omega
          have yk2 : (k : Int) + 1 ≤ (n : Int) := by omega
          have ykc : (k : Int) ≤ (c : Int) := by omega
          obtain ⟨p, hp⟩ : ∃ p : Nat, p = k + 1 := ⟨_, rfl⟩
          have hwr : IntKind.i64.wrap ((k : Int) + 1) = (p : Int) := by rw [IntWalk.i64_in _ (by omega)]; omega
          have hp1 : p ≤ k + 1 := by omega
          have hp2 : k + 1 ≤ p := by omega
          clear hp
          have yp0 : (0 : Int) ≤ (p : Int) := by omega
          have yp1 : (p : Int) ≤ (n : Int) := by omega
          by_cases hcp : c = p
          · subst hcp
            obtain rfl : n = c := by omega
            have HTK := Lib.hid (HSL.out.take (k := k) (by omega))
            have HDR : Hid (Sl w6 (some ⟨b0, off, none⟩) 0 0 (vs.drop n)) := by rw [List.drop_of_length_le (by rw [HSL.out.len]; omega)]; exact Sl.nilAny (Nat.zero_le _)
            go_wp2_with fail
            have hS : w6.drew.cell? ⟨w.heap.size, 1, none⟩ = some (.slice (some ⟨b0, off, none⟩) n n) := keepBox (below_drewN w6 1) cK_c_1
            refine wp_region_tail (fun w' => w'.cell? ⟨w.heap.size, 1, none⟩ = some (.slice (some ⟨b0, off, none⟩) n n)) [] (by kernel_rfl) ?_
            refine take0 (i := 1) (oi := _) (v := ?_) rfl (by kernel_rfl) (by kernel_rfl) (by kernel_rfl) (fun _ _ _ h => h) rfl (Or.inl ⟨by rfl, ?_⟩) (fun _ => hS) ?_
            rotate_left
            · intro w0; go_simp; with_reducible rfl
            (try simp only [Act.put, List.setIfInBounds_toArray, List.set_cons_zero, List.set_cons_succ])
            refine takeS (i := 2) (oi := _) (v := ?_) rfl (by kernel_rfl) (by kernel_rfl) (by kernel_rfl) (fun _ _ _ h => h) rfl (by kernel_rfl) (by kernel_rfl) (Or.inl ⟨by rfl, ?_⟩) hS ?_
            rotate_left
            · intro w0 hSw; (try dsimp only at hSw); go_simp; with_reducible rfl
            (try simp only [Act.put, List.setIfInBounds_toArray, List.set_cons_zero, List.set_cons_succ])
            refine take0 (i := 3) (oi := _) (v := ?_) rfl (by kernel_rfl) (by kernel_rfl) (by kernel_rfl) (fun _ _ _ h => h) rfl (Or.inl ⟨by rfl, ?_⟩) (fun _ => hS) ?_
            rotate_left
            · intro w0; go_simp; with_reducible rfl
            (try simp only [Act.put, List.setIfInBounds_toArray, List.set_cons_zero, List.set_cons_succ])
            refine take0 (i := 4) (oi := _) (v := ?_) rfl (by kernel_rfl) (by kernel_rfl) (by kernel_rfl) (fun _ _ _ h => h) rfl (Or.inl ⟨by rfl, ?_⟩) (fun _ => hS) ?_
            rotate_left
            · intro w0; go_simp; with_reducible rfl
            (try simp only [Act.put, List.setIfInBounds_toArray, List.set_cons_zero, List.set_cons_succ])
            refine take0 (i := 6) (oi := _) (v := ?_) rfl (by kernel_rfl) (by kernel_rfl) (by kernel_rfl) (fun _ _ _ h => h) rfl (Or.inl ⟨by rfl, ?_⟩) (fun _ => hS) ?_
            rotate_left
            · intro w0; go_simp; with_reducible rfl
            (try simp only [Act.put, List.setIfInBounds_toArray, List.set_cons_zero, List.set_cons_succ])
            refine takeS (i := 7) (oi := _) (v := ?_) rfl (by kernel_rfl) (by kernel_rfl) (by kernel_rfl) (fun _ _ _ h => h) rfl (by kernel_rfl) (by kernel_rfl) (Or.inl ⟨by rfl, ?_⟩) hS ?_
            rotate_left
            · intro w0 hSw; (try dsimp only at hSw); go_simp; with_reducible rfl
            (try simp only [Act.put, List.setIfInBounds_toArray, List.set_cons_zero, List.set_cons_succ])
            refine take0 (i := 8) (oi := _) (v := ?_) rfl (by kernel_rfl) (by kernel_rfl) (by kernel_rfl) (fun _ _ _ h => h) rfl (Or.inl ⟨by rfl, ?_⟩) (fun _ => hS) ?_
            rotate_left
            · intro w0; go_simp; with_reducible rfl
            (try simp only [Act.put, List.setIfInBounds_toArray, List.set_cons_zero, List.set_cons_succ])
            refine take0 (i := 9) (oi := _) (v := ?_) rfl (by kernel_rfl) (by kernel_rfl) (by kernel_rfl) (fun _ _ _ h => h) rfl (Or.inl ⟨by rfl, ?_⟩) (fun _ => hS) ?_
            rotate_left
            · intro w0; go_simp; with_reducible rfl
            (try simp only [Act.put, List.setIfInBounds_toArray, List.set_cons_zero, List.set_cons_succ])
            (try rw [hwr])
            refine take0 (i := 10) (oi := _) (v := ?_) rfl (by kernel_rfl) (by kernel_rfl) (by kernel_rfl) (fun _ _ _ h => h) rfl (Or.inl ⟨by rfl, ?_⟩) (fun _ => hS) ?_
            rotate_left
            · intro w0; go_simp; with_reducible rfl
            (try simp only [Act.put, List.setIfInBounds_toArray, List.set_cons_zero, List.set_cons_succ])
            refine oneT (i := 0) (by kernel_rfl) rfl (by rfl) (fun K hK => ?_)
            go_simp
            have hS : ((w6.alloc (.cells #[] 26)).drew).cell? ⟨w.heap.size, 1, none⟩ = some (.slice (some ⟨b0, off, none⟩) n n) := keepBox (below_drew1 (below_new w6 _)) cK_c_1
            refine hK _ _ (fun _ => hS) ?_
            clear hK
            (try simp only [Act.put, List.setIfInBounds_toArray, List.set_cons_zero, List.set_cons_succ])
            refine oneT (i := 5) (by kernel_rfl) rfl (by rfl) (fun K hK => ?_)
            refine wp_append_sl _ (.tmp 59) (.tmp 63) 22 rfl w6.heap.size 26 j0 _ 24 Try.underlying22 hj0 hj1 hj2 hj3 rfl (some ⟨w6.heap.size, 0, none⟩) 0 0 [] rfl (own_empty 26 w6 w6.heap.size rfl (Nat.le_refl _)).drew1 (some ⟨b0, off, none⟩) k n (vs.take k) rfl (HTK.out.keep (below_drew1 (below_new w6 _))) (fun u hu => HONE.out u (List.mem_of_mem_take hu)) (by simp only [maxLen]; omega) (by omega) (by simp) ?_
            intro L1 cL1 w1' hO1 hG1 hA1
            have HB1 := Lib.hid (below_grown (below_drew1 (below_new w6 _)) (own_empty 26 w6 w6.heap.size rfl (Nat.le_refl _)).drew1 (Nat.le_refl _) hG1)
            have HO1 : Hid (Own 26 w1' w6.heap.size L1 k cL1 (vs.take k)) := by simpa [Hid] using hO1
            have lw1 := HB1.out.size
            clear hO1 hG1 hA1
            have hS : w1'.cell? ⟨w.heap.size, 1, none⟩ = some (.slice (some ⟨b0, off, none⟩) n n) := keepBox HB1.out cK_c_1
            refine hK _ _ (fun _ => hS) ?_
            clear hK
            (try simp only [Act.put, List.setIfInBounds_toArray, List.set_cons_zero, List.set_cons_succ])
            (try simp only [Nat.zero_add])
            refine oneT (i := 11) (by kernel_rfl) rfl (by rfl) (fun K hK => ?_)
            refine wp_append_sl _ (.tmp 64) (.tmp 69) 22 rfl w6.heap.size 26 j0 _ 24 Try.underlying22 hj0 hj1 hj2 hj3 rfl L1 k cL1 _ rfl HO1.out (some ⟨b0, off, none⟩) 0 0 (vs.drop n) rfl (HDR.out.keep HB1.out) (fun u hu => HONE.out u (List.mem_of_mem_drop hu)) (by simp only [maxLen]; omega) (by omega) lw1 ?_
            intro L2 cL2 w2' hO2 hG2 hA2
            have HB2 := Lib.hid (below_grown HB1.out HO1.out (Nat.le_refl _) hG2)
            have HO2 := Lib.hid hO2
            clear hO2 hG2 hA2
            have hS : w2'.cell? ⟨w.heap.size, 1, none⟩ = some (.slice (some ⟨b0, off, none⟩) n n) := keepBox HB2.out cK_c_1
            refine hK _ _ (fun _ => hS) ?_
            clear hK
            (try simp only [Act.put, List.setIfInBounds_toArray, List.set_cons_zero, List.set_cons_succ])
            refine take0 (i := 12) (oi := _) (v := ?_) rfl (by kernel_rfl) (by kernel_rfl) (by kernel_rfl) (fun _ _ _ h => h) rfl (Or.inl ⟨by rfl, ?_⟩) (fun _ => hS) ?_
            rotate_left
            · intro w0; go_simp; with_reducible rfl
            (try simp only [Act.put, List.setIfInBounds_toArray, List.set_cons_zero, List.set_cons_succ])
            refine doneT (by kernel_rfl) ?_ _
            have GR : Hid (Grid w2' L2 (k + 0) cL2 (xss.take k ++ xss.drop (k + 1))) := grid_rest HVL.out HVR.out HB2.out (by rw [show k + 1 = n by omega]; exact HO2.out.sl)
            have HBX := Lib.hid (below_next HB.out HB2.out)
            have e0 := keepBox HB2.out cK_c_0
            have e2 := keepBox HB2.out hcell
            have GW := Lib.hid (G.out.keep HB2.out)
            have BAW := Lib.hid (BA.out.keep HB2.out)
            have ILW := Lib.hid (IL.out.keep HB2.out)
            have CIW := Lib.hid (HCI.out.keep HB2.out)
            have zw2 : w.heap.size < w2'.heap.size := (cell_lt e0).1
            obtain ⟨qa, hqa⟩ : ∃ qa, Hid (allB (xss.take k ++ xss.drop (k + 1)) a = qa) := ⟨_, rfl⟩
            obtain ⟨qs, hqs⟩ : ∃ qs, Hid (satB a xs' = qs) := ⟨_, rfl⟩
            have HIR : Hid (∀ x ∈ xss.take k ++ xss.drop (k + 1), InLits m x) := fun x hx => (by
              rcases List.mem_append.1 hx with hx | hx
              · exact HI.out x (List.mem_of_mem_take hx)
              · exact HI.out x (List.mem_of_mem_drop hx))
            clear hcell HB1 HO1 HTK HDR
            go_wp2_with fail
            refine (all_ref _ _ _ _ _ _ _ a _ GR.out BAW.out HIR.out qa hqa).mono ?_
            rintro e w7 hq7
            obtain ⟨rfl, hb7⟩ := hq7.v
            clear hq7
            have d0 := keepBox hb7 e0
            have d1 := keepBox hb7 hS
            have d2 := keepBox hb7 e2
            have zw7 : w.heap.size < w7.heap.size := (cell_lt d0).1
            have HB7 := Lib.hid (below_next HBX.out hb7)
            have HBb7 := Lib.hid hb7
            clear hb7
            cases qa
            · go_wp2_with fail
              go_ret
              exact ⟨rfl, HB7.out⟩
            · go_wp2_with fail
              refine (sat_ref _ _ _ _ _ _ xs' a _ (CIW.out.keep HBb7.out) (BAW.out.keep HBb7.out) HIC.out qs hqs).mono ?_
              rintro e w8 hq8
              obtain ⟨rfl, hb8⟩ := hq8.v
              clear hq8
              have HB8 := Lib.hid (below_next HB7.out hb8)
              cases qs
              · have F0 := keepBox hb8 d0
                have F1 := keepBox hb8 d1
                have GW8 := Lib.hid ((GW.out.keep HBb7.out).keep hb8)
                have BA8 := Lib.hid ((BAW.out.keep HBb7.out).keep hb8)
                have IL8 := Lib.hid ((ILW.out.keep HBb7.out).keep hb8)
                have HREST : Hid (∀ x ∈ xss, x ≠ xs' → satB a x = true) := rest_sat hci.out hqa.out
                obtain ⟨jb, hk0, hk1, hk2, hk3⟩ := info_parts bool_info
                clear hb8 hj0 hj1 hj2 hj3
                go_wp2_with fail
                go_loopw [12] (fun i wr => ∃ t : Nat, t ≤ nL ∧ i = .int .i64 t ∧ Hid (Below w8.heap.size w8 wr)) (fun i _ => nL - (intOf i).toNat)
                case atStart => exact ⟨0, Nat.zero_le _, rfl, Below.refl _ _⟩
                case round =>
                  obtain ⟨t, ht, rfl, hbl⟩ := hrel
                  obtain ⟨wo, hwo⟩ : ∃ wo : World, wo = wr := ⟨_, rfl⟩
                  subst hwo
                  have o0 := keepBox hbl.out F0
                  have o1 := keepBox hbl.out F1
                  have zo : w.heap.size < wo.heap.size := (cell_lt o0).1
                  by_cases hlt : t < nL
                  · obtain ⟨b3, off3, l, hLe, hb3, hcell3, l1, l2, hlk⟩ := (IL8.out.keep hbl.out).round hlt
                    subst hLe
                    have hlm := List.mem_of_getElem? hlk.out
                    have hli := HIC.out l (blk_mem hlm).1
                    obtain ⟨u, hu⟩ : ∃ u, l.natAbs = u + 1 := ⟨l.natAbs - 1, by omega⟩
                    have hum : u < m := by omega
                    have HFLIP : Hid (allB xss (a.set u (decide (0 < l))) = true) := by have := blk_flip hlen'.out HI.out HIC.out hlm HREST.out hqs.out; rw [hu] at this; exact this
                    have HOFQ : Hid (∀ W, Calls Try.prog 24 #[.int .i64 l] W (RetQ (.int .i64 ((u : Int) + 1)) W)) := fun W => by
                      have := of_any l W (by omega) (by omega)
                      rw [hu] at this
                      exact this
                    have HOF2 : Hid (∀ W, Calls Try.prog 24 #[.int .i64 l] W (fun e w' => e = .returned (.int .i64 ((u : Int) + 1)) ∧ w' = W)) := fun W => by
                      have := of_same l W (by omega) (by omega)
                      rw [hu] at this
                      exact this
                    have dz : (l == 0) = false := by simpa using hli.1
                    have dm : decide ((m : Int) < (u : Int) + 1) = false := decide_eq_false (by omega)
                    have dm2 : decide (m < u + 1) = false := decide_eq_false (by omega)
                    have x1 : (0 : Int) ≤ (t : Int) := by omega
                    have x2 : (t : Int) < (nL : Int) := by omega
                    have z4 : (0 : Int) ≤ (u : Int) := by omega
                    have z3 : (u : Int) < (m : Int) := by omega
                    have z5 : (u : Int) + 1 - 1 = (u : Int) := by omega
                    have z7 : IntKind.i64.wrap (u : Int) = (u : Int) := by rw [IntKind.wrap_i64]; omega
                    clear hlm hu hli
                    go_wp2_with fail
                    go_quiet ((go_at_call 24; exact RetQ.quiet (HOFQ.out _)))
                    obtain ⟨wq, hwq⟩ : ∃ wq : World, wq = wo.drewN nq := ⟨_, rfl⟩
                    have hbq : Below wo.heap.size wo wq := by rw [hwq]; exact below_drewN _ _
                    rw [← hwq]
                    have bo0 := keepBox hbq o0
                    have bo1 := keepBox hbq o1
                    have bc3 := keepBox hbq hcell3
                    have zq : w.heap.size < wq.heap.size := (cell_lt bo0).1
                    have zq3 : b3 < wq.heap.size := (cell_lt bc3).1
                    have BAQ := Lib.hid ((BA8.out.keep hbl.out).keep hbq)
                    have GQ := Lib.hid ((GW8.out.keep hbl.out).keep hbq)
                    have BLQ := Lib.hid (below_next hbl.out hbq)
                    clear hwq hbq o0 o1 hcell3 F0 F1 d0 d1 d2
                    have hke := BAQ.out.keep (below_new wq (.cells #[] 4))
                    have HKE := Lib.hid hke
                    clear hke
                    go_wp2_with (first
                      | (at_builtin
                         refine wpList_append_sl _ rfl (.tmp 105) (.tmp 106) _ rfl wq.heap.size 4 jb _ 1 Try.underlying38 hk0 hk1 hk2 hk3 rfl (some ⟨wq.heap.size, 0, none⟩) 0 0 [] rfl (own_empty _ _ _ rfl (Nat.le_refl _)) B m d _ rfl HKE.out (bools_one _) (by simp only [maxLen]; omega) (by omega) (by simp) ?_
                         intro B2 d2' w9 hown hg hat
                         have HOWN := Lib.hid hown
                         have HBU := Lib.hid (below_grown (below_new wq _) (own_empty 4 wq wq.heap.size rfl (Nat.le_refl _)) (Nat.le_refl _) hg)
                         clear hown hg hat))
                    have HOW : Hid (Own 4 w9 wq.heap.size B2 m d2' (a.map Value.bool)) := by have := HOWN.out; simpa [Hid] using this
                    obtain ⟨g, uu, rfl, hg1, hg2, hcu, hfu, hxu⟩ := HOW.out.at_ hum
                    have p0 := keepBox HBU.out bo0
                    have p1 := keepBox HBU.out bo1
                    have p3 := keepBox HBU.out bc3
                    have zg : ¬ g = w.heap.size := by omega
                    have zg2 : ¬ w.heap.size = g := by omega
                    have zg3 : w.heap.size < w9.heap.size := (cell_lt p0).1
                    have HBZ := Lib.hid (below_next (HBU.out.setCell (p := ⟨g, u, none⟩) hg1 (.bool (decide (0 < l)))) (below_drewN _ 1))
                    have OWZ := Lib.hid ((HOW.out.set_ u (.bool (decide (0 < l)))).keep (below_drewN _ 1))
                    have BZ : Hid (Bools ((w9.setCell ⟨g, u, none⟩ (.bool (decide (0 < l)))).drewN 1) (some ⟨g, 0, none⟩) m d2' (a.set u (decide (0 < l)))) := by have := OWZ.out.sl; rw [← List.map_set] at this; exact this
                    have cz1 := keepBox HBZ.out bo1
                    clear HOWN bo0 bo1 bc3
                    go_wp2_with fail
                    go_region_with (first
                      | (go_at_call 24; refine (HOF2.out _).mono ?_; rintro e w' ⟨rfl, rfl⟩))
                    all_goals
                      go_wp2_with fail
                      refine (all_ref _ _ _ _ _ _ xss _ _ (GQ.out.keep HBZ.out) BZ.out HI.out true HFLIP).mono ?_
                      rintro e wy hqy
                      obtain ⟨rfl, hby⟩ := hqy.v
                      clear hqy
                      go_wp2_with fail
                      go_roundw
                      case rel => exact ⟨t + 1, by omega, by go_num, below_next (below_next BLQ.out HBZ.out) hby⟩
                      case measure => simp [intOf]; omega
                  · go_wp2_with fail
                    go_ret
                    exact ⟨rfl, below_next HB8.out hbl.out⟩
              · go_wp2_with fail
                go_ret
                exact ⟨rfl, HB8.out⟩
          · have y7 : (c : Int) ≠ (p : Int) := by omega
            have HTK := Lib.hid (HSL.out.take (k := k) (by omega))
            have HDR : Hid (Sl w6 (some ⟨b0, off + p, none⟩) (n - p) (c - p) (vs.drop p)) := HSL.out.drop (by omega)
            go_wp2_with fail
            have hS : w6.drew.cell? ⟨w.heap.size, 1, none⟩ = some (.slice (some ⟨b0, off, none⟩) n c) := keepBox (below_drewN w6 1) cK_c_1
            refine wp_region_tail (fun w' => w'.cell? ⟨w.heap.size, 1, none⟩ = some (.slice (some ⟨b0, off, none⟩) n c)) [] (by kernel_rfl) ?_
            refine take0 (i := 1) (oi := _) (v := ?_) rfl (by kernel_rfl) (by kernel_rfl) (by kernel_rfl) (fun _ _ _ h => h) rfl (Or.inl ⟨by rfl, ?_⟩) (fun _ => hS) ?_
            rotate_left
            · intro w0; go_simp; with_reducible rfl
            (try simp only [Act.put, List.setIfInBounds_toArray, List.set_cons_zero, List.set_cons_succ])
            refine takeS (i := 2) (oi := _) (v := ?_) rfl (by kernel_rfl) (by kernel_rfl) (by kernel_rfl) (fun _ _ _ h => h) rfl (by kernel_rfl) (by kernel_rfl) (Or.inl ⟨by rfl, ?_⟩) hS ?_
            rotate_left
            · intro w0 hSw; (try dsimp only at hSw); go_simp; with_reducible rfl
            (try simp only [Act.put, List.setIfInBounds_toArray, List.set_cons_zero, List.set_cons_succ])
            refine take0 (i := 3) (oi := _) (v := ?_) rfl (by kernel_rfl) (by kernel_rfl) (by kernel_rfl) (fun _ _ _ h => h) rfl (Or.inl ⟨by rfl, ?_⟩) (fun _ => hS) ?_
            rotate_left
            · intro w0; go_simp; with_reducible rfl
            (try simp only [Act.put, List.setIfInBounds_toArray, List.set_cons_zero, List.set_cons_succ])
            refine take0 (i := 4) (oi := _) (v := ?_) rfl (by kernel_rfl) (by kernel_rfl) (by kernel_rfl) (fun _ _ _ h => h) rfl (Or.inl ⟨by rfl, ?_⟩) (fun _ => hS) ?_
            rotate_left
            · intro w0; go_simp; with_reducible rfl
            (try simp only [Act.put, List.setIfInBounds_toArray, List.set_cons_zero, List.set_cons_succ])
            refine take0 (i := 6) (oi := _) (v := ?_) rfl (by kernel_rfl) (by kernel_rfl) (by kernel_rfl) (fun _ _ _ h => h) rfl (Or.inl ⟨by rfl, ?_⟩) (fun _ => hS) ?_
            rotate_left
            · intro w0; go_simp; with_reducible rfl
            (try simp only [Act.put, List.setIfInBounds_toArray, List.set_cons_zero, List.set_cons_succ])
            refine takeS (i := 7) (oi := _) (v := ?_) rfl (by kernel_rfl) (by kernel_rfl) (by kernel_rfl) (fun _ _ _ h => h) rfl (by kernel_rfl) (by kernel_rfl) (Or.inl ⟨by rfl, ?_⟩) hS ?_
            rotate_left
            · intro w0 hSw; (try dsimp only at hSw); go_simp; with_reducible rfl
            (try simp only [Act.put, List.setIfInBounds_toArray, List.set_cons_zero, List.set_cons_succ])
            refine take0 (i := 8) (oi := _) (v := ?_) rfl (by kernel_rfl) (by kernel_rfl) (by kernel_rfl) (fun _ _ _ h => h) rfl (Or.inl ⟨by rfl, ?_⟩) (fun _ => hS) ?_
            rotate_left
            · intro w0; go_simp; with_reducible rfl
            (try simp only [Act.put, List.setIfInBounds_toArray, List.set_cons_zero, List.set_cons_succ])
            refine take0 (i := 9) (oi := _) (v := ?_) rfl (by kernel_rfl) (by kernel_rfl) (by kernel_rfl) (fun _ _ _ h => h) rfl (Or.inl ⟨by rfl, ?_⟩) (fun _ => hS) ?_
            rotate_left
            · intro w0; go_simp; with_reducible rfl
            (try simp only [Act.put, List.setIfInBounds_toArray, List.set_cons_zero, List.set_cons_succ])
            (try rw [hwr])
            refine take0 (i := 10) (oi := _) (v := ?_) rfl (by kernel_rfl) (by kernel_rfl) (by kernel_rfl) (fun _ _ _ h => h) rfl (Or.inl ⟨by rfl, ?_⟩) (fun _ => hS) ?_
            rotate_left
            · intro w0; go_simp; with_reducible rfl
            (try simp only [Act.put, List.setIfInBounds_toArray, List.set_cons_zero, List.set_cons_succ])
            refine oneT (i := 0) (by kernel_rfl) rfl (by rfl) (fun K hK => ?_)
            go_simp
            have hS : ((w6.alloc (.cells #[] 26)).drew).cell? ⟨w.heap.size, 1, none⟩ = some (.slice (some ⟨b0, off, none⟩) n c) := keepBox (below_drew1 (below_new w6 _)) cK_c_1
            refine hK _ _ (fun _ => hS) ?_
            clear hK
            (try simp only [Act.put, List.setIfInBounds_toArray, List.set_cons_zero, List.set_cons_succ])
            refine oneT (i := 5) (by kernel_rfl) rfl (by rfl) (fun K hK => ?_)
            refine wp_append_sl _ (.tmp 59) (.tmp 63) 22 rfl w6.heap.size 26 j0 _ 24 Try.underlying22 hj0 hj1 hj2 hj3 rfl (some ⟨w6.heap.size, 0, none⟩) 0 0 [] rfl (own_empty 26 w6 w6.heap.size rfl (Nat.le_refl _)).drew1 (some ⟨b0, off, none⟩) k c (vs.take k) rfl (HTK.out.keep (below_drew1 (below_new w6 _))) (fun u hu => HONE.out u (List.mem_of_mem_take hu)) (by simp only [maxLen]; omega) (by omega) (by simp) ?_
            intro L1 cL1 w1' hO1 hG1 hA1
            have HB1 := Lib.hid (below_grown (below_drew1 (below_new w6 _)) (own_empty 26 w6 w6.heap.size rfl (Nat.le_refl _)).drew1 (Nat.le_refl _) hG1)
            have HO1 : Hid (Own 26 w1' w6.heap.size L1 k cL1 (vs.take k)) := by simpa [Hid] using hO1
            have lw1 := HB1.out.size
            clear hO1 hG1 hA1
            have hS : w1'.cell? ⟨w.heap.size, 1, none⟩ = some (.slice (some ⟨b0, off, none⟩) n c) := keepBox HB1.out cK_c_1
            refine hK _ _ (fun _ => hS) ?_
            clear hK
            (try simp only [Act.put, List.setIfInBounds_toArray, List.set_cons_zero, List.set_cons_succ])
            (try simp only [Nat.zero_add])
            refine oneT (i := 11) (by kernel_rfl) rfl (by rfl) (fun K hK => ?_)
            refine wp_append_sl _ (.tmp 64) (.tmp 69) 22 rfl w6.heap.size 26 j0 _ 24 Try.underlying22 hj0 hj1 hj2 hj3 rfl L1 k cL1 _ rfl HO1.out (some ⟨b0, off + p, none⟩) (n - p) (c - p) (vs.drop p) rfl (HDR.out.keep HB1.out) (fun u hu => HONE.out u (List.mem_of_mem_drop hu)) (by simp only [maxLen]; omega) (by omega) lw1 ?_
            intro L2 cL2 w2' hO2 hG2 hA2
            have HB2 := Lib.hid (below_grown HB1.out HO1.out (Nat.le_refl _) hG2)
            have HO2 := Lib.hid hO2
            clear hO2 hG2 hA2
            have hS : w2'.cell? ⟨w.heap.size, 1, none⟩ = some (.slice (some ⟨b0, off, none⟩) n c) := keepBox HB2.out cK_c_1
            refine hK _ _ (fun _ => hS) ?_
            clear hK
            (try simp only [Act.put, List.setIfInBounds_toArray, List.set_cons_zero, List.set_cons_succ])
            refine take0 (i := 12) (oi := _) (v := ?_) rfl (by kernel_rfl) (by kernel_rfl) (by kernel_rfl) (fun _ _ _ h => h) rfl (Or.inl ⟨by rfl, ?_⟩) (fun _ => hS) ?_
            rotate_left
            · intro w0; go_simp; with_reducible rfl
            (try simp only [Act.put, List.setIfInBounds_toArray, List.set_cons_zero, List.set_cons_succ])
            refine doneT (by kernel_rfl) ?_ _
            have GR : Hid (Grid w2' L2 (k + (n - p)) cL2 (xss.take k ++ xss.drop (k + 1))) := grid_rest HVL.out HVR.out HB2.out (by rw [show k + 1 = p by omega]; exact HO2.out.sl)
            have HBX := Lib.hid (below_next HB.out HB2.out)
            have e0 := keepBox HB2.out cK_c_0
            have e2 := keepBox HB2.out hcell
            have GW := Lib.hid (G.out.keep HB2.out)
            have BAW := Lib.hid (BA.out.keep HB2.out)
            have ILW := Lib.hid (IL.out.keep HB2.out)
            have CIW := Lib.hid (HCI.out.keep HB2.out)
            have zw2 : w.heap.size < w2'.heap.size := (cell_lt e0).1
            obtain ⟨qa, hqa⟩ : ∃ qa, Hid (allB (xss.take k ++ xss.drop (k + 1)) a = qa) := ⟨_, rfl⟩
            obtain ⟨qs, hqs⟩ : ∃ qs, Hid (satB a xs' = qs) := ⟨_, rfl⟩
            have HIR : Hid (∀ x ∈ xss.take k ++ xss.drop (k + 1), InLits m x) := fun x hx => (by
              rcases List.mem_append.1 hx with hx | hx
              · exact HI.out x (List.mem_of_mem_take hx)
              · exact HI.out x (List.mem_of_mem_drop hx))
            clear hcell HB1 HO1 HTK HDR
            go_wp2_with fail
            refine (all_ref _ _ _ _ _ _ _ a _ GR.out BAW.out HIR.out qa hqa).mono ?_
            rintro e w7 hq7
            obtain ⟨rfl, hb7⟩ := hq7.v
            clear hq7
            have d0 := keepBox hb7 e0
            have d1 := keepBox hb7 hS
            have d2 := keepBox hb7 e2
            have zw7 : w.heap.size < w7.heap.size := (cell_lt d0).1
            have HB7 := Lib.hid (below_next HBX.out hb7)
            have HBb7 := Lib.hid hb7
            clear hb7
            cases qa
            · go_wp2_with fail
              go_ret
              exact ⟨rfl, HB7.out⟩
            · go_wp2_with fail
              refine (sat_ref _ _ _ _ _ _ xs' a _ (CIW.out.keep HBb7.out) (BAW.out.keep HBb7.out) HIC.out qs hqs).mono ?_
              rintro e w8 hq8
              obtain ⟨rfl, hb8⟩ := hq8.v
              clear hq8
              have HB8 := Lib.hid (below_next HB7.out hb8)
              cases qs
              · have F0 := keepBox hb8 d0
                have F1 := keepBox hb8 d1
                have GW8 := Lib.hid ((GW.out.keep HBb7.out).keep hb8)
                have BA8 := Lib.hid ((BAW.out.keep HBb7.out).keep hb8)
                have IL8 := Lib.hid ((ILW.out.keep HBb7.out).keep hb8)
                have HREST : Hid (∀ x ∈ xss, x ≠ xs' → satB a x = true) := rest_sat hci.out hqa.out
                obtain ⟨jb, hk0, hk1, hk2, hk3⟩ := info_parts bool_info
                clear hb8 hj0 hj1 hj2 hj3
                go_wp2_with fail
                go_loopw [12] (fun i wr => ∃ t : Nat, t ≤ nL ∧ i = .int .i64 t ∧ Hid (Below w8.heap.size w8 wr)) (fun i _ => nL - (intOf i).toNat)
                case atStart => exact ⟨0, Nat.zero_le _, rfl, Below.refl _ _⟩
                case round =>
                  obtain ⟨t, ht, rfl, hbl⟩ := hrel
                  obtain ⟨wo, hwo⟩ : ∃ wo : World, wo = wr := ⟨_, rfl⟩
                  subst hwo
                  have o0 := keepBox hbl.out F0
                  have o1 := keepBox hbl.out F1
                  have zo : w.heap.size < wo.heap.size := (cell_lt o0).1
                  by_cases hlt : t < nL
                  · obtain ⟨b3, off3, l, hLe, hb3, hcell3, l1, l2, hlk⟩ := (IL8.out.keep hbl.out).round hlt
                    subst hLe
                    have hlm := List.mem_of_getElem? hlk.out
                    have hli := HIC.out l (blk_mem hlm).1
                    obtain ⟨u, hu⟩ : ∃ u, l.natAbs = u + 1 := ⟨l.natAbs - 1, by omega⟩
                    have hum : u < m := by omega
                    have HFLIP : Hid (allB xss (a.set u (decide (0 < l))) = true) := by have := blk_flip hlen'.out HI.out HIC.out hlm HREST.out hqs.out; rw [hu] at this; exact this
                    have HOFQ : Hid (∀ W, Calls Try.prog 24 #[.int .i64 l] W (RetQ (.int .i64 ((u : Int) + 1)) W)) := fun W => by
                      have := of_any l W (by omega) (by omega)
                      rw [hu] at this
                      exact this
                    have HOF2 : Hid (∀ W, Calls Try.prog 24 #[.int .i64 l] W (fun e w' => e = .returned (.int .i64 ((u : Int) + 1)) ∧ w' = W)) := fun W => by
                      have := of_same l W (by omega) (by omega)
                      rw [hu] at this
                      exact this
                    have dz : (l == 0) = false := by simpa using hli.1
                    have dm : decide ((m : Int) < (u : Int) + 1) = false := decide_eq_false (by omega)
                    have dm2 : decide (m < u + 1) = false := decide_eq_false (by omega)
                    have x1 : (0 : Int) ≤ (t : Int) := by omega
                    have x2 : (t : Int) < (nL : Int) := by omega
                    have z4 : (0 : Int) ≤ (u : Int) := by omega
                    have z3 : (u : Int) < (m : Int) := by omega
                    have z5 : (u : Int) + 1 - 1 = (u : Int) := by omega
                    have z7 : IntKind.i64.wrap (u : Int) = (u : Int) := by rw [IntKind.wrap_i64]; omega
                    clear hlm hu hli
                    go_wp2_with fail
                    go_quiet ((go_at_call 24; exact RetQ.quiet (HOFQ.out _)))
                    obtain ⟨wq, hwq⟩ : ∃ wq : World, wq = wo.drewN nq := ⟨_, rfl⟩
                    have hbq : Below wo.heap.size wo wq := by rw [hwq]; exact below_drewN _ _
                    rw [← hwq]
                    have bo0 := keepBox hbq o0
                    have bo1 := keepBox hbq o1
                    have bc3 := keepBox hbq hcell3
                    have zq : w.heap.size < wq.heap.size := (cell_lt bo0).1
                    have zq3 : b3 < wq.heap.size := (cell_lt bc3).1
                    have BAQ := Lib.hid ((BA8.out.keep hbl.out).keep hbq)
                    have GQ := Lib.hid ((GW8.out.keep hbl.out).keep hbq)
                    have BLQ := Lib.hid (below_next hbl.out hbq)
                    clear hwq hbq o0 o1 hcell3 F0 F1 d0 d1 d2
                    have hke := BAQ.out.keep (below_new wq (.cells #[] 4))
                    have HKE := Lib.hid hke
                    clear hke
                    go_wp2_with (first
                      | (at_builtin
                         refine wpList_append_sl _ rfl (.tmp 105) (.tmp 106) _ rfl wq.heap.size 4 jb _ 1 Try.underlying38 hk0 hk1 hk2 hk3 rfl (some ⟨wq.heap.size, 0, none⟩) 0 0 [] rfl (own_empty _ _ _ rfl (Nat.le_refl _)) B m d _ rfl HKE.out (bools_one _) (by simp only [maxLen]; omega) (by omega) (by simp) ?_
                         intro B2 d2' w9 hown hg hat
                         have HOWN := Lib.hid hown
                         have HBU := Lib.hid (below_grown (below_new wq _) (own_empty 4 wq wq.heap.size rfl (Nat.le_refl _)) (Nat.le_refl _) hg)
                         clear hown hg hat))
                    have HOW : Hid (Own 4 w9 wq.heap.size B2 m d2' (a.map Value.bool)) := by have := HOWN.out; simpa [Hid] using this
                    obtain ⟨g, uu, rfl, hg1, hg2, hcu, hfu, hxu⟩ := HOW.out.at_ hum
                    have p0 := keepBox HBU.out bo0
                    have p1 := keepBox HBU.out bo1
                    have p3 := keepBox HBU.out bc3
                    have zg : ¬ g = w.heap.size := by omega
                    have zg2 : ¬ w.heap.size = g := by omega
                    have zg3 : w.heap.size < w9.heap.size := (cell_lt p0).1
                    have HBZ := Lib.hid (below_next (HBU.out.setCell (p := ⟨g, u, none⟩) hg1 (.bool (decide (0 < l)))) (below_drewN _ 1))
                    have OWZ := Lib.hid ((HOW.out.set_ u (.bool (decide (0 < l)))).keep (below_drewN _ 1))
                    have BZ : Hid (Bools ((w9.setCell ⟨g, u, none⟩ (.bool (decide (0 < l)))).drewN 1) (some ⟨g, 0, none⟩) m d2' (a.set u (decide (0 < l)))) := by have := OWZ.out.sl; rw [← List.map_set] at this; exact this
                    have cz1 := keepBox HBZ.out bo1
                    clear HOWN bo0 bo1 bc3
                    go_wp2_with fail
                    go_region_with (first
                      | (go_at_call 24; refine (HOF2.out _).mono ?_; rintro e w' ⟨rfl, rfl⟩))
                    all_goals
                      go_wp2_with fail
                      refine (all_ref _ _ _ _ _ _ xss _ _ (GQ.out.keep HBZ.out) BZ.out HI.out true HFLIP).mono ?_
                      rintro e wy hqy
                      obtain ⟨rfl, hby⟩ := hqy.v
                      clear hqy
                      go_wp2_with fail
                      go_roundw
                      case rel => exact ⟨t + 1, by omega, by go_num, below_next (below_next BLQ.out HBZ.out) hby⟩
                      case measure => simp [intOf]; omega
                  · go_wp2_with fail
                    go_ret
                    exact ⟨rfl, below_next HB8.out hbl.out⟩
              · go_wp2_with fail
                go_ret
                exact ⟨rfl, HB8.out⟩
      · have dmv : ((m : Int) != vars) = true := by simpa using hmv
        go_enter Try.func4, Try.ntmps4
        go_wp2_with fail
        refine (blocked_own _ _ _ k xss ci vars _ (G.out.keep (below_new _ _)) hv hr hci).mono ?_
        rintro e w2 ⟨L, nL, cL, rfl, hI2, hb2⟩
        obtain ⟨K_c0, B_w2, l_w2⟩ := blk1 hb2
        replace G := Lib.hid (G.out.keep B_w2)
        replace BA := Lib.hid (BA.out.keep B_w2)
        have HB := Lib.hid B_w2
        have K_c := Lib.hid K_c0
        clear hb2 B_w2 K_c0
        have cK_c_0 := K_c.out.cell 0
        have cK_c_1 := K_c.out.cell 1
        simp at cK_c_0 cK_c_1
        have zK_c := K_c.out.lt
        have IL := Lib.hid hI2
        have hbL := hI2.bd
        clear hI2
        go_wp2_with fail
        refine (pair_any _).mono ?_
        rintro e w4 ⟨A5, n5, c5, rfl, hG5, hb4⟩
        obtain ⟨K_f0, B_w4, l_w4⟩ := blk1 hb4
        replace G := Lib.hid (G.out.keep B_w4)
        replace BA := Lib.hid (BA.out.keep B_w4)
        replace IL := Lib.hid (IL.out.keep B_w4)
        replace K_c := Lib.hid (K_c.out.keep B_w4)
        replace HB := Lib.hid (below_next HB.out B_w4)
        have K_f := Lib.hid K_f0
        clear hb4 B_w4 K_f0
        clear cK_c_0 cK_c_1 zK_c
        have cK_c_0 := K_c.out.cell 0
        have cK_c_1 := K_c.out.cell 1
        simp at cK_c_0 cK_c_1
        have zK_c := K_c.out.lt
        have cK_f_0 := K_f.out.cell 0
        have cK_f_1 := K_f.out.cell 1
        simp at cK_f_0 cK_f_1
        have zK_f := K_f.out.lt
        have GP := Lib.hid hG5
        clear hG5
        go_wp2_with fail
        refine (blocked_own _ _ _ 0 [[1, 2], [-1]] [1, 2] 2 _ GP.out ⟨by omega, by omega⟩ (by show _ = _; decide) rfl).mono ?_
        rintro e w5 ⟨L5, n5', c5', rfl, hI5, hb5⟩
        have B_w5 := hb5
        replace G := Lib.hid (G.out.keep B_w5)
        replace BA := Lib.hid (BA.out.keep B_w5)
        replace IL := Lib.hid (IL.out.keep B_w5)
        replace GP := Lib.hid (GP.out.keep B_w5)
        replace K_c := Lib.hid (K_c.out.keep B_w5)
        replace K_f := Lib.hid (K_f.out.keep B_w5)
        replace HB := Lib.hid (below_next HB.out B_w5)
        clear hb5 B_w5
        clear cK_c_0 cK_c_1 zK_c cK_f_0 cK_f_1 zK_f
        have cK_c_0 := K_c.out.cell 0
        have cK_c_1 := K_c.out.cell 1
        simp at cK_c_0 cK_c_1
        have zK_c := K_c.out.lt
        have cK_f_0 := K_f.out.cell 0
        have cK_f_1 := K_f.out.cell 1
        simp at cK_f_0 cK_f_1
        have zK_f := K_f.out.lt
        have IO : Hid (Ints w5 L5 n5' c5' [2]) := hI5
        clear hI5
        go_wp2_with fail
        refine (same_any _ _ _ _ _ _ [2] [2] _ (IO.out.keep (below_alloc (below_new _ _) _)) (ints_made _ 3 [2] (by simp) (by simp [I64]) (by decide)) true (by show _ = _; rfl)).mono ?_
        rintro e w6 hq6
        obtain ⟨rfl, hb6⟩ := hq6.v
        clear hq6
        obtain ⟨K_g0, K_o0, B_w6, l_w6⟩ := two_blks hb6
        replace G := Lib.hid (G.out.keep B_w6)
        replace BA := Lib.hid (BA.out.keep B_w6)
        replace IL := Lib.hid (IL.out.keep B_w6)
        replace GP := Lib.hid (GP.out.keep B_w6)
        replace IO := Lib.hid (IO.out.keep B_w6)
        replace K_c := Lib.hid (K_c.out.keep B_w6)
        replace K_f := Lib.hid (K_f.out.keep B_w6)
        replace HB := Lib.hid (below_next HB.out B_w6)
        have K_g := Lib.hid K_g0
        have K_o := Lib.hid K_o0
        clear hb6 B_w6 K_g0 K_o0
        clear cK_c_0 cK_c_1 zK_c cK_f_0 cK_f_1 zK_f
        have cK_c_0 := K_c.out.cell 0
        have cK_c_1 := K_c.out.cell 1
        simp at cK_c_0 cK_c_1
        have zK_c := K_c.out.lt
        have cK_f_0 := K_f.out.cell 0
        have cK_f_1 := K_f.out.cell 1
        simp at cK_f_0 cK_f_1
        have zK_f := K_f.out.lt
        have cK_g_0 := K_g.out.cell 0
        have cK_g_1 := K_g.out.cell 1
        simp at cK_g_0 cK_g_1
        have zK_g := K_g.out.lt
        have cK_o_0 := K_o.out.cell 0
        simp at cK_o_0
        have zK_o := K_o.out.lt
        go_wp2_with fail
        go_ret
        exact ⟨rfl, HB.out⟩
  · have d1 : (r1 != 0) = true := by simpa using hr1
    have d1' : (r1 == 0) = false := by simpa using hr1
    go_enter Try.func4, Try.ntmps4
    go_wp2_with fail
    refine (blocked_wrong _ _ _ xss vars i _ (G.out.keep (below_new _ _)) hv r1 r2 hr hr1).mono ?_
    rintro e w2 ⟨rfl, hb2⟩
    obtain ⟨K_c0, B_w2, l_w2⟩ := blk1 hb2
    replace G := Lib.hid (G.out.keep B_w2)
    replace BA := Lib.hid (BA.out.keep B_w2)
    have HB := Lib.hid B_w2
    have K_c := Lib.hid K_c0
    clear hb2 B_w2 K_c0
    have cK_c_0 := K_c.out.cell 0
    have cK_c_1 := K_c.out.cell 1
    simp at cK_c_0 cK_c_1
    have zK_c := K_c.out.lt
    go_wp2_with fail
    refine (pair_any _).mono ?_
    rintro e w4 ⟨A5, n5, c5, rfl, hG5, hb4⟩
    obtain ⟨K_f0, B_w4, l_w4⟩ := blk1 hb4
    replace G := Lib.hid (G.out.keep B_w4)
    replace BA := Lib.hid (BA.out.keep B_w4)
    replace K_c := Lib.hid (K_c.out.keep B_w4)
    replace HB := Lib.hid (below_next HB.out B_w4)
    have K_f := Lib.hid K_f0
    clear hb4 B_w4 K_f0
    clear cK_c_0 cK_c_1 zK_c
    have cK_c_0 := K_c.out.cell 0
    have cK_c_1 := K_c.out.cell 1
    simp at cK_c_0 cK_c_1
    have zK_c := K_c.out.lt
    have cK_f_0 := K_f.out.cell 0
    have cK_f_1 := K_f.out.cell 1
    simp at cK_f_0 cK_f_1
    have zK_f := K_f.out.lt
    have GP := Lib.hid hG5
    clear hG5
    go_wp2_with fail
    refine (blocked_own _ _ _ 0 [[1, 2], [-1]] [1, 2] 2 _ GP.out ⟨by omega, by omega⟩ (by show _ = _; decide) rfl).mono ?_
    rintro e w5 ⟨L5, n5', c5', rfl, hI5, hb5⟩
    have B_w5 := hb5
    replace G := Lib.hid (G.out.keep B_w5)
    replace BA := Lib.hid (BA.out.keep B_w5)
    replace GP := Lib.hid (GP.out.keep B_w5)
    replace K_c := Lib.hid (K_c.out.keep B_w5)
    replace K_f := Lib.hid (K_f.out.keep B_w5)
    replace HB := Lib.hid (below_next HB.out B_w5)
    clear hb5 B_w5
    clear cK_c_0 cK_c_1 zK_c cK_f_0 cK_f_1 zK_f
    have cK_c_0 := K_c.out.cell 0
    have cK_c_1 := K_c.out.cell 1
    simp at cK_c_0 cK_c_1
    have zK_c := K_c.out.lt
    have cK_f_0 := K_f.out.cell 0
    have cK_f_1 := K_f.out.cell 1
    simp at cK_f_0 cK_f_1
    have zK_f := K_f.out.lt
    have IO : Hid (Ints w5 L5 n5' c5' [2]) := hI5
    clear hI5
    go_wp2_with fail
    refine (same_any _ _ _ _ _ _ [2] [2] _ (IO.out.keep (below_alloc (below_new _ _) _)) (ints_made _ 3 [2] (by simp) (by simp [I64]) (by decide)) true (by show _ = _; rfl)).mono ?_
    rintro e w6 hq6
    obtain ⟨rfl, hb6⟩ := hq6.v
    clear hq6
    obtain ⟨K_g0, K_o0, B_w6, l_w6⟩ := two_blks hb6
    replace G := Lib.hid (G.out.keep B_w6)
    replace BA := Lib.hid (BA.out.keep B_w6)
    replace GP := Lib.hid (GP.out.keep B_w6)
    replace IO := Lib.hid (IO.out.keep B_w6)
    replace K_c := Lib.hid (K_c.out.keep B_w6)
    replace K_f := Lib.hid (K_f.out.keep B_w6)
    replace HB := Lib.hid (below_next HB.out B_w6)
    have K_g := Lib.hid K_g0
    have K_o := Lib.hid K_o0
    clear hb6 B_w6 K_g0 K_o0
    clear cK_c_0 cK_c_1 zK_c cK_f_0 cK_f_1 zK_f
    have cK_c_0 := K_c.out.cell 0
    have cK_c_1 := K_c.out.cell 1
    simp at cK_c_0 cK_c_1
    have zK_c := K_c.out.lt
    have cK_f_0 := K_f.out.cell 0
    have cK_f_1 := K_f.out.cell 1
    simp at cK_f_0 cK_f_1
    have zK_f := K_f.out.lt
    have cK_g_0 := K_g.out.cell 0
    have cK_g_1 := K_g.out.cell 1
    simp at cK_g_0 cK_g_1
    have zK_g := K_g.out.lt
    have cK_o_0 := K_o.out.cell 0
    simp at cK_o_0
    have zK_o := K_o.out.lt
    go_wp2_with fail
    go_ret
    exact ⟨rfl, HB.out⟩
end Go.Proofs.Ytecgmgidfjbamaa
