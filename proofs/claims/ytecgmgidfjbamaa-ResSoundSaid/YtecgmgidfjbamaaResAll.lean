/- Contract of the reference's Resolutions. (Printed by wip/tools/resall.py.) -/
import Derived.Test.YtecgmgidfjbamaaResCheck
namespace Go.Proofs.Ytecgmgidfjbamaa
open Go.RowKit
set_option linter.unusedSimpArgs false

set_option maxHeartbeats 4000000 in
set_option maxRecDepth 100000 in
theorem resolutions_ref (A B : Option Addr) (n c m d : Nat) (xss : List (List Int)) (rs : List R3) (vars : Int) (w : World) (h : Grid w A n c xss) (hv : I64 vars) (ht : Trips w B m d rs) (hr : Hid (checkC vars xss = (0, 0))) (l : List (List Int)) (r1 r2 : Int) (hR : Hid (resC vars xss rs = (l, r1, r2))) :
    Calls Try.prog 32 #[.int .i64 vars, .slice A n c, .slice B m d] w (RetRowsF l r1 r2 w) := by
  have hbd := h.bd
  have hlen := Lib.hid h.len
  have hbdt := ht.bd
  have hlt := Lib.hid ht.len
  obtain ⟨_, v0, v1, hn400, hrows⟩ := checkC_ok (vars := vars) (xss := xss) (by rw [hr.out])
  have HLL : Hid (∀ x ∈ xss, Lits vars x) := fun x hx => (hrows x hx).2
  have hn4 : n ≤ 400 := by have := hlen.out; omega
  obtain ⟨i0, hi0, hz0, hz1, hz2⟩ := info_parts row_info
  have G := Lib.hid h
  have TT := Lib.hid ht
  unfold I64 at hv
  clear h ht hrows hn400
  by_cases hbig : 2000 < m
  · have hb2 : ([], (2 : Int), (-1 : Int)) = (l, r1, r2) := by rw [← hR.out, resC, if_pos (by rw [hlt.out]; exact hbig)]
    obtain ⟨rfl, rfl, rfl⟩ : [] = l ∧ 2 = r1 ∧ -1 = r2 := by simpa using hb2
    go_enter Try.func32, Try.ntmps32
    go_wp2_with fail
    refine bodyPost_ret (v := .tuple #[.slice none 0 0, .agg #[.int .i64 2, .int .i64 (-1)]]) (by simp [results, Try.results32, go_sem]) rfl ⟨none, 0, 0, rfl, grid_nil _, ?_⟩
    exact below_new _ _
  · have hR2 : Hid (((ressF vars rs xss 0).1.drop xss.length, (ressF vars rs xss 0).2) = (l, r1, r2)) := by have := hR.out; rw [resC, if_neg (by rw [hlt.out]; exact hbig)] at this; exact this
    obtain ⟨P, hP⟩ : ∃ P, Hid (ressF vars rs xss 0 = P) := ⟨_, rfl⟩
    rw [hP.out, hlen.out] at hR2
    have hm2 : m ≤ 2000 := by omega
    have dbig : decide (2000 < m) = false := decide_eq_false hbig
    have hb0 : Below w.heap.size w (w.alloc (.cells #[.int .i64 0, .int .i64 0] 28)) := below_new _ _
    have KR := Lib.hid (Blk.new w 28 #[.int .i64 0, .int .i64 0])
    obtain ⟨w0, hw0⟩ : ∃ w0 : World, w0 = w.alloc (.cells #[.int .i64 0, .int .i64 0] 28) := ⟨_, rfl⟩
    have e0 : (w.alloc (.cells #[.int .i64 0, .int .i64 0] 28)).heap.size = w.heap.size + 1 := by simp
    obtain ⟨vs0, hsl0, hrw0⟩ := (G.out.keep hb0).rowsP 3 (Nat.le_refl _)
    have HSL := Lib.hid (hsl0.keep (below_new _ (.cells #[] 26)))
    have HRW := Lib.hid (hrw0.keep (below_new _ (.cells #[] 26)))
    have hoe := own_empty 26 (w.alloc (.cells #[.int .i64 0, .int .i64 0] 28)) (w.heap.size + 1) (b := w.heap.size + 1) (by simp) (by simp)
    have HOE := Lib.hid hoe
    have E0 := Lib.hid e0
    have HW0 := Lib.hid hw0
    clear hR hsl0 hrw0 hbig hoe e0 hw0
    go_enter Try.func32, Try.ntmps32
    go_wp2_with (first
      | (at_builtin
         refine wpList_append_sl _ rfl (.tmp 16) (.tmp 17) _ rfl (w.heap.size + 1) 26 i0 _ 24 Try.underlying22 hi0 hz0 hz1 hz2 rfl (some ⟨w.heap.size + 1, 0, none⟩) 0 0 [] rfl HOE.out A n c _ rfl HSL.out HRW.out.one (by simp only [maxLen]; omega) (by omega) (by simp) ?_
         intro A2 c2 w2 hown hg hat
         have HO2 : Hid (OwnP 26 3 w2 w0.heap.size w0.heap.size A2 n c2 xss) := by
           rw [HW0.out, E0.out]
           refine ⟨vs0, by simpa using hown, ?_⟩
           have := HRW.out.kept hg (own_rows HOE.out (by rw [E0.out]; exact Nat.le_refl _)) row_ne
           rw [E0.out] at this
           exact this
         have HB2 : Hid (Below w0.heap.size w0 w2) := by
           rw [HW0.out]
           exact below_grown (below_new _ (.cells #[] 26)) HOE.out (by rw [E0.out]; exact Nat.le_refl _) hg
         clear hown hg hat))
    rw [← HW0.out] at hb0 KR
    have B0 := Lib.hid hb0
    have TT0 := Lib.hid (TT.out.keep hb0)
    have z0 := KR.out.lt
    clear hb0 TT
    (try simp only [Nat.zero_add])
    go_loopw [8, 9] (fun o i wr => ∃ (k na ca : Nat) (Aa : Option Addr) (all : List (List Int)), k ≤ m ∧ n ≤ na ∧ na ≤ 400 + k ∧ o = .slice Aa na ca ∧ i = .int .i64 k ∧ Hid (OwnP 26 3 wr w0.heap.size w0.heap.size Aa na ca all) ∧ Hid (∀ x ∈ all, Lits vars x) ∧ Hid (Below w0.heap.size w0 wr) ∧ Hid (ressF vars (rs.drop k) all k = P)) (fun _ i _ => m - (intOf i).toNat)
    case atStart => exact ⟨0, n, c2, A2, xss, Nat.zero_le _, Nat.le_refl _, by omega, by first | rfl | simp, rfl, HO2, HLL, HB2, hP⟩
    case round =>
      obtain ⟨k, na, ca, Aa, all, hk, hna, hnk, rfl, rfl, hown, hall, hbl, hgo⟩ := hrel
      have hwz := hbl.out.size
      have KR1 := Lib.hid (KR.out.keep hbl.out)
      have y1 : (0 : Int) ≤ (k : Int) := by omega
      by_cases hkm : k < m
      · obtain ⟨b, off, x, y, z, hBe, hb, t1, t2, t3, hx64, hy64, hz64, hrk⟩ := (TT0.out.keep hbl.out).round hkm
        subst hBe
        obtain ⟨nl, code, hone⟩ : ∃ a b, Hid (oneF vars all (x, y, z) = (a, b)) := ⟨_, _, rfl⟩
        have hgo2 : Hid ((if code ≠ 0 then ([], code, (k : Int)) else ressF vars (rs.drop (k + 1)) (all ++ [nl]) (k + 1)) = P) := by have := hgo.out; rw [drop_cons_of hrk.out, ressF, hone.out] at this; exact this
        have hal := Lib.hid hown.out.len
        have y2 : (k : Int) < (m : Int) := by omega
        have hx64 := hx64; have hy64 := hy64; have hz64 := hz64
        unfold I64 at hx64 hy64 hz64
        have t0' := KR1.out.cell 0
        have t1' := KR1.out.cell 1
        have tf0 := KR1.out.frozen 0
        have tf1 := KR1.out.frozen 1
        simp at t0' t1'
        have ltr := KR1.out.lt
        have HBAD : Hid (outB vars na (x, y, z) = true → ([], (3 : Int), (k : Int)) = P) := fun hb => by
          have h1 := hone.out
          rw [oneF, hal.out, if_pos hb] at h1
          obtain ⟨rfl, rfl⟩ : [] = nl ∧ 3 = code := by simpa using h1
          have := hgo2.out
          rw [if_pos (by decide)] at this
          exact this
        clear hgo
        by_cases o1 : x < 0
        · have hPe := HBAD.out (by unfold outB; simp; omega)
          subst hPe
          obtain ⟨rfl, rfl, rfl⟩ : [] = l ∧ 3 = r1 ∧ (k : Int) = r2 := by have := hR2.out; simpa using this
          obtain ⟨u0, u1⟩ := KR1.out.put2 (.int .i64 3) (.int .i64 k)
          have U0 := Lib.hid u0
          have U1 := Lib.hid u1
          have HB9 := Lib.hid (below_put2 (below_next B0.out hbl.out) (g := w.heap.size) (Nat.le_refl _) (.int .i64 3) (.int .i64 k))
          clear u0 u1
          go_wp2_with fail
          exact bodyPost_ret (v := .tuple #[.slice none 0 0, .agg #[.int .i64 3, .int .i64 k]]) (by simp [results, Try.results32, go_sem, U0.out, U1.out]) rfl ⟨none, 0, 0, rfl, grid_nil _, HB9.out⟩
        by_cases o2 : y < 0
        · have hPe := HBAD.out (by unfold outB; simp; omega)
          subst hPe
          obtain ⟨rfl, rfl, rfl⟩ : [] = l ∧ 3 = r1 ∧ (k : Int) = r2 := by have := hR2.out; simpa using this
          obtain ⟨u0, u1⟩ := KR1.out.put2 (.int .i64 3) (.int .i64 k)
          have U0 := Lib.hid u0
          have U1 := Lib.hid u1
          have HB9 := Lib.hid (below_put2 (below_next B0.out hbl.out) (g := w.heap.size) (Nat.le_refl _) (.int .i64 3) (.int .i64 k))
          clear u0 u1
          go_wp2_with fail
          exact bodyPost_ret (v := .tuple #[.slice none 0 0, .agg #[.int .i64 3, .int .i64 k]]) (by simp [results, Try.results32, go_sem, U0.out, U1.out]) rfl ⟨none, 0, 0, rfl, grid_nil _, HB9.out⟩
        by_cases o3 : (na : Int) ≤ x
        · have hPe := HBAD.out (by unfold outB; simp; omega)
          subst hPe
          obtain ⟨rfl, rfl, rfl⟩ : [] = l ∧ 3 = r1 ∧ (k : Int) = r2 := by have := hR2.out; simpa using this
          obtain ⟨u0, u1⟩ := KR1.out.put2 (.int .i64 3) (.int .i64 k)
          have U0 := Lib.hid u0
          have U1 := Lib.hid u1
          have HB9 := Lib.hid (below_put2 (below_next B0.out hbl.out) (g := w.heap.size) (Nat.le_refl _) (.int .i64 3) (.int .i64 k))
          clear u0 u1
          go_wp2_with fail
          exact bodyPost_ret (v := .tuple #[.slice none 0 0, .agg #[.int .i64 3, .int .i64 k]]) (by simp [results, Try.results32, go_sem, U0.out, U1.out]) rfl ⟨none, 0, 0, rfl, grid_nil _, HB9.out⟩
        by_cases o4 : (na : Int) ≤ y
        · have hPe := HBAD.out (by unfold outB; simp; omega)
          subst hPe
          obtain ⟨rfl, rfl, rfl⟩ : [] = l ∧ 3 = r1 ∧ (k : Int) = r2 := by have := hR2.out; simpa using this
          obtain ⟨u0, u1⟩ := KR1.out.put2 (.int .i64 3) (.int .i64 k)
          have U0 := Lib.hid u0
          have U1 := Lib.hid u1
          have HB9 := Lib.hid (below_put2 (below_next B0.out hbl.out) (g := w.heap.size) (Nat.le_refl _) (.int .i64 3) (.int .i64 k))
          clear u0 u1
          go_wp2_with fail
          exact bodyPost_ret (v := .tuple #[.slice none 0 0, .agg #[.int .i64 3, .int .i64 k]]) (by simp [results, Try.results32, go_sem, U0.out, U1.out]) rfl ⟨none, 0, 0, rfl, grid_nil _, HB9.out⟩
        by_cases o5 : z < 1
        · have hPe := HBAD.out (by unfold outB; simp; omega)
          subst hPe
          obtain ⟨rfl, rfl, rfl⟩ : [] = l ∧ 3 = r1 ∧ (k : Int) = r2 := by have := hR2.out; simpa using this
          obtain ⟨u0, u1⟩ := KR1.out.put2 (.int .i64 3) (.int .i64 k)
          have U0 := Lib.hid u0
          have U1 := Lib.hid u1
          have HB9 := Lib.hid (below_put2 (below_next B0.out hbl.out) (g := w.heap.size) (Nat.le_refl _) (.int .i64 3) (.int .i64 k))
          clear u0 u1
          go_wp2_with fail
          exact bodyPost_ret (v := .tuple #[.slice none 0 0, .agg #[.int .i64 3, .int .i64 k]]) (by simp [results, Try.results32, go_sem, U0.out, U1.out]) rfl ⟨none, 0, 0, rfl, grid_nil _, HB9.out⟩
        by_cases o6 : vars < z
        · have hPe := HBAD.out (by unfold outB; simp; omega)
          subst hPe
          obtain ⟨rfl, rfl, rfl⟩ : [] = l ∧ 3 = r1 ∧ (k : Int) = r2 := by have := hR2.out; simpa using this
          obtain ⟨u0, u1⟩ := KR1.out.put2 (.int .i64 3) (.int .i64 k)
          have U0 := Lib.hid u0
          have U1 := Lib.hid u1
          have HB9 := Lib.hid (below_put2 (below_next B0.out hbl.out) (g := w.heap.size) (Nat.le_refl _) (.int .i64 3) (.int .i64 k))
          clear u0 u1
          go_wp2_with fail
          exact bodyPost_ret (v := .tuple #[.slice none 0 0, .agg #[.int .i64 3, .int .i64 k]]) (by simp [results, Try.results32, go_sem, U0.out, U1.out]) rfl ⟨none, 0, 0, rfl, grid_nil _, HB9.out⟩
        obtain ⟨k1, rfl⟩ : ∃ k : Nat, x = k := ⟨x.toNat, by omega⟩
        obtain ⟨k2, rfl⟩ : ∃ k : Nat, y = k := ⟨y.toNat, by omega⟩
        have hk1 : k1 < na := by omega
        have hk2 : k2 < na := by omega
        obtain ⟨g, X1, n1, c1, xs, hAe, _, _, e1, _, hx, _, hxk⟩ := hown.out.round hk1
        subst hAe
        obtain ⟨g', X2, n2, c2', ys, hAe, _, _, e2, _, hy, _, hyk⟩ := hown.out.round hk2
        cases hAe
        have HX := Lib.hid hx
        have HY := Lib.hid hy
        have lx := hall.out xs (List.mem_of_getElem? hxk.out)
        have ly := hall.out ys (List.mem_of_getElem? hyk.out)
        have bx : n1 ≤ 1000 := by have h1 := lx.len_le v0; rw [hx.len] at h1; omega
        have by' : n2 ≤ 1000 := by have h1 := ly.len_le v0; rw [hy.len] at h1; omega
        have HXB : Hid (∀ x ∈ xs, -1000000 ≤ x ∧ x ≤ 1000000) := fun x hx => by have := lx.1 x hx; omega
        have HYB : Hid (∀ x ∈ ys, -1000000 ≤ x ∧ x ≤ 1000000) := fun x hx => by have := ly.1 x hx; omega
        have hres : Hid (resF xs ys z = (nl, code)) := by
          have := hone.out
          rw [oneF, hal.out, if_neg (by rw [outB_iff.2]; · simp
                                        · refine ⟨⟨?_, ?_⟩, ⟨?_, ?_⟩, ?_, ?_⟩ <;> simp <;> omega)] at this
          simp only [Int.toNat_natCast, List.getD_eq_getElem?_getD, hxk.out, hyk.out, Option.getD_some] at this
          exact this
        have y3 : (0 : Int) ≤ (k1 : Int) := by omega
        have y4 : (k1 : Int) < (na : Int) := by omega
        have y5 : (0 : Int) ≤ (k2 : Int) := by omega
        have y6 : (k2 : Int) < (na : Int) := by omega
        have n1' : ¬ (na : Int) ≤ (k1 : Int) := by omega
        have n2' : ¬ (na : Int) ≤ (k2 : Int) := by omega
        have n3' : ¬ na ≤ k1 := by omega
        have n4' : ¬ na ≤ k2 := by omega
        clear hx hy lx ly HBAD
        go_wp2_with fail
        have hS : wr.drew.cell? ⟨b, off + k * 3, none⟩ = some (.int .i64 k1) ∧ wr.drew.cell? ⟨b, off + k * 3 + 1, none⟩ = some (.int .i64 k2) ∧ wr.drew.cell? ⟨b, off + k * 3 + 2, none⟩ = some (.int .i64 z) ∧ wr.drew.cell? ⟨g, k1, none⟩ = some (.slice X1 n1 c1) ∧ wr.drew.cell? ⟨g, k2, none⟩ = some (.slice X2 n2 c2') := ⟨keepBox (below_drewN wr 1) t1, keepBox (below_drewN wr 1) t2, keepBox (below_drewN wr 1) t3, keepBox (below_drewN wr 1) e1, keepBox (below_drewN wr 1) e2⟩
        refine wp_region_tail (fun w' => w'.cell? ⟨b, off + k * 3, none⟩ = some (.int .i64 k1) ∧ w'.cell? ⟨b, off + k * 3 + 1, none⟩ = some (.int .i64 k2) ∧ w'.cell? ⟨b, off + k * 3 + 2, none⟩ = some (.int .i64 z) ∧ w'.cell? ⟨g, k1, none⟩ = some (.slice X1 n1 c1) ∧ w'.cell? ⟨g, k2, none⟩ = some (.slice X2 n2 c2')) [] (by kernel_rfl) ?_
        refine take0 (i := 0) (oi := _) (v := ?_) rfl (by kernel_rfl) (by kernel_rfl) (by kernel_rfl) (fun _ _ _ h => h) rfl (Or.inl ⟨by rfl, ?_⟩) (fun _ => hS) ?_
        rotate_left
        · intro w0; go_simp; with_reducible rfl
        (try simp only [Act.put, List.setIfInBounds_toArray, List.set_cons_zero, List.set_cons_succ])
        refine take0 (i := 1) (oi := _) (v := ?_) rfl (by kernel_rfl) (by kernel_rfl) (by kernel_rfl) (fun _ _ _ h => h) rfl (Or.inl ⟨by rfl, ?_⟩) (fun _ => hS) ?_
        rotate_left
        · intro w0; go_simp; with_reducible rfl
        (try simp only [Act.put, List.setIfInBounds_toArray, List.set_cons_zero, List.set_cons_succ])
        refine take0 (i := 2) (oi := _) (v := ?_) rfl (by kernel_rfl) (by kernel_rfl) (by kernel_rfl) (fun _ _ _ h => h) rfl (Or.inl ⟨by rfl, ?_⟩) (fun _ => hS) ?_
        rotate_left
        · intro w0; go_simp; with_reducible rfl
        (try simp only [Act.put, List.setIfInBounds_toArray, List.set_cons_zero, List.set_cons_succ])
        refine take0 (i := 3) (oi := _) (v := ?_) rfl (by kernel_rfl) (by kernel_rfl) (by kernel_rfl) (fun _ _ _ h => h) rfl (Or.inl ⟨by rfl, ?_⟩) (fun _ => hS) ?_
        rotate_left
        · intro w0; go_simp; with_reducible rfl
        (try simp only [Act.put, List.setIfInBounds_toArray, List.set_cons_zero, List.set_cons_succ])
        refine take0 (i := 4) (oi := _) (v := ?_) rfl (by kernel_rfl) (by kernel_rfl) (by kernel_rfl) (fun _ _ _ h => h) rfl (Or.inl ⟨by rfl, ?_⟩) (fun _ => hS) ?_
        rotate_left
        · intro w0; go_simp; with_reducible rfl
        (try simp only [Act.put, List.setIfInBounds_toArray, List.set_cons_zero, List.set_cons_succ])
        refine takeS (i := 5) (oi := _) (v := ?_) rfl (by kernel_rfl) (by kernel_rfl) (by kernel_rfl) (fun _ _ _ h => h) rfl (by kernel_rfl) (by kernel_rfl) (Or.inl ⟨by rfl, ?_⟩) hS ?_
        rotate_left
        · intro w0 hSw; (try dsimp only at hSw); go_simp; with_reducible rfl
        (try simp only [Act.put, List.setIfInBounds_toArray, List.set_cons_zero, List.set_cons_succ])
        refine take0 (i := 6) (oi := _) (v := ?_) rfl (by kernel_rfl) (by kernel_rfl) (by kernel_rfl) (fun _ _ _ h => h) rfl (Or.inl ⟨by rfl, ?_⟩) (fun _ => hS) ?_
        rotate_left
        · intro w0; go_simp; with_reducible rfl
        (try simp only [Act.put, List.setIfInBounds_toArray, List.set_cons_zero, List.set_cons_succ])
        refine takeS (i := 7) (oi := _) (v := ?_) rfl (by kernel_rfl) (by kernel_rfl) (by kernel_rfl) (fun _ _ _ h => h) rfl (by kernel_rfl) (by kernel_rfl) (Or.inl ⟨by rfl, ?_⟩) hS ?_
        rotate_left
        · intro w0 hSw; (try dsimp only at hSw); go_simp; with_reducible rfl
        (try simp only [Act.put, List.setIfInBounds_toArray, List.set_cons_zero, List.set_cons_succ])
        refine take0 (i := 8) (oi := _) (v := ?_) rfl (by kernel_rfl) (by kernel_rfl) (by kernel_rfl) (fun _ _ _ h => h) rfl (Or.inl ⟨by rfl, ?_⟩) (fun _ => hS) ?_
        rotate_left
        · intro w0; go_simp; with_reducible rfl
        (try simp only [Act.put, List.setIfInBounds_toArray, List.set_cons_zero, List.set_cons_succ])
        refine take0 (i := 9) (oi := _) (v := ?_) rfl (by kernel_rfl) (by kernel_rfl) (by kernel_rfl) (fun _ _ _ h => h) rfl (Or.inl ⟨by rfl, ?_⟩) (fun _ => hS) ?_
        rotate_left
        · intro w0; go_simp; with_reducible rfl
        (try simp only [Act.put, List.setIfInBounds_toArray, List.set_cons_zero, List.set_cons_succ])
        refine take0 (i := 10) (oi := _) (v := ?_) rfl (by kernel_rfl) (by kernel_rfl) (by kernel_rfl) (fun _ _ _ h => h) rfl (Or.inl ⟨by rfl, ?_⟩) (fun _ => hS) ?_
        rotate_left
        · intro w0; go_simp; with_reducible rfl
        (try simp only [Act.put, List.setIfInBounds_toArray, List.set_cons_zero, List.set_cons_succ])
        refine take0 (i := 11) (oi := _) (v := ?_) rfl (by kernel_rfl) (by kernel_rfl) (by kernel_rfl) (fun _ _ _ h => h) rfl (Or.inl ⟨by rfl, ?_⟩) (fun _ => hS) ?_
        rotate_left
        · intro w0; go_simp; with_reducible rfl
        (try simp only [Act.put, List.setIfInBounds_toArray, List.set_cons_zero, List.set_cons_succ])
        refine take0 (i := 12) (oi := _) (v := ?_) rfl (by kernel_rfl) (by kernel_rfl) (by kernel_rfl) (fun _ _ _ h => h) rfl (Or.inl ⟨by rfl, ?_⟩) (fun _ => hS) ?_
        rotate_left
        · intro w0; go_simp; with_reducible rfl
        (try simp only [Act.put, List.setIfInBounds_toArray, List.set_cons_zero, List.set_cons_succ])
        refine takeS (i := 13) (oi := _) (v := ?_) rfl (by kernel_rfl) (by kernel_rfl) (by kernel_rfl) (fun _ _ _ h => h) rfl (by kernel_rfl) (by kernel_rfl) (Or.inl ⟨by rfl, ?_⟩) hS ?_
        rotate_left
        · intro w0 hSw; (try dsimp only at hSw); go_simp; with_reducible rfl
        (try simp only [Act.put, List.setIfInBounds_toArray, List.set_cons_zero, List.set_cons_succ])
        refine take0 (i := 14) (oi := _) (v := ?_) rfl (by kernel_rfl) (by kernel_rfl) (by kernel_rfl) (fun _ _ _ h => h) rfl (Or.inl ⟨by rfl, ?_⟩) (fun _ => hS) ?_
        rotate_left
        · intro w0; go_simp; with_reducible rfl
        (try simp only [Act.put, List.setIfInBounds_toArray, List.set_cons_zero, List.set_cons_succ])
        refine takeS (i := 15) (oi := _) (v := ?_) rfl (by kernel_rfl) (by kernel_rfl) (by kernel_rfl) (fun _ _ _ h => h) rfl (by kernel_rfl) (by kernel_rfl) (Or.inl ⟨by rfl, ?_⟩) hS ?_
        rotate_left
        · intro w0 hSw; (try dsimp only at hSw); go_simp; with_reducible rfl
        (try simp only [Act.put, List.setIfInBounds_toArray, List.set_cons_zero, List.set_cons_succ])
        refine take0 (i := 16) (oi := _) (v := ?_) rfl (by kernel_rfl) (by kernel_rfl) (by kernel_rfl) (fun _ _ _ h => h) rfl (Or.inl ⟨by rfl, ?_⟩) (fun _ => hS) ?_
        rotate_left
        · intro w0; go_simp; with_reducible rfl
        (try simp only [Act.put, List.setIfInBounds_toArray, List.set_cons_zero, List.set_cons_succ])
        refine take0 (i := 17) (oi := _) (v := ?_) rfl (by kernel_rfl) (by kernel_rfl) (by kernel_rfl) (fun _ _ _ h => h) rfl (Or.inl ⟨by rfl, ?_⟩) (fun _ => hS) ?_
        rotate_left
        · intro w0; go_simp; with_reducible rfl
        (try simp only [Act.put, List.setIfInBounds_toArray, List.set_cons_zero, List.set_cons_succ])
        refine take0 (i := 18) (oi := _) (v := ?_) rfl (by kernel_rfl) (by kernel_rfl) (by kernel_rfl) (fun _ _ _ h => h) rfl (Or.inl ⟨by rfl, ?_⟩) (fun _ => hS) ?_
        rotate_left
        · intro w0; go_simp; with_reducible rfl
        (try simp only [Act.put, List.setIfInBounds_toArray, List.set_cons_zero, List.set_cons_succ])
        refine take0 (i := 19) (oi := _) (v := ?_) rfl (by kernel_rfl) (by kernel_rfl) (by kernel_rfl) (fun _ _ _ h => h) rfl (Or.inl ⟨by rfl, ?_⟩) (fun _ => hS) ?_
        rotate_left
        · intro w0; go_simp; with_reducible rfl
        (try simp only [Act.put, List.setIfInBounds_toArray, List.set_cons_zero, List.set_cons_succ])
        refine takeS (i := 20) (oi := _) (v := ?_) rfl (by kernel_rfl) (by kernel_rfl) (by kernel_rfl) (fun _ _ _ h => h) rfl (by kernel_rfl) (by kernel_rfl) (Or.inl ⟨by rfl, ?_⟩) hS ?_
        rotate_left
        · intro w0 hSw; (try dsimp only at hSw); go_simp; with_reducible rfl
        (try simp only [Act.put, List.setIfInBounds_toArray, List.set_cons_zero, List.set_cons_succ])
        refine oneT (i := 21) (by kernel_rfl) rfl (by rfl) (fun K hK => ?_)
        go_simp
        refine (resolved_ref _ _ _ _ _ _ xs ys z _ (HX.out.drewN 1) (HY.out.drewN 1) HXB.out HYB.out (by omega) (by omega) nl code hres).mono ?_
        rintro e w9 ⟨L9, n9, c9, rfl, ⟨hi9, ho9⟩, hb9⟩
        have I9 := Lib.hid hi9
        have AW9 : Hid (Away 3 w9 w0.heap.size L9 n9) := Away.own ho9
        have B9 := Lib.hid (below_next (below_drewN wr 1) hb9)
        clear hb9 hi9 ho9
        have hS : w9.cell? ⟨b, off + k * 3, none⟩ = some (.int .i64 k1) ∧ w9.cell? ⟨b, off + k * 3 + 1, none⟩ = some (.int .i64 k2) ∧ w9.cell? ⟨b, off + k * 3 + 2, none⟩ = some (.int .i64 z) ∧ w9.cell? ⟨g, k1, none⟩ = some (.slice X1 n1 c1) ∧ w9.cell? ⟨g, k2, none⟩ = some (.slice X2 n2 c2') := ⟨keepBox B9.out t1, keepBox B9.out t2, keepBox B9.out t3, keepBox B9.out e1, keepBox B9.out e2⟩
        refine hK _ _ (fun _ => hS) ?_
        clear hK
        (try simp only [Act.put, List.setIfInBounds_toArray, List.set_cons_zero, List.set_cons_succ])
        refine take0 (i := 22) (oi := _) (v := ?_) rfl (by kernel_rfl) (by kernel_rfl) (by kernel_rfl) (fun _ _ _ h => h) rfl (Or.inl ⟨by rfl, ?_⟩) (fun _ => hS) ?_
        rotate_left
        · intro w0; go_simp; with_reducible rfl
        (try simp only [Act.put, List.setIfInBounds_toArray, List.set_cons_zero, List.set_cons_succ])
        refine take0 (i := 23) (oi := _) (v := ?_) rfl (by kernel_rfl) (by kernel_rfl) (by kernel_rfl) (fun _ _ _ h => h) rfl (Or.inl ⟨by rfl, ?_⟩) (fun _ => hS) ?_
        rotate_left
        · intro w0; go_simp; with_reducible rfl
        (try simp only [Act.put, List.setIfInBounds_toArray, List.set_cons_zero, List.set_cons_succ])
        refine take0 (i := 24) (oi := _) (v := ?_) rfl (by kernel_rfl) (by kernel_rfl) (by kernel_rfl) (fun _ _ _ h => h) rfl (Or.inl ⟨by rfl, ?_⟩) (fun _ => hS) ?_
        rotate_left
        · intro w0; go_simp; with_reducible rfl
        (try simp only [Act.put, List.setIfInBounds_toArray, List.set_cons_zero, List.set_cons_succ])
        refine take0 (i := 25) (oi := _) (v := ?_) rfl (by kernel_rfl) (by kernel_rfl) (by kernel_rfl) (fun _ _ _ h => h) rfl (Or.inl ⟨by rfl, ?_⟩) (fun _ => hS) ?_
        rotate_left
        · intro w0; go_simp; with_reducible rfl
        (try simp only [Act.put, List.setIfInBounds_toArray, List.set_cons_zero, List.set_cons_succ])
        refine take0 (i := 26) (oi := _) (v := ?_) rfl (by kernel_rfl) (by kernel_rfl) (by kernel_rfl) (fun _ _ _ h => h) rfl (Or.inl ⟨by rfl, ?_⟩) (fun _ => hS) ?_
        rotate_left
        · intro w0; go_simp; with_reducible rfl
        (try simp only [Act.put, List.setIfInBounds_toArray, List.set_cons_zero, List.set_cons_succ])
        refine doneT (by kernel_rfl) ?_ _
        have BL9 := Lib.hid (below_next hbl.out B9.out)
        have KR9 := Lib.hid (KR.out.keep BL9.out)
        have OW9 := Lib.hid (hown.out.keep B9.out)
        clear t0' t1' tf0 tf1 ltr
        by_cases hcode : code = 0
        · subst hcode
          obtain ⟨vs, hv1, hv2⟩ := OW9.out
          have HV1 := Lib.hid (hv1.keep (below_new w9 (.cells #[.slice L9 n9 c9] 26)))
          have HV2 := Lib.hid (hv2.keep (below_new w9 (.cells #[.slice L9 n9 c9] 26)))
          have hSS := sl_one w9 26 (.slice L9 n9 c9) rfl
          have hw3 := BL9.out.size
          have hnl : Hid (Lits vars nl) := by have := oneF_lits (r := ((k1 : Int), (k2 : Int), z)) hall.out (by rw [hone.out]); rw [hone.out] at this; exact this
          clear hv1 hv2
          go_wp2_with (first
            | (at_builtin
               refine wpList_append_sl _ rfl (.tmp 108) (.tmp 110) _ rfl w0.heap.size 26 i0 _ 24 Try.underlying22 hi0 hz0 hz1 hz2 rfl (some ⟨g, 0, none⟩) na ca _ rfl HV1.out (some ⟨w9.heap.size, 0, none⟩) 1 1 _ rfl hSS (by simp [Value.oneCell']) (by simp only [maxLen]; omega) (by omega) (by simp; omega) ?_
               intro L1 cL1 w6 hL1 hg1 hat1
               have HP6 := Lib.hid (OwnP.push HV1.out HV2.out (Nat.le_refl _) row_ne (I9.out.keep (below_new _ _)) (AW9.out.keep (below_new _ _)) hL1 hg1)
               have HB6 := Lib.hid (below_grown (below_alloc BL9.out (.cells #[.slice L9 n9 c9] 26)) HV1.out (Nat.le_refl _) hg1)
               clear hL1 hg1 hat1))
          go_roundw
          case rel =>
            refine ⟨k + 1, na + 1, cL1, L1, all ++ [nl], by omega, by omega, by omega, rfl, by go_num, HP6, ?_, HB6, by have := hgo2.out; simpa [Hid] using this⟩
            intro q hq
            rcases List.mem_append.1 hq with hq | hq
            · exact hall.out q hq
            · simp at hq; subst hq; exact hnl.out
          case measure => simp [intOf]; omega
        · have dc : (code != 0) = true := by simpa using hcode
          have hPe : ([], code, (k : Int)) = P := by have := hgo2.out; rw [if_pos hcode] at this; exact this
          subst hPe
          obtain ⟨rfl, rfl, rfl⟩ : [] = l ∧ code = r1 ∧ (k : Int) = r2 := by have := hR2.out; simpa using this
          have t0' := KR9.out.cell 0
          have t1' := KR9.out.cell 1
          have tf0 := KR9.out.frozen 0
          have tf1 := KR9.out.frozen 1
          simp at t0' t1'
          have ltr := KR9.out.lt
          obtain ⟨u0, u1⟩ := KR9.out.put2 (.int .i64 code) (.int .i64 k)
          have U0 := Lib.hid u0
          have U1 := Lib.hid u1
          have HB9 := Lib.hid (below_put2 (below_next B0.out BL9.out) (g := w.heap.size) (Nat.le_refl _) (.int .i64 code) (.int .i64 k))
          clear u0 u1
          go_wp2_with fail
          exact bodyPost_ret (v := .tuple #[.slice none 0 0, .agg #[.int .i64 code, .int .i64 k]]) (by simp [results, Try.results32, go_sem, U0.out, U1.out]) rfl ⟨none, 0, 0, rfl, grid_nil _, HB9.out⟩
      · obtain rfl : k = m := by omega
        have hPe : (all, (0 : Int), (0 : Int)) = P := by have := hgo.out; rw [List.drop_of_length_le (by rw [hlt.out]; omega), ressF] at this; exact this
        subst hPe
        obtain ⟨rfl, rfl, rfl⟩ : all.drop n = l ∧ 0 = r1 ∧ 0 = r2 := by have := hR2.out; simpa using this
        obtain ⟨vs, hv1, hv2⟩ := hown.out
        have DR := Lib.hid (hv2.drop n)
        have hform := hv1.form
        have hsl := hv1.sl
        have z1 : (0 : Int) ≤ (n : Int) := by omega
        have z2 : (n : Int) ≤ (na : Int) := by omega
        have t0' := KR1.out.cell 0
        have t1' := KR1.out.cell 1
        have tf0 := KR1.out.frozen 0
        have tf1 := KR1.out.frozen 1
        simp at t0' t1'
        have ltr := KR1.out.lt
        obtain ⟨u0, u1⟩ := KR1.out.put2 (.int .i64 0) (.int .i64 0)
        have U0 := Lib.hid u0
        have U1 := Lib.hid u1
        have HB9 := Lib.hid (below_put2 (below_next B0.out hbl.out) (g := w.heap.size) (Nat.le_refl _) (.int .i64 0) (.int .i64 0))
        have HS2 : Hid (((wr.setCell ⟨w.heap.size, 0, none⟩ (.int .i64 0)).setCell ⟨w.heap.size, 1, none⟩ (.int .i64 0)) = wr) := by
          show _ = _
          rw [setCell_id KR1.out rfl, setCell_id KR1.out rfl]
        clear u0 u1
        rcases hform with ⟨rfl, hn0, hc0, _⟩ | ⟨g, cur, rfl, hg, hh, hle, hcm, _⟩
        · obtain rfl : n = 0 := by omega
          subst hn0 hc0
          have HG := Lib.hid (DR.out.sl (A := none) (n := 0) (c := 0) (by simpa using hsl))
          clear hv1 hv2 hsl
          go_wp2_with fail
          exact bodyPost_ret (v := .tuple #[.slice none 0 0, .agg #[.int .i64 0, .int .i64 0]]) (by simp [results, Try.results32, go_sem, U0.out, U1.out]) rfl ⟨none, 0, 0, rfl, by rw [HS2.out]; exact HG.out, HB9.out⟩
        · by_cases hcn : ca = n
          · subst hcn
            obtain rfl : na = ca := by omega
            have HG := Lib.hid (DR.out.sl (A := some ⟨g, 0, none⟩) (n := 0) (c := 0) (by rw [List.drop_of_length_le (by rw [hsl.len]; omega)]; exact Sl.nilAny (Nat.zero_le _)))
            clear hv1 hv2 hsl
            go_wp2_with fail
            exact bodyPost_ret (v := .tuple #[.slice (some ⟨g, 0, none⟩) 0 0, .agg #[.int .i64 0, .int .i64 0]]) (by simp [results, Try.results32, go_sem, U0.out, U1.out]) rfl ⟨some ⟨g, 0, none⟩, 0, 0, rfl, by rw [HS2.out]; exact HG.out, HB9.out⟩
          · have hcp2 : ((ca : Int) = (n : Int)) = False := by simp; omega
            have hcp3 : ¬ ca = n := hcn
            have hcp4 : (ca : Int) ≠ (n : Int) := by omega
            have z3 : (na : Int) ≤ (ca : Int) := by omega
            have HG := Lib.hid (DR.out.sl (A := some ⟨g, n, none⟩) (n := na - n) (c := ca - n) (by have := hsl.drop (p := n) (by omega); simpa using this))
            have hca : ca ≤ 9223372036854775807 := by have := hcm; unfold maxLen at this; omega
            clear hv1 hv2 hsl
            go_wp2_with fail
            exact bodyPost_ret (v := .tuple #[.slice (some ⟨g, n, none⟩) (na - n) (ca - n), .agg #[.int .i64 0, .int .i64 0]]) (by simp [results, Try.results32, go_sem, U0.out, U1.out]) rfl ⟨some ⟨g, n, none⟩, na - n, ca - n, rfl, by rw [HS2.out]; exact HG.out, HB9.out⟩
end Go.Proofs.Ytecgmgidfjbamaa
