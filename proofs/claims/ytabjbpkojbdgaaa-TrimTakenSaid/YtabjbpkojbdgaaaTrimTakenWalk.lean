/- The walk of TrimTaken: it returns true. (Printed by wip/tools/trimtaken.py.) -/
import Derived.Test.YtabjbpkojbdgaaaTrimDo
import Derived.Test.YtabjbpkojbdgaaaTrimCore
import Derived.Test.YtabjbpkojbdgaaaAgainst
import Derived.Test.YtabjbpkojbdgaaaHeavy
import Derived.Test.YtabjbpkojbdgaaaTail
namespace Go.Proofs.Ytabjbpkojbdgaaa
open Go.RowKit
set_option linter.unusedSimpArgs false

theorem agn_proof : proofR 2 [[1, 2], [-1], [-2]] [(1, [])] = (0, 0) := by decide
theorem agn_core : coreI (wantedF 2 [[1, 2], [-1], [-2]] [(1, [])]) 3 0 = [0, 1, 2] := by decide
theorem wrongF_of {vars : Int} : ∀ (rs : List (Int × List Int)) (i : Nat), (∀ r ∈ rs, r.1 = 1 ∧ Lits vars r.2) → wrongF vars rs i = (0, 0)
  | [], _, _ => rfl
  | (k, l) :: t, i, h => by
    obtain ⟨h1, h2⟩ := h (k, l) (by simp)
    simp only at h1 h2
    rw [wrongF, if_neg (by omega), lits_iff.1 h2, if_neg (by simp)]
    exact wrongF_of t (i + 1) fun r hr => h r (by simp [hr])
theorem coreI_range (W : List Bool) : ∀ (f i : Nat), ∀ x ∈ coreI W f i, (i : Int) ≤ x ∧ x < (i : Int) + f
  | 0, _ => by simp [coreI]
  | f + 1, i => fun x hx => by
    rw [coreI] at hx
    split at hx
    · rcases List.mem_cons.1 hx with h | h
      · omega
      · have := coreI_range W f (i + 1) x h; omega
    · have := coreI_range W f (i + 1) x hx; omega
theorem pick_core (W : List Bool) (xss : List (List Int)) : ∀ (f i : Nat), f + i = xss.length → pickF W (xss.drop i) i = (coreI W f i).map (fun x => xss.getD x.toNat [])
  | 0, i, h => by rw [List.drop_of_length_le (by omega), pickF, coreI]; rfl
  | f + 1, i, h => by
    have hi : i < xss.length := by omega
    rw [List.drop_eq_getElem_cons hi, pickF, coreI, pick_core W xss f (i + 1) (by omega)]
    split
    · rw [List.map_cons, Int.toNat_natCast, List.getD_eq_getElem?_getD, List.getElem?_eq_getElem hi]; rfl
    · rfl
theorem learntF_lits {vars : Int} {rs : List (Int × List Int)} (h : ∀ r ∈ rs, (r.1 = 1 ∨ r.1 = 2) ∧ Lits vars r.2) : ∀ x ∈ learntF rs, Lits vars x := fun x hx => by
  unfold learntF at hx
  obtain ⟨r, hr1, rfl⟩ := List.mem_map.1 hx
  exact (h r (List.mem_filter.1 hr1).1).2
/-- The trimmed proof is taken. -/
theorem trimmed_taken {vars : Int} {xss : List (List Int)} {rs : List (Int × List Int)} (hr : proofR vars xss rs = (0, 0)) :
    whyS vars (pickF (wantedF vars xss rs) xss 0) (((pickF (wantedF vars xss rs) (learntF rs) xss.length).map sortF).map (fun x => (1, x))) = (-1, 0, 0) ∧ ((pickF (wantedF vars xss rs) (learntF rs) xss.length).map sortF).length ≤ rs.length := by
  obtain ⟨hwhy, hst0, hacc⟩ := proofR_parts hr
  obtain ⟨_, hck, hm3, hrs⟩ := stepsR_ok hst0
  obtain ⟨_, v0, v1, hn400, hrows⟩ := checkC_ok hck
  have hlen : ((pickF (wantedF vars xss rs) (learntF rs) xss.length).map sortF).length ≤ rs.length := by
    rw [List.length_map]
    refine Nat.le_trans (pickF_len _ _) ?_
    unfold learntF
    rw [List.length_map]
    exact List.length_filter_le _ _
  have hst : stepsR vars (pickF (wantedF vars xss rs) xss 0) (((pickF (wantedF vars xss rs) (learntF rs) xss.length).map sortF).map (fun x => (1, x))) = (0, 0) := by
    have hck2 : checkC vars (pickF (wantedF vars xss rs) xss 0) = (0, 0) := checkC_of v0 v1 (Nat.le_trans (pickF_len _ _) hn400) fun x hx => hrows x (pickF_mem _ _ hx)
    rw [stepsR, hck2, if_neg (by simp), if_neg (by rw [List.length_map]; omega)]
    refine wrongF_of _ _ fun r hr => ?_
    obtain ⟨x, hx, rfl⟩ := List.mem_map.1 hr
    obtain ⟨y, hy, rfl⟩ := List.mem_map.1 hx
    exact ⟨rfl, lits_sort (learntF_lits hrs _ (pickF_mem _ _ hy))⟩
  refine ⟨?_, hlen⟩
  rw [whyS, hst, if_neg (by simp)]
  have := trim_taken (n := rs.length) (n2 := (((pickF (wantedF vars xss rs) (learntF rs) xss.length).map sortF).map (fun x => ((1 : Int), x))).length) v0 (fun x hx => (hrows x hx).2) hrs hacc
  rw [List.map_map]
  rw [List.map_map] at this
  exact congrArg (fun z => (z, (0 : Int), (0 : Int))) this

set_option maxHeartbeats 8000000 in
set_option maxRecDepth 100000 in
theorem trimTaken_walk {vars : Int} {A B : Option Addr} {n c m d : Nat} {xss : List (List Int)} {rs : List (Int × List Int)} (w : World) (hv : I64 vars) (h : Grid w A n c xss) (h' : Steps w B m d rs) :
    Calls Try.prog 9 #[.agg #[.int .i64 vars, .slice A n c], .slice B m d] w fun e w' => e = .returned (.bool true) ∧ Below w.heap.size w w' := by
  have hbd := h.bd
  have hbd' := h'.bd
  have hlen := Lib.hid h.len
  have hlv := Lib.hid h'.len
  have G := Lib.hid h
  have HV := Lib.hid h'
  have hn63 : n ≤ 9223372036854775807 := by omega
  obtain ⟨hvy, hhv⟩ : ∃ r, Hid ((decide (40 < vars) || decide (60 < (n : Int))) = r) := ⟨_, rfl⟩
  obtain ⟨r1, r2, hr⟩ : ∃ r1 r2, Hid (proofR vars xss rs = (r1, r2)) := ⟨_, _, rfl⟩
  clear h h'
  cases hvy
  rotate_left
  · go_enter Try.func9, Try.ntmps9
    go_wp2_with fail
    refine (heavy_any _ _ _ _ _ hn63 _ hhv).mono ?_
    rintro e w1 ⟨rfl, hb1⟩
    obtain ⟨K_c0, B_w1, l_w1⟩ := blk1 hb1
    replace G := Lib.hid (G.out.keep B_w1)
    replace HV := Lib.hid (HV.out.keep B_w1)
    have HB := Lib.hid B_w1
    have K_c := Lib.hid K_c0
    clear hb1 B_w1 K_c0
    have cK_c_0 := K_c.out.cell 0
    have cK_c_1 := K_c.out.cell 1
    simp at cK_c_0 cK_c_1
    have zK_c := K_c.out.lt
    go_wp2_with fail
    go_ret
    exact ⟨rfl, HB.out⟩
  by_cases hm8 : 80 < m
  · have dm : decide ((80 : Int) < (m : Int)) = true := by simp; omega
    go_enter Try.func9, Try.ntmps9
    go_wp2_with fail
    refine (heavy_any _ _ _ _ _ hn63 _ hhv).mono ?_
    rintro e w1 ⟨rfl, hb1⟩
    obtain ⟨K_c0, B_w1, l_w1⟩ := blk1 hb1
    replace G := Lib.hid (G.out.keep B_w1)
    replace HV := Lib.hid (HV.out.keep B_w1)
    have HB := Lib.hid B_w1
    have K_c := Lib.hid K_c0
    clear hb1 B_w1 K_c0
    have cK_c_0 := K_c.out.cell 0
    have cK_c_1 := K_c.out.cell 1
    simp at cK_c_0 cK_c_1
    have zK_c := K_c.out.lt
    go_wp2_with fail
    go_ret
    exact ⟨rfl, HB.out⟩
  have dm : decide ((80 : Int) < (m : Int)) = false := by simp; omega
  by_cases hr1 : r1 = 0
  · subst hr1
    obtain rfl : r2 = 0 := by
      have := hr.out
      rw [proofR] at this
      by_cases g1 : (whyS vars xss rs).2.1 ≠ 0
      · rw [if_pos g1] at this; exact absurd (by rw [this]) g1
      · rw [if_neg g1] at this
        by_cases g2 : (whyS vars xss rs).1 ≠ -1
        · rw [if_pos g2] at this; simp at this
        · rw [if_neg g2] at this; simpa using this.symm
    go_enter Try.func9, Try.ntmps9
    go_wp2_with fail
    refine (heavy_any _ _ _ _ _ hn63 _ hhv).mono ?_
    rintro e w1 ⟨rfl, hb1⟩
    obtain ⟨K_c0, B_w1, l_w1⟩ := blk1 hb1
    replace G := Lib.hid (G.out.keep B_w1)
    replace HV := Lib.hid (HV.out.keep B_w1)
    have HB := Lib.hid B_w1
    have K_c := Lib.hid K_c0
    clear hb1 B_w1 K_c0
    have cK_c_0 := K_c.out.cell 0
    have cK_c_1 := K_c.out.cell 1
    simp at cK_c_0 cK_c_1
    have zK_c := K_c.out.lt
    obtain ⟨hk1, hk2⟩ := trimmed_taken hr.out
    have HK1 := Lib.hid hk1
    have HK2 := Lib.hid hk2
    clear hk1 hk2
    obtain ⟨ob, hob⟩ : ∃ q, Hid (wantedF vars xss rs = q) := ⟨_, rfl⟩
    obtain ⟨R, hR⟩ : ∃ q, Hid ((pickF ob (learntF rs) n).map sortF = q) := ⟨_, rfl⟩
    obtain ⟨Cs, hCs⟩ : ∃ q, Hid (coreI ob n 0 = q) := ⟨_, rfl⟩
    rw [hob.out, hlen.out, hR.out] at HK1 HK2
    go_wp2_with fail
    refine (trimDo_own _ _ _ _ _ _ xss rs vars _ G.out hv HV.out hr ob hob R hR).mono ?_
    rintro e w2 ⟨L2, nl2, cl2, rfl, hL2, hb2⟩
    have B_w2 := hb2
    replace G := Lib.hid (G.out.keep B_w2)
    replace HV := Lib.hid (HV.out.keep B_w2)
    replace K_c := Lib.hid (K_c.out.keep B_w2)
    replace HB := Lib.hid (below_next HB.out B_w2)
    clear hb2 B_w2
    clear cK_c_0 cK_c_1 zK_c
    have cK_c_0 := K_c.out.cell 0
    have cK_c_1 := K_c.out.cell 1
    simp at cK_c_0 cK_c_1
    have zK_c := K_c.out.lt
    have IL := Lib.hid hL2
    clear hL2
    go_wp2_with fail
    refine (trimCore_own _ _ _ _ _ _ xss rs vars _ (G.out.keep (below_new _ _)) hv (HV.out.keep (below_new _ _)) hr ob hob Cs hCs).mono ?_
    rintro e w3 ⟨L3, nl3, cl3, rfl, hI3, hb3⟩
    obtain ⟨K_f0, B_w3, l_w3⟩ := blk1 hb3
    replace G := Lib.hid (G.out.keep B_w3)
    replace HV := Lib.hid (HV.out.keep B_w3)
    replace IL := Lib.hid (IL.out.keep B_w3)
    replace K_c := Lib.hid (K_c.out.keep B_w3)
    replace HB := Lib.hid (below_next HB.out B_w3)
    have K_f := Lib.hid K_f0
    clear hb3 B_w3 K_f0
    clear cK_c_0 cK_c_1 zK_c
    have cK_c_0 := K_c.out.cell 0
    have cK_c_1 := K_c.out.cell 1
    simp at cK_c_0 cK_c_1
    have zK_c := K_c.out.lt
    have cK_f_0 := K_f.out.cell 0
    have cK_f_1 := K_f.out.cell 1
    simp at cK_f_0 cK_f_1
    have zK_f := K_f.out.lt
    have IC := Lib.hid hI3
    clear hI3
    go_wp2_with fail
    refine (against_any _).mono ?_
    rintro e w4 ⟨A5, n5, c5, rfl, hG5, hb4⟩
    obtain ⟨K_g0, B_w4, l_w4⟩ := blk1 hb4
    replace G := Lib.hid (G.out.keep B_w4)
    replace HV := Lib.hid (HV.out.keep B_w4)
    replace IL := Lib.hid (IL.out.keep B_w4)
    replace IC := Lib.hid (IC.out.keep B_w4)
    replace K_c := Lib.hid (K_c.out.keep B_w4)
    replace K_f := Lib.hid (K_f.out.keep B_w4)
    replace HB := Lib.hid (below_next HB.out B_w4)
    have K_g := Lib.hid K_g0
    clear hb4 B_w4 K_g0
    clear cK_c_0 cK_c_1 zK_c cK_f_0 cK_f_1 zK_f
    have cK_c_0 := K_c.out.cell 0
    have cK_c_1 := K_c.out.cell 1
    simp at cK_c_0 cK_c_1
    have zK_c := K_c.out.lt
    have cK_f_0 := K_f.out.cell 0
    have cK_f_1 := K_f.out.cell 1
    simp at cK_f_0 cK_f_1
    have zK_f := K_f.out.lt
    have cK_g_0 := K_g.out.cell 0
    have cK_g_1 := K_g.out.cell 1
    simp at cK_g_0 cK_g_1
    have zK_g := K_g.out.lt
    have GP := Lib.hid hG5
    clear hG5
    go_wp2_with fail
    refine (end_any _).mono ?_
    rintro e w5 ⟨A6, n6, c6, rfl, hS6, hb5⟩
    have B_w5 := hb5
    replace G := Lib.hid (G.out.keep B_w5)
    replace HV := Lib.hid (HV.out.keep B_w5)
    replace IL := Lib.hid (IL.out.keep B_w5)
    replace IC := Lib.hid (IC.out.keep B_w5)
    replace GP := Lib.hid (GP.out.keep B_w5)
    replace K_c := Lib.hid (K_c.out.keep B_w5)
    replace K_f := Lib.hid (K_f.out.keep B_w5)
    replace K_g := Lib.hid (K_g.out.keep B_w5)
    replace HB := Lib.hid (below_next HB.out B_w5)
    clear hb5 B_w5
    clear cK_c_0 cK_c_1 zK_c cK_f_0 cK_f_1 zK_f cK_g_0 cK_g_1 zK_g
    have cK_c_0 := K_c.out.cell 0
    have cK_c_1 := K_c.out.cell 1
    simp at cK_c_0 cK_c_1
    have zK_c := K_c.out.lt
    have cK_f_0 := K_f.out.cell 0
    have cK_f_1 := K_f.out.cell 1
    simp at cK_f_0 cK_f_1
    have zK_f := K_f.out.lt
    have cK_g_0 := K_g.out.cell 0
    have cK_g_1 := K_g.out.cell 1
    simp at cK_g_0 cK_g_1
    have zK_g := K_g.out.lt
    have SP := Lib.hid hS6
    clear hS6
    have hn5 : n5 = 3 := GP.out.len.symm
    subst hn5
    go_wp2_with fail
    refine (trimCore_own _ _ _ _ _ _ [[1, 2], [-1], [-2]] [(1, [])] 2 _ GP.out ⟨by omega, by omega⟩ SP.out agn_proof _ rfl [0, 1, 2] agn_core).mono ?_
    rintro e w6 ⟨L6, nl6, cl6, rfl, hI6, hb6⟩
    have B_w6 := hb6
    replace G := Lib.hid (G.out.keep B_w6)
    replace HV := Lib.hid (HV.out.keep B_w6)
    replace IL := Lib.hid (IL.out.keep B_w6)
    replace IC := Lib.hid (IC.out.keep B_w6)
    replace GP := Lib.hid (GP.out.keep B_w6)
    replace SP := Lib.hid (SP.out.keep B_w6)
    replace K_c := Lib.hid (K_c.out.keep B_w6)
    replace K_f := Lib.hid (K_f.out.keep B_w6)
    replace K_g := Lib.hid (K_g.out.keep B_w6)
    replace HB := Lib.hid (below_next HB.out B_w6)
    clear hb6 B_w6
    clear cK_c_0 cK_c_1 zK_c cK_f_0 cK_f_1 zK_f cK_g_0 cK_g_1 zK_g
    have cK_c_0 := K_c.out.cell 0
    have cK_c_1 := K_c.out.cell 1
    simp at cK_c_0 cK_c_1
    have zK_c := K_c.out.lt
    have cK_f_0 := K_f.out.cell 0
    have cK_f_1 := K_f.out.cell 1
    simp at cK_f_0 cK_f_1
    have zK_f := K_f.out.lt
    have cK_g_0 := K_g.out.cell 0
    have cK_g_1 := K_g.out.cell 1
    simp at cK_g_0 cK_g_1
    have zK_g := K_g.out.lt
    have IO := Lib.hid hI6
    clear hI6
    go_wp2_with fail
    refine (same_any _ _ _ _ _ _ [0, 1, 2] [0, 1, 2] _ (IO.out.keep (below_alloc (below_new _ _) _)) (ints_made _ 3 [0, 1, 2] (by simp) (by simp [I64]) (by decide)) true (by show _ = _; rfl)).mono ?_
    rintro e w7 hq7
    obtain ⟨rfl, hb7⟩ := hq7.v
    clear hq7
    obtain ⟨K_h0, K_m0, B_w7, l_w7⟩ := two_blks hb7
    replace G := Lib.hid (G.out.keep B_w7)
    replace HV := Lib.hid (HV.out.keep B_w7)
    replace IL := Lib.hid (IL.out.keep B_w7)
    replace IC := Lib.hid (IC.out.keep B_w7)
    replace GP := Lib.hid (GP.out.keep B_w7)
    replace SP := Lib.hid (SP.out.keep B_w7)
    replace IO := Lib.hid (IO.out.keep B_w7)
    replace K_c := Lib.hid (K_c.out.keep B_w7)
    replace K_f := Lib.hid (K_f.out.keep B_w7)
    replace K_g := Lib.hid (K_g.out.keep B_w7)
    replace HB := Lib.hid (below_next HB.out B_w7)
    have K_h := Lib.hid K_h0
    have K_m := Lib.hid K_m0
    clear hb7 B_w7 K_h0 K_m0
    clear cK_c_0 cK_c_1 zK_c cK_f_0 cK_f_1 zK_f cK_g_0 cK_g_1 zK_g
    have cK_c_0 := K_c.out.cell 0
    have cK_c_1 := K_c.out.cell 1
    simp at cK_c_0 cK_c_1
    have zK_c := K_c.out.lt
    have cK_f_0 := K_f.out.cell 0
    have cK_f_1 := K_f.out.cell 1
    simp at cK_f_0 cK_f_1
    have zK_f := K_f.out.lt
    have cK_g_0 := K_g.out.cell 0
    have cK_g_1 := K_g.out.cell 1
    simp at cK_g_0 cK_g_1
    have zK_g := K_g.out.lt
    have cK_h_0 := K_h.out.cell 0
    have cK_h_1 := K_h.out.cell 1
    simp at cK_h_0 cK_h_1
    have zK_h := K_h.out.lt
    have cK_m_0 := K_m.out.cell 0
    have cK_m_1 := K_m.out.cell 1
    have cK_m_2 := K_m.out.cell 2
    simp at cK_m_0 cK_m_1 cK_m_2
    have zK_m := K_m.out.lt
    have hl2m : nl2 ≤ m := by have h1 := HK2.out; have h2 := IL.out.len; have h3 := hlv.out; omega
    have dl2 : decide ((m : Int) < (nl2 : Int)) = false := by simp; omega
    have dl3 : decide (m < nl2) = false := by simp; omega
    go_wp2_with fail
    obtain ⟨dbx, hdbx⟩ : ∃ q, q = w7.heap.size := ⟨_, rfl⟩
    have KD0 : Hid (Blk (w7.alloc (.cells #[.int .i64 vars, .slice none 0 0] 24)) dbx 24 #[.int .i64 vars, .slice none 0 0]) := by rw [hdbx]; exact Blk.new _ _ _
    have HDX : Hid (dbx = w7.heap.size) := hdbx
    have HB70 : Hid (Below w7.heap.size w7 (w7.alloc (.cells #[.int .i64 vars, .slice none 0 0] 24))) := below_new _ _
    rw [← hdbx]
    have hCR : Hid (∀ x ∈ Cs, 0 ≤ x ∧ x < n) := fun x hx => by rw [← hCs.out] at hx; have := coreI_range ob n 0 x hx; omega
    have hCI : Hid (∀ x ∈ Cs, I64 x) := fun x hx => by have := hCR.out x hx; unfold I64; omega
    have hn60 : n ≤ 60 := by have := hhv.out; simp at this; omega
    have hnl3 : nl3 ≤ 400 := by
      have h1 := IC.out.len
      have h2 : (coreI ob n 0).length ≤ n := by
        have key : ∀ (f i : Nat), (coreI ob f i).length ≤ f := by
          intro f
          induction f with
          | zero => intro i; simp [coreI]
          | succ f ih => intro i; have := ih (i + 1); rw [coreI]; split <;> simp <;> omega
        exact key n 0
      rw [hCs.out] at h2
      omega
    obtain ⟨i0, hi0, hz0, hz1, hz2⟩ := info_parts row_info
    have OD0 : Hid (OwnP 25 3 (w7.alloc (.cells #[.int .i64 vars, .slice none 0 0] 24)) (dbx + 1) dbx none 0 0 ((Cs.take 0).map (fun x => xss.getD x.toNat []))) := OwnP.nil _ _ _ _ _
    clear hdbx
    go_loopw [12] (fun s12 wr => ∃ (k nd cd : Nat) (D : Option Addr), k ≤ nl3 ∧ nd ≤ k ∧ s12 = .int .i64 k ∧ Hid (Blk wr dbx 24 #[.int .i64 vars, .slice D nd cd]) ∧ Hid (OwnP 25 3 wr (dbx + 1) dbx D nd cd ((Cs.take k).map (fun x => xss.getD x.toNat []))) ∧ Hid (Below w7.heap.size w7 wr)) (fun i _ => nl3 - (intOf i).toNat)
    case atStart => exact ⟨0, 0, 0, none, Nat.zero_le _, Nat.le_refl _, rfl, KD0, OD0, HB70⟩
    case round =>
      clear KD0 OD0 HB70 cK_c_0 cK_c_1 zK_c cK_f_0 cK_f_1 zK_f cK_g_0 cK_g_1 zK_g cK_h_0 cK_h_1 zK_h cK_m_0 cK_m_1 cK_m_2 zK_m
      obtain ⟨k, nd, cd, D, hk, hnd, rfl, hKD, hOD, hB⟩ := hrel
      have KCr := (K_c.out.keep hB.out).cell 1
      simp at KCr
      have zcr := (cell_lt KCr).1
      have hwr : dbx + 1 ≤ wr.heap.size := hKD.out.lt
      by_cases hkn : k < nl3
      · obtain ⟨b1, off1, x, hAe, hbb, hcell7, x1, x2, hxk⟩ := IC.out.round hkn
        have hcell1 := keepBox hB.out hcell7
        have H7c := Lib.hid hcell7
        clear hcell7
        have hxr := hCR.out x (List.mem_of_getElem? hxk.out)
        obtain ⟨xN, rfl⟩ : ∃ xN : Nat, x = (xN : Int) := ⟨x.toNat, by omega⟩
        have hxn : xN < n := by omega
        obtain ⟨bg, offg, A', n', c', xs, hGe, hbg, hcellg, hIx, hxg⟩ := G.out.round hxn
        have HAW : Hid (Away 3 w7 w7.heap.size A' n') := Away.old hIx (Nat.le_refl _)
        have HIX := Lib.hid (hIx.keep hB.out)
        have hcg := keepBox hB.out hcellg
        have H7g := Lib.hid hcellg
        have h7k := K_c.out.cell 1
        simp at h7k
        have H7k := Lib.hid h7k
        clear h7k
        have hds : Hid ((Cs.take (k + 1)).map (fun x => xss.getD x.toNat []) = (Cs.take k).map (fun x => xss.getD x.toNat []) ++ [xs]) := by
          show _ = _
          rw [take_snoc_of hxk.out, List.map_append, List.map_cons, List.map_nil, Int.toNat_natCast, List.getD_eq_getElem?_getD, hxg.out]; rfl
        have z1 := (cell_lt hcell1).1
        have z2 := (cell_lt hcg).1
        have z3 : (0 : Int) ≤ (k : Int) := by omega
        have z4 : (k : Int) < (nl3 : Int) := by omega
        have z5 : (0 : Int) ≤ (xN : Int) := by omega
        have z6 : (xN : Int) < (n : Int) := by omega
        have HAE : Hid (L3 = some ⟨b1, off1, none⟩) := hAe
        have HGE : Hid (A = some ⟨bg, offg, none⟩) := hGe
        subst hAe hGe
        clear hxk hxg hIx hbg hbb hcellg
        go_wp2_with fail
        go_quiet (fail)
        obtain ⟨wq, hwq⟩ : ∃ wq : World, wq = wr.drewN nq := ⟨_, rfl⟩
        have hbq : Below wr.heap.size wr wq := by rw [hwq]; exact below_drewN _ _
        (try rw [← hwq])
        have hcq1 := keepBox hbq hcell1
        have hcqg := keepBox hbq hcg
        have hcqc := keepBox hbq KCr
        have HKQ := Lib.hid (hKD.out.keep hbq)
        have HOQ := Lib.hid (hOD.out.keep hbq)
        have HBQ := Lib.hid (below_next hB.out hbq)
        have HIQ := Lib.hid (HIX.out.keep hbq)
        have hkq := HKQ.out.cell 1
        simp at hkq
        have y1 := (cell_lt hcq1).1
        have y2 := (cell_lt hcqg).1
        have y3 := (cell_lt hcqc).1
        have y4 := HKQ.out.lt
        clear hwq hbq hcell1 hcg KCr zcr hKD hOD hB HIX z1 z2 hwr
        go_wp2_with fail
        obtain ⟨wd, hwd⟩ : ∃ wd : World, wd = wq.drew := ⟨_, rfl⟩
        have hbd2 : Below wq.heap.size wq wd := by rw [hwd]; exact below_drewN _ 1
        have hS : wd.cell? ⟨dbx, 1, none⟩ = some (.slice D nd cd) ∧ wd.cell? ⟨w.heap.size, 1, none⟩ = some (.slice (some ⟨bg, offg, none⟩) n c) ∧ wd.cell? ⟨b1, off1 + k, none⟩ = some (.int .i64 xN) ∧ wd.cell? ⟨bg, offg + xN, none⟩ = some (.slice A' n' c') := ⟨keepBox hbd2 hkq, keepBox hbd2 hcqc, keepBox hbd2 hcq1, keepBox hbd2 hcqg⟩
        have HKd := Lib.hid (HKQ.out.keep hbd2)
        have HOd := Lib.hid (HOQ.out.keep hbd2)
        have HBd := Lib.hid (below_next HBQ.out hbd2)
        have HId := Lib.hid (HIQ.out.keep hbd2)
        have HAd := Lib.hid (HAW.out.keep HBd.out)
        have hzd := HBd.out.size
        have y9 := HKd.out.lt
        clear hbd2 hkq hcqc hcq1 hcqg y1 y2 y3 y4
        refine wp_region_tail (fun w' => w'.cell? ⟨dbx, 1, none⟩ = some (.slice D nd cd) ∧ w'.cell? ⟨w.heap.size, 1, none⟩ = some (.slice (some ⟨bg, offg, none⟩) n c) ∧ w'.cell? ⟨b1, off1 + k, none⟩ = some (.int .i64 xN) ∧ w'.cell? ⟨bg, offg + xN, none⟩ = some (.slice A' n' c')) [13] (by kernel_rfl) ?_
        change wpAnyT _ _ _ _ _ _ _ _ _ wq.drew
        rw [← hwd]
        clear hwd
        refine take0 (i := 0) (oi := _) (v := ?_) rfl (by kernel_rfl) (by kernel_rfl) (by kernel_rfl) (fun _ _ _ h => h) rfl (Or.inl ⟨by rfl, ?_⟩) (fun _ => hS) ?_
        rotate_left
        · intro w0; go_simp; with_reducible rfl
        (try simp only [Act.put, List.setIfInBounds_toArray, List.set_cons_zero, List.set_cons_succ])
        refine takeS (i := 1) (oi := _) (v := ?_) rfl (by kernel_rfl) (by kernel_rfl) (by kernel_rfl) (fun _ _ _ h => h) rfl (by kernel_rfl) (by kernel_rfl) (Or.inl ⟨by rfl, ?_⟩) hS ?_
        rotate_left
        · intro w0 hSw; (try dsimp only at hSw); go_simp; with_reducible rfl
        (try simp only [Act.put, List.setIfInBounds_toArray, List.set_cons_zero, List.set_cons_succ])
        refine take0 (i := 2) (oi := _) (v := ?_) rfl (by kernel_rfl) (by kernel_rfl) (by kernel_rfl) (fun _ _ _ h => h) rfl (Or.inl ⟨by rfl, ?_⟩) (fun _ => hS) ?_
        rotate_left
        · intro w0; go_simp; with_reducible rfl
        (try simp only [Act.put, List.setIfInBounds_toArray, List.set_cons_zero, List.set_cons_succ])
        refine takeS (i := 3) (oi := _) (v := ?_) rfl (by kernel_rfl) (by kernel_rfl) (by kernel_rfl) (fun _ _ _ h => h) rfl (by kernel_rfl) (by kernel_rfl) (Or.inl ⟨by rfl, ?_⟩) hS ?_
        rotate_left
        · intro w0 hSw; (try dsimp only at hSw); go_simp; with_reducible rfl
        (try simp only [Act.put, List.setIfInBounds_toArray, List.set_cons_zero, List.set_cons_succ])
        refine take0 (i := 4) (oi := _) (v := ?_) rfl (by kernel_rfl) (by kernel_rfl) (by kernel_rfl) (fun _ _ _ h => h) rfl (Or.inl ⟨by rfl, ?_⟩) (fun _ => hS) ?_
        rotate_left
        · intro w0; go_simp; with_reducible rfl
        (try simp only [Act.put, List.setIfInBounds_toArray, List.set_cons_zero, List.set_cons_succ])
        refine take0 (i := 5) (oi := _) (v := ?_) rfl (by kernel_rfl) (by kernel_rfl) (by kernel_rfl) (fun _ _ _ h => h) rfl (Or.inl ⟨by rfl, ?_⟩) (fun _ => hS) ?_
        rotate_left
        · intro w0; go_simp; with_reducible rfl
        (try simp only [Act.put, List.setIfInBounds_toArray, List.set_cons_zero, List.set_cons_succ])
        refine take0 (i := 6) (oi := _) (v := ?_) rfl (by kernel_rfl) (by kernel_rfl) (by kernel_rfl) (fun _ _ _ h => h) rfl (Or.inl ⟨by rfl, ?_⟩) (fun _ => hS) ?_
        rotate_left
        · intro w0; go_simp; with_reducible rfl
        (try simp only [Act.put, List.setIfInBounds_toArray, List.set_cons_zero, List.set_cons_succ])
        refine takeS (i := 7) (oi := _) (v := ?_) rfl (by kernel_rfl) (by kernel_rfl) (by kernel_rfl) (fun _ _ _ h => h) rfl (by kernel_rfl) (by kernel_rfl) (Or.inl ⟨by rfl, ?_⟩) hS ?_
        rotate_left
        · intro w0 hSw; (try dsimp only at hSw); go_simp; with_reducible rfl
        (try simp only [Act.put, List.setIfInBounds_toArray, List.set_cons_zero, List.set_cons_succ])
        refine take0 (i := 8) (oi := _) (v := ?_) rfl (by kernel_rfl) (by kernel_rfl) (by kernel_rfl) (fun _ _ _ h => h) rfl (Or.inl ⟨by rfl, ?_⟩) (fun _ => hS) ?_
        rotate_left
        · intro w0; go_simp; with_reducible rfl
        (try simp only [Act.put, List.setIfInBounds_toArray, List.set_cons_zero, List.set_cons_succ])
        refine takeS (i := 9) (oi := _) (v := ?_) rfl (by kernel_rfl) (by kernel_rfl) (by kernel_rfl) (fun _ _ _ h => h) rfl (by kernel_rfl) (by kernel_rfl) (Or.inl ⟨by rfl, ?_⟩) hS ?_
        rotate_left
        · intro w0 hSw; (try dsimp only at hSw); go_simp; with_reducible rfl
        (try simp only [Act.put, List.setIfInBounds_toArray, List.set_cons_zero, List.set_cons_succ])
        refine oneT (i := 10) (by kernel_rfl) rfl (by rfl) (fun K hK => ?_)
        obtain ⟨v1, hv1⟩ : ∃ v1 : World, v1 = wd.alloc (.cells #[.slice A' n' c'] 25) := ⟨_, rfl⟩
        have bv1 : Below wd.heap.size wd v1 := by rw [hv1]; exact below_new _ _
        have SB : Hid (Sl v1 (some ⟨wd.heap.size, 0, none⟩) 1 1 [.slice A' n' c']) := by rw [hv1]; exact sl_one wd 25 (.slice A' n' c') rfl
        have hS1 : v1.cell? ⟨dbx, 1, none⟩ = some (.slice D nd cd) ∧ v1.cell? ⟨w.heap.size, 1, none⟩ = some (.slice (some ⟨bg, offg, none⟩) n c) ∧ v1.cell? ⟨b1, off1 + k, none⟩ = some (.int .i64 xN) ∧ v1.cell? ⟨bg, offg + xN, none⟩ = some (.slice A' n' c') := ⟨keepBox bv1 hS.1, keepBox bv1 hS.2.1, keepBox bv1 hS.2.2.1, keepBox bv1 hS.2.2.2⟩
        have HO1 := Lib.hid (HOd.out.keep bv1)
        obtain ⟨vs, hv1o, hv2o⟩ := HO1.out
        have HVO := Lib.hid hv1o
        have HVP := Lib.hid hv2o
        have HK1 := Lib.hid (HKd.out.keep bv1)
        have HB1' := Lib.hid (below_next HBd.out bv1)
        have HI1 := Lib.hid (HId.out.keep bv1)
        have HA1 := Lib.hid (HAd.out.keep bv1)
        have hz1' := HK1.out.lt
        go_simp
        rw [← hv1]
        clear hv1 bv1 hv1o hv2o
        refine hK _ _ (fun _ => hS1) ?_
        clear hK
        (try simp only [Act.put, List.setIfInBounds_toArray, List.set_cons_zero, List.set_cons_succ])
        refine oneT (i := 11) (by kernel_rfl) rfl (by rfl) (fun K hK => ?_)
        refine wp_append_sl _ (.tmp 100) (.tmp 109) 22 rfl (dbx + 1) 25 i0 _ 24 Try.underlying22 hi0 hz0 hz1 hz2 rfl D nd cd vs rfl HVO.out (some ⟨wd.heap.size, 0, none⟩) 1 1 [.slice A' n' c'] rfl SB.out (by simp [Value.oneCell']) (by simp only [maxLen]; omega) (by omega) (by omega) ?_
        intro D2 cd2 v2 hO2 hG2 hA2
        have HP2 := Lib.hid (OwnP.push HVO.out HVP.out (by omega) row_ne HI1.out (by rw [HDX.out]; exact HA1.out) hO2 hG2)
        have hgrb : ∀ q, blockOf D = some q → dbx + 1 ≤ q := fun q hq => own_base HVO.out hq
        have HB2 : Hid (Below w7.heap.size w7 v2) := HB1'.out.grown hG2 HB1'.out.size (fun q hq => by have := hgrb q hq; have := HDX.out; omega)
        have HK2' : Hid (Blk v2 dbx 24 #[.int .i64 vars, .slice D nd cd]) := HK1.out.grown hG2 (fun e => by have := hgrb dbx e.symm; omega)
        have kf := HK2'.out.frozen 1
        have kc1 := HK2'.out.cell 1
        simp at kc1
        have kl := HK2'.out.lt
        have hS2 : v2.cell? ⟨dbx, 1, none⟩ = some (.slice D nd cd) ∧ v2.cell? ⟨w.heap.size, 1, none⟩ = some (.slice (some ⟨bg, offg, none⟩) n c) ∧ v2.cell? ⟨b1, off1 + k, none⟩ = some (.int .i64 xN) ∧ v2.cell? ⟨bg, offg + xN, none⟩ = some (.slice A' n' c') := ⟨kc1, keepBox HB2.out H7k.out, keepBox HB2.out H7c.out, keepBox HB2.out H7g.out⟩
        refine hK _ _ (fun _ => hS2) ?_
        clear hK
        (try simp only [Act.put, List.setIfInBounds_toArray, List.set_cons_zero, List.set_cons_succ])
        (try simp only [Nat.zero_add])
        refine oneT (i := 12) (by kernel_rfl) rfl (by rfl) (fun K hK => ?_)
        go_simp
        refine hK _ _ (fun _ => hS2) ?_
        clear hK
        (try simp only [Act.put, List.setIfInBounds_toArray, List.set_cons_zero, List.set_cons_succ])
        refine oneT (i := 13) (by kernel_rfl) rfl (by rfl) (fun K hK => ?_)
        go_simp
        refine hK _ _ (noT_no (by kernel_rfl)) ?_
        clear hK
        refine doneT (by kernel_rfl) ?_ _
        go_wp2_with fail
        go_roundw
        case rel =>
          refine ⟨k + 1, nd + 1, cd2, D2, by omega, by omega, by go_num, ?_, ?_, ?_⟩
          · have := HK2'.out.set_ 1 (.slice D2 (nd + 1) cd2)
            simpa [Hid] using this
          · rw [Hid, hds.out]
            exact HP2.out.kept (grown_setCell _ ⟨dbx, 1, none⟩ _) (fun q hq => by cases hq; exact ⟨Nat.le_refl _, Typed.of_blk HK2'.out⟩) (by decide) (by decide)
          · exact HB2.out.setCell (p := ⟨dbx, 1, none⟩) (by have := HDX.out; simp; omega) _
        case measure => simp [intOf] <;> omega
      · obtain rfl : k = nl3 := by omega
        have hD : Hid (OwnP 25 3 wr (dbx + 1) dbx D nd cd (pickF ob xss 0)) := by
          have h1 := hOD.out
          rw [List.take_of_length_le (by rw [IC.out.len]; exact Nat.le_refl _)] at h1
          have h2 := pick_core ob xss n 0 (by rw [hlen.out]; rfl)
          rw [List.drop_zero, hCs.out] at h2
          rw [Hid, h2]
          exact h1
        have GD := Lib.hid hD.out.grid
        have e0 := hKD.out.cell 0
        have e1 := hKD.out.cell 1
        simp at e0 e1
        have ze := hKD.out.lt
        have LR := Lib.hid ((IL.out.keep hB.out).steps)
        have BW := Lib.hid (below_next HB.out hB.out)
        clear hKD hOD hB KCr zcr hD
        go_wp2_with fail
        refine (take_any _ _ _ _ _ _ (pickF ob xss 0) (R.map (fun x => (1, x))) vars _ GD.out hv LR.out (-1) 0 0 HK1 true (by show _ = _; rfl)).mono ?_
        rintro e wz ⟨rfl, hbz⟩
        have BZ := Lib.hid (below_next BW.out hbz)
        clear hbz e0 e1 ze
        go_wp2_with fail
        go_ret
        exact ⟨rfl, below_next BZ.out (below_new _ _)⟩
  · have d1 : (r1 != 0) = true := by simpa using hr1
    go_enter Try.func9, Try.ntmps9
    go_wp2_with fail
    refine (heavy_any _ _ _ _ _ hn63 _ hhv).mono ?_
    rintro e w1 ⟨rfl, hb1⟩
    obtain ⟨K_c0, B_w1, l_w1⟩ := blk1 hb1
    replace G := Lib.hid (G.out.keep B_w1)
    replace HV := Lib.hid (HV.out.keep B_w1)
    have HB := Lib.hid B_w1
    have K_c := Lib.hid K_c0
    clear hb1 B_w1 K_c0
    have cK_c_0 := K_c.out.cell 0
    have cK_c_1 := K_c.out.cell 1
    simp at cK_c_0 cK_c_1
    have zK_c := K_c.out.lt
    go_wp2_with fail
    refine (trimDo_wrong _ _ _ _ _ _ xss rs vars _ G.out hv HV.out r1 r2 hr hr1).mono ?_
    rintro e w2 ⟨rfl, hb2⟩
    have B_w2 := hb2
    replace G := Lib.hid (G.out.keep B_w2)
    replace HV := Lib.hid (HV.out.keep B_w2)
    replace K_c := Lib.hid (K_c.out.keep B_w2)
    replace HB := Lib.hid (below_next HB.out B_w2)
    clear hb2 B_w2
    clear cK_c_0 cK_c_1 zK_c
    have cK_c_0 := K_c.out.cell 0
    have cK_c_1 := K_c.out.cell 1
    simp at cK_c_0 cK_c_1
    have zK_c := K_c.out.lt
    go_wp2_with fail
    refine (trimCore_wrong _ _ _ _ _ _ xss rs vars _ (G.out.keep (below_new _ _)) hv (HV.out.keep (below_new _ _)) r1 r2 hr hr1).mono ?_
    rintro e w3 ⟨rfl, hb3⟩
    obtain ⟨K_f0, B_w3, l_w3⟩ := blk1 hb3
    replace G := Lib.hid (G.out.keep B_w3)
    replace HV := Lib.hid (HV.out.keep B_w3)
    replace K_c := Lib.hid (K_c.out.keep B_w3)
    replace HB := Lib.hid (below_next HB.out B_w3)
    have K_f := Lib.hid K_f0
    clear hb3 B_w3 K_f0
    clear cK_c_0 cK_c_1 zK_c
    have cK_c_0 := K_c.out.cell 0
    have cK_c_1 := K_c.out.cell 1
    simp at cK_c_0 cK_c_1
    have zK_c := K_c.out.lt
    have cK_f_0 := K_f.out.cell 0
    have cK_f_1 := K_f.out.cell 1
    simp at cK_f_0 cK_f_1
    have zK_f := K_f.out.lt
    go_wp2_with fail
    refine (against_any _).mono ?_
    rintro e w4 ⟨A5, n5, c5, rfl, hG5, hb4⟩
    obtain ⟨K_g0, B_w4, l_w4⟩ := blk1 hb4
    replace G := Lib.hid (G.out.keep B_w4)
    replace HV := Lib.hid (HV.out.keep B_w4)
    replace K_c := Lib.hid (K_c.out.keep B_w4)
    replace K_f := Lib.hid (K_f.out.keep B_w4)
    replace HB := Lib.hid (below_next HB.out B_w4)
    have K_g := Lib.hid K_g0
    clear hb4 B_w4 K_g0
    clear cK_c_0 cK_c_1 zK_c cK_f_0 cK_f_1 zK_f
    have cK_c_0 := K_c.out.cell 0
    have cK_c_1 := K_c.out.cell 1
    simp at cK_c_0 cK_c_1
    have zK_c := K_c.out.lt
    have cK_f_0 := K_f.out.cell 0
    have cK_f_1 := K_f.out.cell 1
    simp at cK_f_0 cK_f_1
    have zK_f := K_f.out.lt
    have cK_g_0 := K_g.out.cell 0
    have cK_g_1 := K_g.out.cell 1
    simp at cK_g_0 cK_g_1
    have zK_g := K_g.out.lt
    have GP := Lib.hid hG5
    clear hG5
    go_wp2_with fail
    refine (end_any _).mono ?_
    rintro e w5 ⟨A6, n6, c6, rfl, hS6, hb5⟩
    have B_w5 := hb5
    replace G := Lib.hid (G.out.keep B_w5)
    replace HV := Lib.hid (HV.out.keep B_w5)
    replace GP := Lib.hid (GP.out.keep B_w5)
    replace K_c := Lib.hid (K_c.out.keep B_w5)
    replace K_f := Lib.hid (K_f.out.keep B_w5)
    replace K_g := Lib.hid (K_g.out.keep B_w5)
    replace HB := Lib.hid (below_next HB.out B_w5)
    clear hb5 B_w5
    clear cK_c_0 cK_c_1 zK_c cK_f_0 cK_f_1 zK_f cK_g_0 cK_g_1 zK_g
    have cK_c_0 := K_c.out.cell 0
    have cK_c_1 := K_c.out.cell 1
    simp at cK_c_0 cK_c_1
    have zK_c := K_c.out.lt
    have cK_f_0 := K_f.out.cell 0
    have cK_f_1 := K_f.out.cell 1
    simp at cK_f_0 cK_f_1
    have zK_f := K_f.out.lt
    have cK_g_0 := K_g.out.cell 0
    have cK_g_1 := K_g.out.cell 1
    simp at cK_g_0 cK_g_1
    have zK_g := K_g.out.lt
    have SP := Lib.hid hS6
    clear hS6
    have hn5 : n5 = 3 := GP.out.len.symm
    subst hn5
    go_wp2_with fail
    refine (trimCore_own _ _ _ _ _ _ [[1, 2], [-1], [-2]] [(1, [])] 2 _ GP.out ⟨by omega, by omega⟩ SP.out agn_proof _ rfl [0, 1, 2] agn_core).mono ?_
    rintro e w6 ⟨L6, nl6, cl6, rfl, hI6, hb6⟩
    have B_w6 := hb6
    replace G := Lib.hid (G.out.keep B_w6)
    replace HV := Lib.hid (HV.out.keep B_w6)
    replace GP := Lib.hid (GP.out.keep B_w6)
    replace SP := Lib.hid (SP.out.keep B_w6)
    replace K_c := Lib.hid (K_c.out.keep B_w6)
    replace K_f := Lib.hid (K_f.out.keep B_w6)
    replace K_g := Lib.hid (K_g.out.keep B_w6)
    replace HB := Lib.hid (below_next HB.out B_w6)
    clear hb6 B_w6
    clear cK_c_0 cK_c_1 zK_c cK_f_0 cK_f_1 zK_f cK_g_0 cK_g_1 zK_g
    have cK_c_0 := K_c.out.cell 0
    have cK_c_1 := K_c.out.cell 1
    simp at cK_c_0 cK_c_1
    have zK_c := K_c.out.lt
    have cK_f_0 := K_f.out.cell 0
    have cK_f_1 := K_f.out.cell 1
    simp at cK_f_0 cK_f_1
    have zK_f := K_f.out.lt
    have cK_g_0 := K_g.out.cell 0
    have cK_g_1 := K_g.out.cell 1
    simp at cK_g_0 cK_g_1
    have zK_g := K_g.out.lt
    have IO := Lib.hid hI6
    clear hI6
    go_wp2_with fail
    refine (same_any _ _ _ _ _ _ [0, 1, 2] [0, 1, 2] _ (IO.out.keep (below_alloc (below_new _ _) _)) (ints_made _ 3 [0, 1, 2] (by simp) (by simp [I64]) (by decide)) true (by show _ = _; rfl)).mono ?_
    rintro e w7 hq7
    obtain ⟨rfl, hb7⟩ := hq7.v
    clear hq7
    obtain ⟨K_h0, K_m0, B_w7, l_w7⟩ := two_blks hb7
    replace G := Lib.hid (G.out.keep B_w7)
    replace HV := Lib.hid (HV.out.keep B_w7)
    replace GP := Lib.hid (GP.out.keep B_w7)
    replace SP := Lib.hid (SP.out.keep B_w7)
    replace IO := Lib.hid (IO.out.keep B_w7)
    replace K_c := Lib.hid (K_c.out.keep B_w7)
    replace K_f := Lib.hid (K_f.out.keep B_w7)
    replace K_g := Lib.hid (K_g.out.keep B_w7)
    replace HB := Lib.hid (below_next HB.out B_w7)
    have K_h := Lib.hid K_h0
    have K_m := Lib.hid K_m0
    clear hb7 B_w7 K_h0 K_m0
    clear cK_c_0 cK_c_1 zK_c cK_f_0 cK_f_1 zK_f cK_g_0 cK_g_1 zK_g
    have cK_c_0 := K_c.out.cell 0
    have cK_c_1 := K_c.out.cell 1
    simp at cK_c_0 cK_c_1
    have zK_c := K_c.out.lt
    have cK_f_0 := K_f.out.cell 0
    have cK_f_1 := K_f.out.cell 1
    simp at cK_f_0 cK_f_1
    have zK_f := K_f.out.lt
    have cK_g_0 := K_g.out.cell 0
    have cK_g_1 := K_g.out.cell 1
    simp at cK_g_0 cK_g_1
    have zK_g := K_g.out.lt
    have cK_h_0 := K_h.out.cell 0
    have cK_h_1 := K_h.out.cell 1
    simp at cK_h_0 cK_h_1
    have zK_h := K_h.out.lt
    have cK_m_0 := K_m.out.cell 0
    have cK_m_1 := K_m.out.cell 1
    have cK_m_2 := K_m.out.cell 2
    simp at cK_m_0 cK_m_1 cK_m_2
    have zK_m := K_m.out.lt
    have e1 : (r1 == r1) = true := by simp
    have e2 : (r2 == r2) = true := by simp
    go_wp2_with fail
    go_ret
    exact ⟨rfl, HB.out⟩
end Go.Proofs.Ytabjbpkojbdgaaa
