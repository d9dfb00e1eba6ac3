/- The walk of PropMore: it returns true. (Printed by wip/tools/proplaws2.py.) -/
import Derived.Test.YtghebbkpdldjfaaProp
import Derived.Test.YtghebbkpdldjfaaPropPlain
import Derived.Test.YtghebbkpdldjfaaSat
import Derived.Test.YtghebbkpdldjfaaHolds
import Derived.Test.YtghebbkpdldjfaaTail
namespace Go.Proofs.Ytghebbkpdldjfaa
open Go.RowKit
set_option linter.unusedSimpArgs false

set_option maxHeartbeats 8000000 in
set_option maxRecDepth 100000 in
theorem propMore_walk {vars kv : Int} {A B : Option Addr} {n c m d : Nat} {xss : List (List Int)} {l : List Int} (w : World) (hv : I64 vars) (h : Grid w A n c xss) (h' : Ints w B m d l) (hk0 : 0 ≤ kv ∧ kv ≤ 255) :
    Calls Try.prog 11 #[.agg #[.int .i64 vars, .slice A n c], .slice B m d, .int .u8 kv] w fun e w' => e = .returned (.bool true) ∧ Below w.heap.size w w' := by
  have hbd := h.bd
  have hbd' := h'.bd
  have G := Lib.hid h
  have I := Lib.hid h'
  have hn63 : n ≤ 9223372036854775807 := by omega
  have hlB := Lib.hid h'.len
  obtain ⟨hvy, hhv⟩ : ∃ r, Hid ((decide (40 < vars) || decide (60 < (n : Int))) = r) := ⟨_, rfl⟩
  obtain ⟨r1, r2, hr⟩ : ∃ r1 r2, Hid (besideR vars xss l = (r1, r2)) := ⟨_, _, rfl⟩
  clear h h'
  cases hvy
  rotate_left
  · go_enter Try.func11, Try.ntmps11
    go_wp2_with fail
    refine (heavy_any _ _ _ _ _ hn63 _ hhv).mono ?_
    rintro e w1 ⟨rfl, hb1⟩
    obtain ⟨K_c0, B_w1, l_w1⟩ := blk1 hb1
    replace G := Lib.hid (G.out.keep B_w1)
    replace I := Lib.hid (I.out.keep B_w1)
    have HB := Lib.hid B_w1
    have K_c := Lib.hid K_c0
    clear hb1 B_w1 K_c0
    have cK_c_0 := K_c.out.cell 0
    have cK_c_1 := K_c.out.cell 1
    simp at cK_c_0 cK_c_1
    have zK_c := K_c.out.lt
    go_wp2_with fail
    go_ret
    exact ⟨rfl, HB.out⟩
  by_cases hr1 : r1 = 0
  · subst hr1
    obtain ⟨hr0, hc0, hll⟩ := besideR_ok (vars := vars) (xss := xss) (l := l) (by rw [hr.out])
    obtain rfl : r2 = 0 := by rw [hr.out] at hr0; simpa using hr0
    obtain ⟨HC00, v0, v1, hn400, hrows⟩ := checkC_ok hc0
    have HC0 := Lib.hid HC00
    have v6 : vars ≤ 1000000 := by omega
    have HC : Hid (∀ x ∈ xss, Lits vars x) := fun x hx => (hrows x hx).2
    have HLL := Lib.hid hll
    clear hr0 hc0 hrows hll hn400 HC00
    go_enter Try.func11, Try.ntmps11
    go_wp2_with fail
    refine (heavy_any _ _ _ _ _ hn63 _ hhv).mono ?_
    rintro e w1 ⟨rfl, hb1⟩
    obtain ⟨K_c0, B_w1, l_w1⟩ := blk1 hb1
    replace G := Lib.hid (G.out.keep B_w1)
    replace I := Lib.hid (I.out.keep B_w1)
    have HB := Lib.hid B_w1
    have K_c := Lib.hid K_c0
    clear hb1 B_w1 K_c0
    have cK_c_0 := K_c.out.cell 0
    have cK_c_1 := K_c.out.cell 1
    simp at cK_c_0 cK_c_1
    have zK_c := K_c.out.lt
    obtain ⟨t, y, a, ha⟩ : ∃ t y a, Hid (askF vars xss l = (t, y, a)) := ⟨_, _, _, rfl⟩
    obtain ⟨kk, hkk⟩ : ∃ kk : Nat, kv % ((m : Int) + 1) = (kk : Int) := ⟨(kv % ((m : Int) + 1)).toNat, by have := Int.emod_nonneg kv (show (m : Int) + 1 ≠ 0 by omega); omega⟩
    have hkm : kk ≤ m := by have := Int.emod_lt_of_pos kv (show (0 : Int) < (m : Int) + 1 by omega); omega
    have HLK := Lib.hid (HLL.out.take kk)
    have hrk : Hid (besideR vars xss (l.take kk) = (0, 0)) := besideR_of HC0.out HLK.out
    obtain ⟨mt, my, ma, hm⟩ : ∃ t y a, Hid (askF vars xss (l.take kk) = (t, y, a)) := ⟨_, _, _, rfl⟩
    have hat := (ask_ok v0 HC.out HLL.out ha.out).at_
    have hmat := (ask_ok v0 HC.out HLK.out hm.out).at_
    have hm120 : (m : Int) ≤ 120 := by have := HLL.out.len_le v0; rw [hlB.out] at this; omega
    have HMORE : Hid (a < 0 → ma = -1 ∧ ∀ x ∈ mt, x ∈ t) := fun h => ask_more v0 HC.out HLL.out ha.out hm.out h
    go_wp2_with fail
    refine (propDo_own _ _ _ _ _ _ xss l vars _ G.out hv I.out hr t y a ha).mono ?_
    rintro e w2 ⟨L, nl, cl, rfl, hI2, hb2⟩
    have B_w2 := hb2
    replace G := Lib.hid (G.out.keep B_w2)
    replace I := Lib.hid (I.out.keep B_w2)
    replace K_c := Lib.hid (K_c.out.keep B_w2)
    replace HB := Lib.hid (below_next HB.out B_w2)
    clear hb2 B_w2
    clear cK_c_0 cK_c_1 zK_c
    have cK_c_0 := K_c.out.cell 0
    have cK_c_1 := K_c.out.cell 1
    simp at cK_c_0 cK_c_1
    have zK_c := K_c.out.lt
    have IL := Lib.hid hI2
    have hbdL := hI2.bd
    clear hI2
    have i1 : (0 : Int) ≤ (kk : Int) := by omega
    have i2 : (kk : Int) ≤ (d : Int) := by omega
    have i3 : (kk : Int) ≤ (m : Int) := by omega
    go_wp2_with fail
    obtain ⟨w3, hw3⟩ : ∃ w3 : World, w3 = (w2.alloc (.cells #[.int .i64 0, .int .i64 0] 28)) := ⟨_, rfl⟩
    have hbw3 : Below (w2.alloc (.cells #[.int .i64 0, .int .i64 0] 28)).heap.size (w2.alloc (.cells #[.int .i64 0, .int .i64 0] 28)) w3 := by rw [hw3]; exact Below.refl _ _
    rw [← hw3]
    clear hw3
    obtain ⟨K_f0, B_w3, l_w3⟩ := blk1 hbw3
    replace G := Lib.hid (G.out.keep B_w3)
    replace I := Lib.hid (I.out.keep B_w3)
    replace IL := Lib.hid (IL.out.keep B_w3)
    replace K_c := Lib.hid (K_c.out.keep B_w3)
    replace HB := Lib.hid (below_next HB.out B_w3)
    have K_f := Lib.hid K_f0
    clear hbw3 B_w3 K_f0
    clear cK_c_0 cK_c_1 zK_c
    have cK_c_0 := K_c.out.cell 0
    have cK_c_1 := K_c.out.cell 1
    simp at cK_c_0 cK_c_1
    have zK_c := K_c.out.lt
    have cK_f_0 := K_f.out.cell 0
    have cK_f_1 := K_f.out.cell 1
    simp at cK_f_0 cK_f_1
    have zK_f := K_f.out.lt
    have hS : w3.drew.cell? ⟨w.heap.size, 0, none⟩ = some (.int .i64 vars) ∧ w3.drew.cell? ⟨w.heap.size, 1, none⟩ = some (.slice A n c) := ⟨keepBox (below_drewN w3 1) cK_c_0, keepBox (below_drewN w3 1) cK_c_1⟩
    refine wp_region_tail (fun w' => w'.cell? ⟨w.heap.size, 0, none⟩ = some (.int .i64 vars) ∧ w'.cell? ⟨w.heap.size, 1, none⟩ = some (.slice A n c)) [12] (by kernel_rfl) ?_
    refine takeS (i := 0) (oi := _) (v := ?_) rfl (by kernel_rfl) (by kernel_rfl) (by kernel_rfl) (fun _ _ _ h => h) rfl (by kernel_rfl) (by kernel_rfl) (Or.inl ⟨by rfl, ?_⟩) hS ?_
    rotate_left
    · intro w0 hSw; (try dsimp only at hSw); go_simp; with_reducible rfl
    (try simp only [Act.put, List.setIfInBounds_toArray, List.set_cons_zero, List.set_cons_succ])
    refine take0 (i := 1) (oi := _) (v := ?_) rfl (by kernel_rfl) (by kernel_rfl) (by kernel_rfl) (fun _ _ _ h => h) rfl (Or.inl ⟨by rfl, ?_⟩) (fun _ => hS) ?_
    rotate_left
    · intro w0; go_simp; with_reducible rfl
    (try simp only [Act.put, List.setIfInBounds_toArray, List.set_cons_zero, List.set_cons_succ])
    refine take0 (i := 2) (oi := _) (v := ?_) rfl (by kernel_rfl) (by kernel_rfl) (by kernel_rfl) (fun _ _ _ h => h) rfl (Or.inl ⟨by rfl, ?_⟩) (fun _ => hS) ?_
    rotate_left
    · intro w0; go_simp; with_reducible rfl
    (try simp only [Act.put, List.setIfInBounds_toArray, List.set_cons_zero, List.set_cons_succ])
    refine take0 (i := 3) (oi := _) (v := ?_) rfl (by kernel_rfl) (by kernel_rfl) (by kernel_rfl) (fun _ _ _ h => h) rfl (Or.inl ⟨by rfl, ?_⟩) (fun _ => hS) ?_
    rotate_left
    · intro w0; go_simp; with_reducible rfl
    (try simp only [Act.put, List.setIfInBounds_toArray, List.set_cons_zero, List.set_cons_succ])
    refine twoT (i := 4) (j := 9) (by kernel_rfl) rfl (by rfl) rfl (by rfl) (fun K hK => ?_) (fun K hK => ?_)
    · go_simp
      refine (propDo_own _ _ _ _ _ _ xss (l.take kk) vars _ (G.out.keep (below_drewN w3 1)) hv ((I.out.keep (below_drewN w3 1)).take hkm) hrk mt my ma hm).mono ?_
      rintro e w4 ⟨M, nm, cm, rfl, hI4, hb4⟩
      have b4 := below_next (below_drewN w3 1) hb4
      have hS : w4.cell? ⟨w.heap.size, 0, none⟩ = some (.int .i64 vars) ∧ w4.cell? ⟨w.heap.size, 1, none⟩ = some (.slice A n c) := ⟨keepBox b4 cK_c_0, keepBox b4 cK_c_1⟩
      refine hK _ _ (fun _ => hS) ?_
      clear hK
      (try simp only [Act.put, List.setIfInBounds_toArray, List.set_cons_zero, List.set_cons_succ])
      refine take0 (i := 5) (oi := _) (v := ?_) rfl (by kernel_rfl) (by kernel_rfl) (by kernel_rfl) (fun _ _ _ h => h) rfl (Or.inl ⟨by rfl, ?_⟩) (fun _ => hS) ?_
      rotate_left
      · intro w0; go_simp; with_reducible rfl
      (try simp only [Act.put, List.setIfInBounds_toArray, List.set_cons_zero, List.set_cons_succ])
      refine take0 (i := 6) (oi := _) (v := ?_) rfl (by kernel_rfl) (by kernel_rfl) (by kernel_rfl) (fun _ _ _ h => h) rfl (Or.inl ⟨by rfl, ?_⟩) (fun _ => hS) ?_
      rotate_left
      · intro w0; go_simp; with_reducible rfl
      (try simp only [Act.put, List.setIfInBounds_toArray, List.set_cons_zero, List.set_cons_succ])
      refine take0 (i := 7) (oi := _) (v := ?_) rfl (by kernel_rfl) (by kernel_rfl) (by kernel_rfl) (fun _ _ _ h => h) rfl (Or.inl ⟨by rfl, ?_⟩) (fun _ => hS) ?_
      rotate_left
      · intro w0; go_simp; with_reducible rfl
      (try simp only [Act.put, List.setIfInBounds_toArray, List.set_cons_zero, List.set_cons_succ])
      refine take0 (i := 8) (oi := _) (v := ?_) rfl (by kernel_rfl) (by kernel_rfl) (by kernel_rfl) (fun _ _ _ h => h) rfl (Or.inl ⟨by rfl, ?_⟩) (fun _ => hS) ?_
      rotate_left
      · intro w0; go_simp; with_reducible rfl
      (try simp only [Act.put, List.setIfInBounds_toArray, List.set_cons_zero, List.set_cons_succ])
      refine oneT (i := 9) (by kernel_rfl) rfl (by rfl) (fun K hK => ?_)
      go_simp
      have hS : (w4.alloc (.cells #[.int .i64 0, .int .i64 0] 28)).cell? ⟨w.heap.size, 0, none⟩ = some (.int .i64 vars) ∧ (w4.alloc (.cells #[.int .i64 0, .int .i64 0] 28)).cell? ⟨w.heap.size, 1, none⟩ = some (.slice A n c) := ⟨keepBox (below_new w4 _) hS.1, keepBox (below_new w4 _) hS.2⟩
      refine hK _ _ (fun _ => hS) ?_
      clear hK
      (try simp only [Act.put, List.setIfInBounds_toArray, List.set_cons_zero, List.set_cons_succ])
      refine take0 (i := 10) (oi := _) (v := ?_) rfl (by kernel_rfl) (by kernel_rfl) (by kernel_rfl) (fun _ _ _ h => h) rfl (Or.inl ⟨by rfl, ?_⟩) (fun _ => hS) ?_
      rotate_left
      · intro w0; go_simp; with_reducible rfl
      (try simp only [Act.put, List.setIfInBounds_toArray, List.set_cons_zero, List.set_cons_succ])
      refine take0 (i := 11) (oi := _) (v := ?_) rfl (by kernel_rfl) (by kernel_rfl) (by kernel_rfl) (fun _ _ _ h => h) rfl (Or.inl ⟨by rfl, ?_⟩) (fun _ => hS) ?_
      rotate_left
      · intro w0; go_simp; with_reducible rfl
      (try simp only [Act.put, List.setIfInBounds_toArray, List.set_cons_zero, List.set_cons_succ])
      refine oneT (i := 12) (by kernel_rfl) rfl (by rfl) (fun K hK => ?_)
      go_simp
      refine hK _ _ (noT_no (by kernel_rfl)) ?_
      clear hK
      (try simp only [Act.put, List.setIfInBounds_toArray, List.set_cons_zero, List.set_cons_succ])
      refine doneT (by kernel_rfl) ?_ _
      obtain ⟨w5, hw5⟩ : ∃ w5 : World, w5 = w4.alloc (.cells #[.int .i64 0, .int .i64 0] 28) := ⟨_, rfl⟩
      have HREST : Hid (Below w3.heap.size w3 w5) ∧ Hid (Ints w5 M nm cm mt) ∧ Hid (Blk w5 w4.heap.size 28 #[.int .i64 0, .int .i64 0]) := by rw [hw5]; exact ⟨below_alloc b4 _, hI4.keep (below_new _ _), Blk.new _ _ _⟩
      rw [← hw5]
      clear hw5 hS b4 hb4 hI4
      obtain ⟨HBL, IM, KG⟩ := HREST
      have B5 := HBL.out
      have B_w5 := B5
      replace G := Lib.hid (G.out.keep B_w5)
      replace I := Lib.hid (I.out.keep B_w5)
      replace IL := Lib.hid (IL.out.keep B_w5)
      replace K_c := Lib.hid (K_c.out.keep B_w5)
      replace K_f := Lib.hid (K_f.out.keep B_w5)
      replace HB := Lib.hid (below_next HB.out B_w5)
      clear B5 B_w5
      clear cK_c_0 cK_c_1 zK_c cK_f_0 cK_f_1 zK_f
      have cK_c_0 := K_c.out.cell 0
      have cK_c_1 := K_c.out.cell 1
      simp at cK_c_0 cK_c_1
      have zK_c := K_c.out.lt
      have cK_f_0 := K_f.out.cell 0
      have cK_f_1 := K_f.out.cell 1
      simp at cK_f_0 cK_f_1
      have zK_f := K_f.out.lt
      clear HBL
      have hbdM := IM.out.bd
      have hlM := Lib.hid IM.out.len
      go_wp2_with fail
      refine (pair_any _).mono ?_
      rintro e w6 ⟨A5, n5, c5, rfl, hG5, hb6⟩
      have B_w6 := hb6
      replace G := Lib.hid (G.out.keep B_w6)
      replace I := Lib.hid (I.out.keep B_w6)
      replace IL := Lib.hid (IL.out.keep B_w6)
      replace IM := Lib.hid (IM.out.keep B_w6)
      replace KG := Lib.hid (KG.out.keep B_w6)
      replace K_c := Lib.hid (K_c.out.keep B_w6)
      replace K_f := Lib.hid (K_f.out.keep B_w6)
      replace HB := Lib.hid (below_next HB.out B_w6)
      clear hb6 B_w6
      clear cK_c_0 cK_c_1 zK_c cK_f_0 cK_f_1 zK_f
      have cK_c_0 := K_c.out.cell 0
      have cK_c_1 := K_c.out.cell 1
      simp at cK_c_0 cK_c_1
      have zK_c := K_c.out.lt
      have cK_f_0 := K_f.out.cell 0
      have cK_f_1 := K_f.out.cell 1
      simp at cK_f_0 cK_f_1
      have zK_f := K_f.out.lt
      have GP := Lib.hid hG5
      clear hG5
      go_wp2_with fail
      refine (propFalls_own _ _ _ _ _ _ [[1, 2], [-1]] [2] 2 _ (GP.out.keep (below_new _ _)) ⟨by omega, by omega⟩ (ints_made _ 3 [2] (by simp) (by simp [I64]) (by decide)) (by show _ = _; decide) true (by show _ = _; decide)).mono ?_
      rintro e w7 ⟨rfl, hb7⟩
      obtain ⟨K_i0, B_w7, l_w7⟩ := blk1 hb7
      replace G := Lib.hid (G.out.keep B_w7)
      replace I := Lib.hid (I.out.keep B_w7)
      replace IL := Lib.hid (IL.out.keep B_w7)
      replace IM := Lib.hid (IM.out.keep B_w7)
      replace KG := Lib.hid (KG.out.keep B_w7)
      replace GP := Lib.hid (GP.out.keep B_w7)
      replace K_c := Lib.hid (K_c.out.keep B_w7)
      replace K_f := Lib.hid (K_f.out.keep B_w7)
      replace HB := Lib.hid (below_next HB.out B_w7)
      have K_i := Lib.hid K_i0
      clear hb7 B_w7 K_i0
      clear cK_c_0 cK_c_1 zK_c cK_f_0 cK_f_1 zK_f
      have cK_c_0 := K_c.out.cell 0
      have cK_c_1 := K_c.out.cell 1
      simp at cK_c_0 cK_c_1
      have zK_c := K_c.out.lt
      have cK_f_0 := K_f.out.cell 0
      have cK_f_1 := K_f.out.cell 1
      simp at cK_f_0 cK_f_1
      have zK_f := K_f.out.lt
      have cK_i_0 := K_i.out.cell 0
      simp at cK_i_0
      have zK_i := K_i.out.lt
      have cg0 := KG.out.cell 0
      simp at cg0
      have zg := KG.out.lt
      by_cases han : a < 0
      · have hmm := HMORE.out han
        obtain rfl : ma = -1 := hmm.1
        have HMT := Lib.hid hmm.2
        have da : decide (a < 0) = true := decide_eq_true han
        clear hmm HMORE
        go_wp2_with fail
        obtain ⟨w8, hw8⟩ : ∃ w8 : World, w8 = (w7.alloc (.cells #[.int .i64 0, .int .i64 0] 28)) := ⟨_, rfl⟩
        have hbw8 : Below (w7.alloc (.cells #[.int .i64 0, .int .i64 0] 28)).heap.size (w7.alloc (.cells #[.int .i64 0, .int .i64 0] 28)) w8 := by rw [hw8]; exact Below.refl _ _
        rw [← hw8]
        clear hw8
        obtain ⟨K_h0, B_w8, l_w8⟩ := blk1 hbw8
        replace G := Lib.hid (G.out.keep B_w8)
        replace I := Lib.hid (I.out.keep B_w8)
        replace IL := Lib.hid (IL.out.keep B_w8)
        replace IM := Lib.hid (IM.out.keep B_w8)
        replace KG := Lib.hid (KG.out.keep B_w8)
        replace GP := Lib.hid (GP.out.keep B_w8)
        replace K_c := Lib.hid (K_c.out.keep B_w8)
        replace K_f := Lib.hid (K_f.out.keep B_w8)
        replace K_i := Lib.hid (K_i.out.keep B_w8)
        replace HB := Lib.hid (below_next HB.out B_w8)
        have K_h := Lib.hid K_h0
        clear hbw8 B_w8 K_h0
        clear cK_c_0 cK_c_1 zK_c cK_f_0 cK_f_1 zK_f cK_i_0 zK_i
        have cK_c_0 := K_c.out.cell 0
        have cK_c_1 := K_c.out.cell 1
        simp at cK_c_0 cK_c_1
        have zK_c := K_c.out.lt
        have cK_f_0 := K_f.out.cell 0
        have cK_f_1 := K_f.out.cell 1
        simp at cK_f_0 cK_f_1
        have zK_f := K_f.out.lt
        have cK_i_0 := K_i.out.cell 0
        simp at cK_i_0
        have zK_i := K_i.out.lt
        have cK_h_0 := K_h.out.cell 0
        have cK_h_1 := K_h.out.cell 1
        simp at cK_h_0 cK_h_1
        have zK_h := K_h.out.lt
        go_loopw [16] (fun i wr => ∃ j : Nat, j ≤ nm ∧ i = .int .i64 j ∧ Hid (∃ m, wr = w8.drewN m)) (fun i _ => nm - (intOf i).toNat)
        case atStart => exact ⟨0, Nat.zero_le _, rfl, ⟨0, rfl⟩⟩
        case round =>
          obtain ⟨j, hj, rfl, hB⟩ := hrel
          have hbW : Below w8.heap.size w8 wr := by obtain ⟨m, rfl⟩ := hB.out; exact below_drewN w8 m
          by_cases hlt : j < nm
          · obtain ⟨b, off, z, hLe, hb, hcell, z1, z2, hz⟩ := (IM.out.keep hbW).round hlt
            subst hLe
            have hzt : Hid (hasB t z = true) := hasB_iff.2 (HMT.out z (List.mem_of_getElem? hz.out))
            have y1 : (0 : Int) ≤ (j : Int) := by omega
            have y2 : (j : Int) < (nm : Int) := by omega
            go_wp2_with fail
            refine (has_any _ _ _ t z _ (IL.out.keep hbW) true hzt).mono ?_
            rintro e w9 ⟨rfl, m9, rfl⟩
            go_wp2_with fail
            go_roundw
            case rel => exact ⟨j + 1, by omega, by go_num, by obtain ⟨m, rfl⟩ := hB.out; exact ⟨_, World.drewN_drewN _ _ _⟩⟩
            case measure => simp [intOf]; omega
          · go_wp2_with fail
            go_ret
            exact ⟨rfl, below_next HB.out hbW⟩
      · have da : decide (a < 0) = false := decide_eq_false han
        have dm : decide (0 ≤ ma) = true ∨ decide (0 ≤ ma) = false := by cases decide (0 ≤ ma) <;> simp
        rcases dm with dm | dm
        · go_wp2_with fail
          obtain ⟨w8, hw8⟩ : ∃ w8 : World, w8 = (w7.alloc (.cells #[.int .i64 0, .int .i64 0] 28)) := ⟨_, rfl⟩
          have hbw8 : Below (w7.alloc (.cells #[.int .i64 0, .int .i64 0] 28)).heap.size (w7.alloc (.cells #[.int .i64 0, .int .i64 0] 28)) w8 := by rw [hw8]; exact Below.refl _ _
          rw [← hw8]
          clear hw8
          obtain ⟨K_h0, B_w8, l_w8⟩ := blk1 hbw8
          replace G := Lib.hid (G.out.keep B_w8)
          replace I := Lib.hid (I.out.keep B_w8)
          replace IL := Lib.hid (IL.out.keep B_w8)
          replace IM := Lib.hid (IM.out.keep B_w8)
          replace KG := Lib.hid (KG.out.keep B_w8)
          replace GP := Lib.hid (GP.out.keep B_w8)
          replace K_c := Lib.hid (K_c.out.keep B_w8)
          replace K_f := Lib.hid (K_f.out.keep B_w8)
          replace K_i := Lib.hid (K_i.out.keep B_w8)
          replace HB := Lib.hid (below_next HB.out B_w8)
          have K_h := Lib.hid K_h0
          clear hbw8 B_w8 K_h0
          clear cK_c_0 cK_c_1 zK_c cK_f_0 cK_f_1 zK_f cK_i_0 zK_i
          have cK_c_0 := K_c.out.cell 0
          have cK_c_1 := K_c.out.cell 1
          simp at cK_c_0 cK_c_1
          have zK_c := K_c.out.lt
          have cK_f_0 := K_f.out.cell 0
          have cK_f_1 := K_f.out.cell 1
          simp at cK_f_0 cK_f_1
          have zK_f := K_f.out.lt
          have cK_i_0 := K_i.out.cell 0
          simp at cK_i_0
          have zK_i := K_i.out.lt
          have cK_h_0 := K_h.out.cell 0
          have cK_h_1 := K_h.out.cell 1
          simp at cK_h_0 cK_h_1
          have zK_h := K_h.out.lt
          go_loopw [16] (fun i wr => ∃ j : Nat, j ≤ nm ∧ i = .int .i64 j ∧ Hid (∃ m, wr = w8.drewN m)) (fun i _ => nm - (intOf i).toNat)
          case atStart => exact ⟨0, Nat.zero_le _, rfl, ⟨0, rfl⟩⟩
          case round =>
            obtain ⟨j, hj, rfl, hB⟩ := hrel
            have hbW : Below w8.heap.size w8 wr := by obtain ⟨m, rfl⟩ := hB.out; exact below_drewN w8 m
            by_cases hlt : j < nm
            · go_wp2_with fail
              go_ret
              exact ⟨rfl, below_next HB.out hbW⟩
            · go_wp2_with fail
              go_ret
              exact ⟨rfl, below_next HB.out hbW⟩
        · go_wp2_with fail
          obtain ⟨w8, hw8⟩ : ∃ w8 : World, w8 = (w7.alloc (.cells #[.int .i64 0, .int .i64 0] 28)) := ⟨_, rfl⟩
          have hbw8 : Below (w7.alloc (.cells #[.int .i64 0, .int .i64 0] 28)).heap.size (w7.alloc (.cells #[.int .i64 0, .int .i64 0] 28)) w8 := by rw [hw8]; exact Below.refl _ _
          rw [← hw8]
          clear hw8
          obtain ⟨K_h0, B_w8, l_w8⟩ := blk1 hbw8
          replace G := Lib.hid (G.out.keep B_w8)
          replace I := Lib.hid (I.out.keep B_w8)
          replace IL := Lib.hid (IL.out.keep B_w8)
          replace IM := Lib.hid (IM.out.keep B_w8)
          replace KG := Lib.hid (KG.out.keep B_w8)
          replace GP := Lib.hid (GP.out.keep B_w8)
          replace K_c := Lib.hid (K_c.out.keep B_w8)
          replace K_f := Lib.hid (K_f.out.keep B_w8)
          replace K_i := Lib.hid (K_i.out.keep B_w8)
          replace HB := Lib.hid (below_next HB.out B_w8)
          have K_h := Lib.hid K_h0
          clear hbw8 B_w8 K_h0
          clear cK_c_0 cK_c_1 zK_c cK_f_0 cK_f_1 zK_f cK_i_0 zK_i
          have cK_c_0 := K_c.out.cell 0
          have cK_c_1 := K_c.out.cell 1
          simp at cK_c_0 cK_c_1
          have zK_c := K_c.out.lt
          have cK_f_0 := K_f.out.cell 0
          have cK_f_1 := K_f.out.cell 1
          simp at cK_f_0 cK_f_1
          have zK_f := K_f.out.lt
          have cK_i_0 := K_i.out.cell 0
          simp at cK_i_0
          have zK_i := K_i.out.lt
          have cK_h_0 := K_h.out.cell 0
          have cK_h_1 := K_h.out.cell 1
          simp at cK_h_0 cK_h_1
          have zK_h := K_h.out.lt
          go_loopw [16] (fun i wr => ∃ j : Nat, j ≤ nm ∧ i = .int .i64 j ∧ Hid (∃ m, wr = w8.drewN m)) (fun i _ => nm - (intOf i).toNat)
          case atStart => exact ⟨0, Nat.zero_le _, rfl, ⟨0, rfl⟩⟩
          case round =>
            obtain ⟨j, hj, rfl, hB⟩ := hrel
            have hbW : Below w8.heap.size w8 wr := by obtain ⟨m, rfl⟩ := hB.out; exact below_drewN w8 m
            by_cases hlt : j < nm
            · go_wp2_with fail
              go_ret
              exact ⟨rfl, below_next HB.out hbW⟩
            · go_wp2_with fail
              go_ret
              exact ⟨rfl, below_next HB.out hbW⟩
    · go_simp
      have hS : ((w3.alloc (.cells #[.int .i64 0, .int .i64 0] 28)).drew).cell? ⟨w.heap.size, 0, none⟩ = some (.int .i64 vars) ∧ ((w3.alloc (.cells #[.int .i64 0, .int .i64 0] 28)).drew).cell? ⟨w.heap.size, 1, none⟩ = some (.slice A n c) := ⟨keepBox (below_drew1 (below_new w3 _)) cK_c_0, keepBox (below_drew1 (below_new w3 _)) cK_c_1⟩
      refine hK _ _ (fun _ => hS) ?_
      clear hK
      (try simp only [Act.put, List.setIfInBounds_toArray, List.set_cons_zero, List.set_cons_succ])
      refine oneT (i := 4) (by kernel_rfl) rfl (by rfl) (fun K hK => ?_)
      go_simp
      refine (propDo_own _ _ _ _ _ _ xss (l.take kk) vars _ (G.out.keep (below_drew1 (below_new w3 _))) hv ((I.out.keep (below_drew1 (below_new w3 _))).take hkm) hrk mt my ma hm).mono ?_
      rintro e w4 ⟨M, nm, cm, rfl, hI4, hb4⟩
      have b4 := below_next (below_drew1 (below_new w3 _)) hb4
      have kb : Blk w4 w3.heap.size 28 #[.int .i64 0, .int .i64 0] := ((Blk.new w3 28 #[.int .i64 0, .int .i64 0]).keep (below_drewN _ 1)).keep hb4
      have hS : w4.cell? ⟨w.heap.size, 0, none⟩ = some (.int .i64 vars) ∧ w4.cell? ⟨w.heap.size, 1, none⟩ = some (.slice A n c) := ⟨keepBox b4 cK_c_0, keepBox b4 cK_c_1⟩
      have kc0 := kb.cell 0
      have kc1 := kb.cell 1
      have kf0 := kb.frozen 0
      have kf1 := kb.frozen 1
      simp at kc0 kc1
      refine hK _ _ (fun _ => hS) ?_
      clear hK
      (try simp only [Act.put, List.setIfInBounds_toArray, List.set_cons_zero, List.set_cons_succ])
      refine take0 (i := 5) (oi := _) (v := ?_) rfl (by kernel_rfl) (by kernel_rfl) (by kernel_rfl) (fun _ _ _ h => h) rfl (Or.inl ⟨by rfl, ?_⟩) (fun _ => hS) ?_
      rotate_left
      · intro w0; go_simp; with_reducible rfl
      (try simp only [Act.put, List.setIfInBounds_toArray, List.set_cons_zero, List.set_cons_succ])
      refine take0 (i := 6) (oi := _) (v := ?_) rfl (by kernel_rfl) (by kernel_rfl) (by kernel_rfl) (fun _ _ _ h => h) rfl (Or.inl ⟨by rfl, ?_⟩) (fun _ => hS) ?_
      rotate_left
      · intro w0; go_simp; with_reducible rfl
      (try simp only [Act.put, List.setIfInBounds_toArray, List.set_cons_zero, List.set_cons_succ])
      refine take0 (i := 7) (oi := _) (v := ?_) rfl (by kernel_rfl) (by kernel_rfl) (by kernel_rfl) (fun _ _ _ h => h) rfl (Or.inl ⟨by rfl, ?_⟩) (fun _ => hS) ?_
      rotate_left
      · intro w0; go_simp; with_reducible rfl
      (try simp only [Act.put, List.setIfInBounds_toArray, List.set_cons_zero, List.set_cons_succ])
      refine take0 (i := 8) (oi := _) (v := ?_) rfl (by kernel_rfl) (by kernel_rfl) (by kernel_rfl) (fun _ _ _ h => h) rfl (Or.inl ⟨by rfl, ?_⟩) (fun _ => hS) ?_
      rotate_left
      · intro w0; go_simp; with_reducible rfl
      (try simp only [Act.put, List.setIfInBounds_toArray, List.set_cons_zero, List.set_cons_succ])
      refine take0 (i := 10) (oi := _) (v := ?_) rfl (by kernel_rfl) (by kernel_rfl) (by kernel_rfl) (fun _ _ _ h => h) rfl (Or.inl ⟨by rfl, ?_⟩) (fun _ => hS) ?_
      rotate_left
      · intro w0; go_simp; with_reducible rfl
      (try simp only [Act.put, List.setIfInBounds_toArray, List.set_cons_zero, List.set_cons_succ])
      refine take0 (i := 11) (oi := _) (v := ?_) rfl (by kernel_rfl) (by kernel_rfl) (by kernel_rfl) (fun _ _ _ h => h) rfl (Or.inl ⟨by rfl, ?_⟩) (fun _ => hS) ?_
      rotate_left
      · intro w0; go_simp; with_reducible rfl
      (try simp only [Act.put, List.setIfInBounds_toArray, List.set_cons_zero, List.set_cons_succ])
      refine oneT (i := 12) (by kernel_rfl) rfl (by rfl) (fun K hK => ?_)
      go_simp
      refine hK _ _ (noT_no (by kernel_rfl)) ?_
      clear hK
      (try simp only [Act.put, List.setIfInBounds_toArray, List.set_cons_zero, List.set_cons_succ])
      refine doneT (by kernel_rfl) ?_ _
      rw [setCell_id kb (by simp), setCell_id kb (by simp)]
      obtain ⟨w5, hw5⟩ : ∃ w5 : World, w5 = w4 := ⟨_, rfl⟩
      have HREST : Hid (Below w3.heap.size w3 w5) ∧ Hid (Ints w5 M nm cm mt) ∧ Hid (Blk w5 w3.heap.size 28 #[.int .i64 0, .int .i64 0]) := by rw [hw5]; exact ⟨b4, hI4, kb⟩
      rw [← hw5]
      clear hw5 hS b4 hb4 hI4 kb kc0 kc1 kf0 kf1
      obtain ⟨HBL, IM, KG⟩ := HREST
      have B5 := HBL.out
      have B_w5 := B5
      replace G := Lib.hid (G.out.keep B_w5)
      replace I := Lib.hid (I.out.keep B_w5)
      replace IL := Lib.hid (IL.out.keep B_w5)
      replace K_c := Lib.hid (K_c.out.keep B_w5)
      replace K_f := Lib.hid (K_f.out.keep B_w5)
      replace HB := Lib.hid (below_next HB.out B_w5)
      clear B5 B_w5
      clear cK_c_0 cK_c_1 zK_c cK_f_0 cK_f_1 zK_f
      have cK_c_0 := K_c.out.cell 0
      have cK_c_1 := K_c.out.cell 1
      simp at cK_c_0 cK_c_1
      have zK_c := K_c.out.lt
      have cK_f_0 := K_f.out.cell 0
      have cK_f_1 := K_f.out.cell 1
      simp at cK_f_0 cK_f_1
      have zK_f := K_f.out.lt
      clear HBL
      have hbdM := IM.out.bd
      have hlM := Lib.hid IM.out.len
      go_wp2_with fail
      refine (pair_any _).mono ?_
      rintro e w6 ⟨A5, n5, c5, rfl, hG5, hb6⟩
      have B_w6 := hb6
      replace G := Lib.hid (G.out.keep B_w6)
      replace I := Lib.hid (I.out.keep B_w6)
      replace IL := Lib.hid (IL.out.keep B_w6)
      replace IM := Lib.hid (IM.out.keep B_w6)
      replace KG := Lib.hid (KG.out.keep B_w6)
      replace K_c := Lib.hid (K_c.out.keep B_w6)
      replace K_f := Lib.hid (K_f.out.keep B_w6)
      replace HB := Lib.hid (below_next HB.out B_w6)
      clear hb6 B_w6
      clear cK_c_0 cK_c_1 zK_c cK_f_0 cK_f_1 zK_f
      have cK_c_0 := K_c.out.cell 0
      have cK_c_1 := K_c.out.cell 1
      simp at cK_c_0 cK_c_1
      have zK_c := K_c.out.lt
      have cK_f_0 := K_f.out.cell 0
      have cK_f_1 := K_f.out.cell 1
      simp at cK_f_0 cK_f_1
      have zK_f := K_f.out.lt
      have GP := Lib.hid hG5
      clear hG5
      go_wp2_with fail
      refine (propFalls_own _ _ _ _ _ _ [[1, 2], [-1]] [2] 2 _ (GP.out.keep (below_new _ _)) ⟨by omega, by omega⟩ (ints_made _ 3 [2] (by simp) (by simp [I64]) (by decide)) (by show _ = _; decide) true (by show _ = _; decide)).mono ?_
      rintro e w7 ⟨rfl, hb7⟩
      obtain ⟨K_i0, B_w7, l_w7⟩ := blk1 hb7
      replace G := Lib.hid (G.out.keep B_w7)
      replace I := Lib.hid (I.out.keep B_w7)
      replace IL := Lib.hid (IL.out.keep B_w7)
      replace IM := Lib.hid (IM.out.keep B_w7)
      replace KG := Lib.hid (KG.out.keep B_w7)
      replace GP := Lib.hid (GP.out.keep B_w7)
      replace K_c := Lib.hid (K_c.out.keep B_w7)
      replace K_f := Lib.hid (K_f.out.keep B_w7)
      replace HB := Lib.hid (below_next HB.out B_w7)
      have K_i := Lib.hid K_i0
      clear hb7 B_w7 K_i0
      clear cK_c_0 cK_c_1 zK_c cK_f_0 cK_f_1 zK_f
      have cK_c_0 := K_c.out.cell 0
      have cK_c_1 := K_c.out.cell 1
      simp at cK_c_0 cK_c_1
      have zK_c := K_c.out.lt
      have cK_f_0 := K_f.out.cell 0
      have cK_f_1 := K_f.out.cell 1
      simp at cK_f_0 cK_f_1
      have zK_f := K_f.out.lt
      have cK_i_0 := K_i.out.cell 0
      simp at cK_i_0
      have zK_i := K_i.out.lt
      have cg0 := KG.out.cell 0
      simp at cg0
      have zg := KG.out.lt
      by_cases han : a < 0
      · have hmm := HMORE.out han
        obtain rfl : ma = -1 := hmm.1
        have HMT := Lib.hid hmm.2
        have da : decide (a < 0) = true := decide_eq_true han
        clear hmm HMORE
        go_wp2_with fail
        obtain ⟨w8, hw8⟩ : ∃ w8 : World, w8 = (w7.alloc (.cells #[.int .i64 0, .int .i64 0] 28)) := ⟨_, rfl⟩
        have hbw8 : Below (w7.alloc (.cells #[.int .i64 0, .int .i64 0] 28)).heap.size (w7.alloc (.cells #[.int .i64 0, .int .i64 0] 28)) w8 := by rw [hw8]; exact Below.refl _ _
        rw [← hw8]
        clear hw8
        obtain ⟨K_h0, B_w8, l_w8⟩ := blk1 hbw8
        replace G := Lib.hid (G.out.keep B_w8)
        replace I := Lib.hid (I.out.keep B_w8)
        replace IL := Lib.hid (IL.out.keep B_w8)
        replace IM := Lib.hid (IM.out.keep B_w8)
        replace KG := Lib.hid (KG.out.keep B_w8)
        replace GP := Lib.hid (GP.out.keep B_w8)
        replace K_c := Lib.hid (K_c.out.keep B_w8)
        replace K_f := Lib.hid (K_f.out.keep B_w8)
        replace K_i := Lib.hid (K_i.out.keep B_w8)
        replace HB := Lib.hid (below_next HB.out B_w8)
        have K_h := Lib.hid K_h0
        clear hbw8 B_w8 K_h0
        clear cK_c_0 cK_c_1 zK_c cK_f_0 cK_f_1 zK_f cK_i_0 zK_i
        have cK_c_0 := K_c.out.cell 0
        have cK_c_1 := K_c.out.cell 1
        simp at cK_c_0 cK_c_1
        have zK_c := K_c.out.lt
        have cK_f_0 := K_f.out.cell 0
        have cK_f_1 := K_f.out.cell 1
        simp at cK_f_0 cK_f_1
        have zK_f := K_f.out.lt
        have cK_i_0 := K_i.out.cell 0
        simp at cK_i_0
        have zK_i := K_i.out.lt
        have cK_h_0 := K_h.out.cell 0
        have cK_h_1 := K_h.out.cell 1
        simp at cK_h_0 cK_h_1
        have zK_h := K_h.out.lt
        go_loopw [16] (fun i wr => ∃ j : Nat, j ≤ nm ∧ i = .int .i64 j ∧ Hid (∃ m, wr = w8.drewN m)) (fun i _ => nm - (intOf i).toNat)
        case atStart => exact ⟨0, Nat.zero_le _, rfl, ⟨0, rfl⟩⟩
        case round =>
          obtain ⟨j, hj, rfl, hB⟩ := hrel
          have hbW : Below w8.heap.size w8 wr := by obtain ⟨m, rfl⟩ := hB.out; exact below_drewN w8 m
          by_cases hlt : j < nm
          · obtain ⟨b, off, z, hLe, hb, hcell, z1, z2, hz⟩ := (IM.out.keep hbW).round hlt
            subst hLe
            have hzt : Hid (hasB t z = true) := hasB_iff.2 (HMT.out z (List.mem_of_getElem? hz.out))
            have y1 : (0 : Int) ≤ (j : Int) := by omega
            have y2 : (j : Int) < (nm : Int) := by omega
            go_wp2_with fail
            refine (has_any _ _ _ t z _ (IL.out.keep hbW) true hzt).mono ?_
            rintro e w9 ⟨rfl, m9, rfl⟩
            go_wp2_with fail
            go_roundw
            case rel => exact ⟨j + 1, by omega, by go_num, by obtain ⟨m, rfl⟩ := hB.out; exact ⟨_, World.drewN_drewN _ _ _⟩⟩
            case measure => simp [intOf]; omega
          · go_wp2_with fail
            go_ret
            exact ⟨rfl, below_next HB.out hbW⟩
      · have da : decide (a < 0) = false := decide_eq_false han
        have dm : decide (0 ≤ ma) = true ∨ decide (0 ≤ ma) = false := by cases decide (0 ≤ ma) <;> simp
        rcases dm with dm | dm
        · go_wp2_with fail
          obtain ⟨w8, hw8⟩ : ∃ w8 : World, w8 = (w7.alloc (.cells #[.int .i64 0, .int .i64 0] 28)) := ⟨_, rfl⟩
          have hbw8 : Below (w7.alloc (.cells #[.int .i64 0, .int .i64 0] 28)).heap.size (w7.alloc (.cells #[.int .i64 0, .int .i64 0] 28)) w8 := by rw [hw8]; exact Below.refl _ _
          rw [← hw8]
          clear hw8
          obtain ⟨K_h0, B_w8, l_w8⟩ := blk1 hbw8
          replace G := Lib.hid (G.out.keep B_w8)
          replace I := Lib.hid (I.out.keep B_w8)
          replace IL := Lib.hid (IL.out.keep B_w8)
          replace IM := Lib.hid (IM.out.keep B_w8)
          replace KG := Lib.hid (KG.out.keep B_w8)
          replace GP := Lib.hid (GP.out.keep B_w8)
          replace K_c := Lib.hid (K_c.out.keep B_w8)
          replace K_f := Lib.hid (K_f.out.keep B_w8)
          replace K_i := Lib.hid (K_i.out.keep B_w8)
          replace HB := Lib.hid (below_next HB.out B_w8)
          have K_h := Lib.hid K_h0
          clear hbw8 B_w8 K_h0
          clear cK_c_0 cK_c_1 zK_c cK_f_0 cK_f_1 zK_f cK_i_0 zK_i
          have cK_c_0 := K_c.out.cell 0
          have cK_c_1 := K_c.out.cell 1
          simp at cK_c_0 cK_c_1
          have zK_c := K_c.out.lt
          have cK_f_0 := K_f.out.cell 0
          have cK_f_1 := K_f.out.cell 1
          simp at cK_f_0 cK_f_1
          have zK_f := K_f.out.lt
          have cK_i_0 := K_i.out.cell 0
          simp at cK_i_0
          have zK_i := K_i.out.lt
          have cK_h_0 := K_h.out.cell 0
          have cK_h_1 := K_h.out.cell 1
          simp at cK_h_0 cK_h_1
          have zK_h := K_h.out.lt
          go_loopw [16] (fun i wr => ∃ j : Nat, j ≤ nm ∧ i = .int .i64 j ∧ Hid (∃ m, wr = w8.drewN m)) (fun i _ => nm - (intOf i).toNat)
          case atStart => exact ⟨0, Nat.zero_le _, rfl, ⟨0, rfl⟩⟩
          case round =>
            obtain ⟨j, hj, rfl, hB⟩ := hrel
            have hbW : Below w8.heap.size w8 wr := by obtain ⟨m, rfl⟩ := hB.out; exact below_drewN w8 m
            by_cases hlt : j < nm
            · go_wp2_with fail
              go_ret
              exact ⟨rfl, below_next HB.out hbW⟩
            · go_wp2_with fail
              go_ret
              exact ⟨rfl, below_next HB.out hbW⟩
        · go_wp2_with fail
          obtain ⟨w8, hw8⟩ : ∃ w8 : World, w8 = (w7.alloc (.cells #[.int .i64 0, .int .i64 0] 28)) := ⟨_, rfl⟩
          have hbw8 : Below (w7.alloc (.cells #[.int .i64 0, .int .i64 0] 28)).heap.size (w7.alloc (.cells #[.int .i64 0, .int .i64 0] 28)) w8 := by rw [hw8]; exact Below.refl _ _
          rw [← hw8]
          clear hw8
          obtain ⟨K_h0, B_w8, l_w8⟩ := blk1 hbw8
          replace G := Lib.hid (G.out.keep B_w8)
          replace I := Lib.hid (I.out.keep B_w8)
          replace IL := Lib.hid (IL.out.keep B_w8)
          replace IM := Lib.hid (IM.out.keep B_w8)
          replace KG := Lib.hid (KG.out.keep B_w8)
          replace GP := Lib.hid (GP.out.keep B_w8)
          replace K_c := Lib.hid (K_c.out.keep B_w8)
          replace K_f := Lib.hid (K_f.out.keep B_w8)
          replace K_i := Lib.hid (K_i.out.keep B_w8)
          replace HB := Lib.hid (below_next HB.out B_w8)
          have K_h := Lib.hid K_h0
          clear hbw8 B_w8 K_h0
          clear cK_c_0 cK_c_1 zK_c cK_f_0 cK_f_1 zK_f cK_i_0 zK_i
          have cK_c_0 := K_c.out.cell 0
          have cK_c_1 := K_c.out.cell 1
          simp at cK_c_0 cK_c_1
          have zK_c := K_c.out.lt
          have cK_f_0 := K_f.out.cell 0
          have cK_f_1 := K_f.out.cell 1
          simp at cK_f_0 cK_f_1
          have zK_f := K_f.out.lt
          have cK_i_0 := K_i.out.cell 0
          simp at cK_i_0
          have zK_i := K_i.out.lt
          have cK_h_0 := K_h.out.cell 0
          have cK_h_1 := K_h.out.cell 1
          simp at cK_h_0 cK_h_1
          have zK_h := K_h.out.lt
          go_loopw [16] (fun i wr => ∃ j : Nat, j ≤ nm ∧ i = .int .i64 j ∧ Hid (∃ m, wr = w8.drewN m)) (fun i _ => nm - (intOf i).toNat)
          case atStart => exact ⟨0, Nat.zero_le _, rfl, ⟨0, rfl⟩⟩
          case round =>
            obtain ⟨j, hj, rfl, hB⟩ := hrel
            have hbW : Below w8.heap.size w8 wr := by obtain ⟨m, rfl⟩ := hB.out; exact below_drewN w8 m
            by_cases hlt : j < nm
            · go_wp2_with fail
              go_ret
              exact ⟨rfl, below_next HB.out hbW⟩
            · go_wp2_with fail
              go_ret
              exact ⟨rfl, below_next HB.out hbW⟩
  · have d1 : (r1 != 0) = true := by simpa using hr1
    go_enter Try.func11, Try.ntmps11
    go_wp2_with fail
    refine (heavy_any _ _ _ _ _ hn63 _ hhv).mono ?_
    rintro e w1 ⟨rfl, hb1⟩
    obtain ⟨K_c0, B_w1, l_w1⟩ := blk1 hb1
    replace G := Lib.hid (G.out.keep B_w1)
    replace I := Lib.hid (I.out.keep B_w1)
    have HB := Lib.hid B_w1
    have K_c := Lib.hid K_c0
    clear hb1 B_w1 K_c0
    have cK_c_0 := K_c.out.cell 0
    have cK_c_1 := K_c.out.cell 1
    simp at cK_c_0 cK_c_1
    have zK_c := K_c.out.lt
    go_wp2_with fail
    refine (propDo_wrong _ _ _ _ _ _ xss l vars _ G.out hv I.out r1 r2 hr hr1).mono ?_
    rintro e w2 ⟨rfl, hb2⟩
    have B_w2 := hb2
    replace G := Lib.hid (G.out.keep B_w2)
    replace I := Lib.hid (I.out.keep B_w2)
    replace K_c := Lib.hid (K_c.out.keep B_w2)
    replace HB := Lib.hid (below_next HB.out B_w2)
    clear hb2 B_w2
    clear cK_c_0 cK_c_1 zK_c
    have cK_c_0 := K_c.out.cell 0
    have cK_c_1 := K_c.out.cell 1
    simp at cK_c_0 cK_c_1
    have zK_c := K_c.out.lt
    go_wp2_with fail
    go_ret
    exact ⟨rfl, below_next HB.out (below_new _ _)⟩
end Go.Proofs.Ytghebbkpdldjfaa
