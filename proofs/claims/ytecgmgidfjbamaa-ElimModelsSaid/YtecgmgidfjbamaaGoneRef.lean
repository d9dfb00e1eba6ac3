/- Contract of the reference's Gone. (Printed by wip/tools/gone.py.) -/
import Derived.Test.YtecgmgidfjbamaaGonePlain
import Derived.Test.YtecgmgidfjbamaaOutRef
import Derived.Test.YtecgmgidfjbamaaCube
import Derived.Test.YtecgmgidfjbamaaCnfB
namespace Go.Proofs.Ytecgmgidfjbamaa
open Go.RowKit
set_option linter.unusedSimpArgs false

theorem run_fault00 (w : World) (x0 x1 : Value) : (Instr.field 28 (.agg #[x0, x1]) 0).run Try.prog w = .ok x0 w := by kernel_rfl
theorem RetNorm_congr {l m : List (List Int)} (h : normF l = normF m) {w : World} : RetNorm l w = RetNorm m w := by unfold RetNorm; rw [h]
set_option maxHeartbeats 8000000 in
set_option maxRecDepth 100000 in
theorem gone_ref (A B : Option Addr) (n c m d : Nat) (xss : List (List Int)) (vs : List Int) (vars : Int) (w : World) (h : Grid w A n c xss) (hv : I64 vars) (h' : Ints w B m d vs) (hm : m ≤ 1000) (hok : (checkC vars xss).1 = 0) (hvs : ∀ v ∈ vs, 1 ≤ v ∧ v ≤ vars) (R : List (List (List Int))) (k : Nat) (hR : Hid (goneF vars vs (normF xss) [normF xss] 0 = (R, k))) :
    Calls Try.prog 39 #[.agg #[.int .i64 vars, .slice A n c], .slice B m d] w (fun e w' => ∃ A' n' c', e = .returned (.tuple #[.slice A' n' c', .int .i64 k]) ∧ OwnQ w' w.heap.size A' n' c' R ∧ Below w.heap.size w w') := by
  have hbd := h.bd
  have hbd' := h'.bd
  have hlen := Lib.hid h.len
  have hlv := Lib.hid h'.len
  obtain ⟨_, v0, v1, hn400, hrows⟩ := checkC_ok hok
  have hn4 : n ≤ 400 := by have := hlen.out; omega
  obtain ⟨i0, hi0, hz0, hz1, hz2⟩ := info_parts grid_info
  have HTD : Hid (Tidy vars (normF xss)) := norm_tidy hrows
  have HSB : Hid (∀ xs ∈ xss, ∀ x ∈ xs, -1000000 ≤ x ∧ x ≤ 1000000) := fun xs hx x hx' => by have := (hrows xs hx).2.1 x hx'; omega
  have HWD : Hid (∀ xs ∈ xss, xs.length ≤ 1000000) := fun xs hx => by have := (hrows xs hx).1; omega
  have HVS := Lib.hid hvs
  have hf0 := run_fault00
  have G := Lib.hid h
  have HV := Lib.hid h'
  obtain ⟨w0, hw0⟩ : ∃ w0 : World, w0 = w.alloc (.cells #[.int .i64 vars, .slice A n c] 24) := ⟨_, rfl⟩
  have hbn : Below w.heap.size w w0 := by rw [hw0]; exact below_new _ _
  have KC : Hid (Blk w0 w.heap.size 24 #[.int .i64 vars, .slice A n c]) := by rw [hw0]; exact Blk.new _ _ _
  have HBN := Lib.hid hbn
  have HW0 := Lib.hid hw0
  clear h h' hrows hvs hn400 hbn hw0
  go_enter Try.func39, Try.ntmps39
  go_wp2_with fail
  rw [← HW0.out]
  refine (normal_ref _ _ _ xss w0 (G.out.keep HBN.out) HSB.out HWD.out (by omega)).mono ?_
  rintro e w1 ⟨A1, n1, c1, rfl, hO1, hb1⟩
  have hl1 : Hid ((normF xss).length ≤ 400) := by have := normF_len xss; have := hlen.out; show _ ≤ _; omega
  have Q1 := Lib.hid (ownQ_one (w := w1) rfl hb1.size hO1)
  have B1 := Lib.hid (below_alloc hb1 (.cells #[.slice A1 n1 c1] 22))
  clear hO1 hb1
  go_wp2_with fail
  go_loopw [6, 7] (fun s6 s wr => ∃ (i na ca : Nat) (Aa : Option Addr) (all : List (List (List Int))) (l : List (List Int)), i ≤ m ∧ i < na ∧ na ≤ i + 1 ∧ s6 = .slice Aa na ca ∧ s = .int .i64 i ∧ Hid (OwnQ wr w0.heap.size Aa na ca all) ∧ Hid (all[i]? = some l) ∧ Hid (∀ x ∈ l, Lits vars x) ∧ Hid (l.length ≤ 400) ∧ Hid (goneF vars (vs.drop i) l all i = (R, k)) ∧ Hid (Below w0.heap.size w0 wr)) (fun _ s _ => m - (intOf s).toNat)
  case atStart => exact ⟨0, 1, 1, some ⟨w1.heap.size, 0, none⟩, [normF xss], normF xss, Nat.zero_le _, by omega, by omega, rfl, rfl, Q1, rfl, fun x hx => (HTD.out.2 x hx).2, hl1, hR, B1⟩
  case round =>
    clear Q1 B1 hR hl1
    obtain ⟨i, na, ca, Aa, all, l, hi, hna, hna2, rfl, rfl, hQ, hal, hll, hl4, hgo, hbl⟩ := hrel
    have hwz := hbl.out.size
    have hwz0 := HBN.out.size
    have c0 := (KC.out.keep hbl.out).cell 0
    simp at c0
    have lc : w.heap.size < wr.heap.size := (cell_lt c0).1
    by_cases hlt : i < m
    · obtain ⟨b, off, v, hBe, hb, hcv, u1, u2, hvk⟩ := ((HV.out.keep HBN.out).keep hbl.out).round hlt
      subst hBe
      obtain ⟨g, X, nx, cx, l', hAe, hgb, hgl, hcx, hX, hlk⟩ := hQ.out.round hna
      subst hAe
      obtain rfl : l' = l := by have := hlk.out; rw [hal.out] at this; cases this; rfl
      have hvb := HVS.out v (List.mem_of_getElem? hvk.out)
      have hnx : nx ≤ 400 := by have h1 := hX.len; have h2 := hl4.out; omega
      have GX := Lib.hid hX.grid
      obtain ⟨cd, hcd⟩ : ∃ cd, Hid (checkC vars (elimF l' v) = cd) := ⟨_, rfl⟩
      have hgo2 : Hid ((if cd.1 ≠ 0 then (all, i) else goneF vars (vs.drop (i + 1)) (elimF l' v) (all ++ [elimF l' v]) (i + 1)) = (R, k)) := by have := hgo.out; rw [drop_cons_of hvk.out, goneF, hcd.out] at this; exact this
      have HEL : Hid (∀ x ∈ elimF l' v, Lits vars x) := elimF_lits hll.out
      obtain ⟨cd1, cd2⟩ := cd
      have y1 : (0 : Int) ≤ (i : Int) := by omega
      have y2 : (i : Int) < (m : Int) := by omega
      have y3 : (i : Int) < (na : Int) := by omega
      clear hX hgo
      go_wp2_with fail
      have hS : wr.drew.cell? ⟨g, i, none⟩ = some (.slice X nx cx) ∧ wr.drew.cell? ⟨b, off + i, none⟩ = some (.int .i64 v) := ⟨keepBox (below_drewN wr 1) hcx, keepBox (below_drewN wr 1) hcv⟩
      refine wp_region_tail (fun w' => w'.cell? ⟨g, i, none⟩ = some (.slice X nx cx) ∧ w'.cell? ⟨b, off + i, none⟩ = some (.int .i64 v)) [] (by kernel_rfl) ?_
      refine take0 (i := 0) (oi := _) (v := ?_) rfl (by kernel_rfl) (by kernel_rfl) (by kernel_rfl) (fun _ _ _ h => h) rfl (Or.inl ⟨by rfl, ?_⟩) (fun _ => hS) ?_
      rotate_left
      · intro w0; go_simp; with_reducible rfl
      (try simp only [Act.put, List.setIfInBounds_toArray, List.set_cons_zero, List.set_cons_succ])
      refine take0 (i := 1) (oi := _) (v := ?_) rfl (by kernel_rfl) (by kernel_rfl) (by kernel_rfl) (fun _ _ _ h => h) rfl (Or.inl ⟨by rfl, ?_⟩) (fun _ => hS) ?_
      rotate_left
      · intro w0; go_simp; with_reducible rfl
      (try simp only [Act.put, List.setIfInBounds_toArray, List.set_cons_zero, List.set_cons_succ])
      refine take0 (i := 2) (oi := _) (v := ?_) rfl (by kernel_rfl) (by kernel_rfl) (by kernel_rfl) (fun _ _ _ h => h) rfl (Or.inl ⟨by rfl, ?_⟩) (fun _ => hS) ?_
      rotate_left
      · intro w0; go_simp; with_reducible rfl
      (try simp only [Act.put, List.setIfInBounds_toArray, List.set_cons_zero, List.set_cons_succ])
      refine takeS (i := 3) (oi := _) (v := ?_) rfl (by kernel_rfl) (by kernel_rfl) (by kernel_rfl) (fun _ _ _ h => h) rfl (by kernel_rfl) (by kernel_rfl) (Or.inl ⟨by rfl, ?_⟩) hS ?_
      rotate_left
      · intro w0 hSw; (try dsimp only at hSw); go_simp; with_reducible rfl
      (try simp only [Act.put, List.setIfInBounds_toArray, List.set_cons_zero, List.set_cons_succ])
      refine take0 (i := 4) (oi := _) (v := ?_) rfl (by kernel_rfl) (by kernel_rfl) (by kernel_rfl) (fun _ _ _ h => h) rfl (Or.inl ⟨by rfl, ?_⟩) (fun _ => hS) ?_
      rotate_left
      · intro w0; go_simp; with_reducible rfl
      (try simp only [Act.put, List.setIfInBounds_toArray, List.set_cons_zero, List.set_cons_succ])
      refine take0 (i := 5) (oi := _) (v := ?_) rfl (by kernel_rfl) (by kernel_rfl) (by kernel_rfl) (fun _ _ _ h => h) rfl (Or.inl ⟨by rfl, ?_⟩) (fun _ => hS) ?_
      rotate_left
      · intro w0; go_simp; with_reducible rfl
      (try simp only [Act.put, List.setIfInBounds_toArray, List.set_cons_zero, List.set_cons_succ])
      refine take0 (i := 6) (oi := _) (v := ?_) rfl (by kernel_rfl) (by kernel_rfl) (by kernel_rfl) (fun _ _ _ h => h) rfl (Or.inl ⟨by rfl, ?_⟩) (fun _ => hS) ?_
      rotate_left
      · intro w0; go_simp; with_reducible rfl
      (try simp only [Act.put, List.setIfInBounds_toArray, List.set_cons_zero, List.set_cons_succ])
      refine takeS (i := 7) (oi := _) (v := ?_) rfl (by kernel_rfl) (by kernel_rfl) (by kernel_rfl) (fun _ _ _ h => h) rfl (by kernel_rfl) (by kernel_rfl) (Or.inl ⟨by rfl, ?_⟩) hS ?_
      rotate_left
      · intro w0 hSw; (try dsimp only at hSw); go_simp; with_reducible rfl
      (try simp only [Act.put, List.setIfInBounds_toArray, List.set_cons_zero, List.set_cons_succ])
      refine oneT (i := 8) (by kernel_rfl) rfl (by rfl) (fun K hK => ?_)
      go_simp
      refine (out_ref _ _ _ l' v vars _ (GX.out.drewN 1) hll.out v0 (by omega) hnx hvb.1 (by omega)).mono ?_
      rintro e w9 ⟨L9, n9, c9, rfl, ho9, hb9⟩
      have O9 : Hid (OwnP 26 3 w9 wr.heap.size 0 L9 n9 c9 (elimF l' v)) := ho9
      have B9 := Lib.hid (below_next (below_drewN wr 1) hb9)
      clear hb9 ho9
      have hS : w9.cell? ⟨g, i, none⟩ = some (.slice X nx cx) ∧ w9.cell? ⟨b, off + i, none⟩ = some (.int .i64 v) := ⟨keepBox B9.out hcx, keepBox B9.out hcv⟩
      refine hK _ _ (fun _ => hS) ?_
      clear hK
      (try simp only [Act.put, List.setIfInBounds_toArray, List.set_cons_zero, List.set_cons_succ])
      refine take0 (i := 9) (oi := _) (v := ?_) rfl (by kernel_rfl) (by kernel_rfl) (by kernel_rfl) (fun _ _ _ h => h) rfl (Or.inl ⟨by rfl, ?_⟩) (fun _ => hS) ?_
      rotate_left
      · intro w0; go_simp; with_reducible rfl
      (try simp only [Act.put, List.setIfInBounds_toArray, List.set_cons_zero, List.set_cons_succ])
      refine doneT (by kernel_rfl) ?_ _
      have BL9 := Lib.hid (below_next hbl.out B9.out)
      have Q9 := Lib.hid (hQ.out.keep B9.out)
      have c9' := keepBox B9.out c0
      have lc9 : w.heap.size < w9.heap.size := (cell_lt c9').1
      have hwz9 := BL9.out.size
      clear hQ hbl hcx hcv c0 lc hS
      go_wp2_with fail
      refine (check_ref _ _ _ (elimF l' v) vars _ O9.out.grid hv cd1 cd2 hcd).mono ?_
      rintro e w10 ⟨rfl, hb10⟩
      have Q10 := Lib.hid (Q9.out.keep hb10)
      have BL10 := Lib.hid (below_next BL9.out hb10)
      have O10 := Lib.hid (O9.out.keep hb10)
      have hwz10 := BL10.out.size
      clear hb10 Q9 BL9
      by_cases hcd1 : cd1 = 0
      · subst hcd1
        have hgo3 : Hid (goneF vars (vs.drop (i + 1)) (elimF l' v) (all ++ [elimF l' v]) (i + 1) = (R, k)) := by have := hgo2.out; rw [if_neg (by simp)] at this; exact this
        have hel4 : Hid ((elimF l' v).length ≤ 400) := (checkC_ok (vars := vars) (xss := elimF l' v) (by rw [hcd.out])).2.2.2.1
        obtain ⟨us, hu1, hu2⟩ := Q10.out
        have HU1 := Lib.hid (hu1.keep (below_new w10 (.cells #[.slice L9 n9 c9] 22)))
        have HU2 := Lib.hid (hu2.keep (below_new w10 (.cells #[.slice L9 n9 c9] 22)))
        have hal' := Lib.hid Q10.out.len.1
        have hSS := sl_one w10 22 (.slice L9 n9 c9) rfl
        clear hu1 hu2
        go_wp2_with (first
          | (at_builtin
             refine wpList_append_sl _ rfl (.tmp 37) (.tmp 39) _ rfl w0.heap.size 22 i0 _ 24 Try.underlying63 hi0 hz0 hz1 hz2 rfl (some ⟨g, 0, none⟩) na ca _ rfl HU1.out (some ⟨w10.heap.size, 0, none⟩) 1 1 _ rfl hSS (by simp [Value.oneCell']) (by simp only [maxLen]; omega) (by omega) (by simp; omega) ?_
             intro L1 cL1 w6 hL1 hg1 hat1
             have HP6 := Lib.hid (OwnQ.push HU1.out HU2.out ((O10.out.mono (base' := w0.heap.size) (by omega) (Nat.le_refl _)).keep (below_new _ _)) hL1 hg1)
             have HB6 := Lib.hid (below_grown (below_alloc BL10.out (.cells #[.slice L9 n9 c9] 22)) HU1.out (Nat.le_refl _) hg1)
             clear hL1 hg1 hat1))
        go_roundw
        case rel => exact ⟨i + 1, na + 1, cL1, L1, all ++ [elimF l' v], elimF l' v, by omega, by omega, by omega, rfl, by go_num, HP6, by rw [List.getElem?_append_right (by rw [hal'.out]; omega), hal'.out, show i + 1 - na = 0 by omega]; rfl, HEL, hel4, hgo3, HB6⟩
        case measure => simp [intOf]; omega
      · have dc : (cd1 != 0) = true := by simpa using hcd1
        obtain ⟨rfl, rfl⟩ : all = R ∧ i = k := by have := hgo2.out; rw [if_pos hcd1] at this; simpa using this
        go_wp2_with fail
        go_ret2
        exact ⟨_, _, _, rfl, by obtain ⟨us, q1, q2⟩ := Q10.out; exact ⟨us, q1.mono hwz0, q2.1, fun j u hu => by obtain ⟨a1, a2, a3, a4, a5, a6, a7⟩ := q2.2 j u hu; exact ⟨a1, a2, a3, a4, a5, a6, a7.mono hwz0 (Nat.le_refl _)⟩⟩, below_next HBN.out BL10.out⟩
    · obtain ⟨rfl, rfl⟩ : all = R ∧ i = k := by have := hgo.out; rw [List.drop_of_length_le (by rw [hlv.out]; omega), goneF] at this; simpa using this
      obtain rfl : i = m := by omega
      go_wp2_with fail
      go_ret2
      exact ⟨_, _, _, rfl, by obtain ⟨us, q1, q2⟩ := hQ.out; exact ⟨us, q1.mono hwz0, q2.1, fun j u hu => by obtain ⟨a1, a2, a3, a4, a5, a6, a7⟩ := q2.2 j u hu; exact ⟨a1, a2, a3, a4, a5, a6, a7.mono hwz0 (Nat.le_refl _)⟩⟩, below_next HBN.out hbl.out⟩
end Go.Proofs.Ytecgmgidfjbamaa
