/- Contract of the reference's Out. (Printed by wip/tools/outref.py.) -/
import Derived.Test.YtecgmgidfjbamaaElimSound
import Derived.Test.YtecgmgidfjbamaaNormalRef
namespace Go.Proofs.Ytecgmgidfjbamaa
open Go.RowKit
set_option linter.unusedSimpArgs false

set_option maxHeartbeats 8000000 in
set_option maxRecDepth 100000 in
theorem out_ref (A : Option Addr) (n c : Nat) (l : List (List Int)) (v vars : Int) (w : World) (h : Grid w A n c l) (hl : ∀ x ∈ l, Lits vars x) (v0 : 0 ≤ vars) (v1 : vars ≤ 120) (hn : n ≤ 400) (hv : 1 ≤ v) (hv2 : v ≤ 120) :
    Calls Try.prog 69 #[.slice A n c, .int .i64 v] w (RetNorm (outR l v) w) := by
  have hbd := h.bd
  have hlen := Lib.hid h.len
  obtain ⟨i0, hi0, hz0, hz1, hz2⟩ := info_parts row_info
  have G := Lib.hid h
  have HLT := Lib.hid hl
  clear h hl
  go_enter Try.func69, Try.ntmps69
  go_wp2_with fail
  go_loopw [5, 6] (fun s5 s wr => ∃ (i mo d1 : Nat) (O : Option Addr), i ≤ n ∧ mo ≤ i * 401 ∧ s5 = .slice O mo d1 ∧ s = .int .i64 i ∧ Hid (OwnP 26 3 wr w.heap.size w.heap.size O mo d1 ((l.take i).flatMap (outOne l v))) ∧ Hid (Below w.heap.size w wr)) (fun _ s _ => n - (intOf s).toNat)
  case atStart => exact ⟨0, 0, 0, none, Nat.zero_le _, Nat.le_refl _, rfl, rfl, by simpa [Hid] using OwnP.nil _ _ _ _ _, Below.refl _ _⟩
  case round =>
    obtain ⟨i, mo, d1, O, hi, hmo, rfl, rfl, hO, hbl⟩ := hrel
    have hwz := hbl.out.size
    by_cases hlt : i < n
    · obtain ⟨b0, off, X, nx, cx, a, hLe, hb, hcell, hx, hak⟩ := G.out.round hlt
      subst hLe
      have HX := Lib.hid hx
      have AX : Hid (Away 3 w w.heap.size X nx) := Away.old hx (Nat.le_refl _)
      have la := Lib.hid (HLT.out a (List.mem_of_getElem? hak.out))
      have hnx : nx ≤ 1000 := by have h1 := la.out.len_le v0; rw [hx.len] at h1; omega
      have HAB : Hid (∀ z ∈ a, -1000000 ≤ z ∧ z ≤ 1000000) := fun z hz => by have := la.out.1 z hz; omega
      obtain ⟨q1, hq1⟩ : ∃ q, Hid (hasB a v = q) := ⟨_, rfl⟩
      obtain ⟨q2, hq2⟩ : ∃ q, Hid (hasB a (-v) = q) := ⟨_, rfl⟩
      have y1 : (0 : Int) ≤ (i : Int) := by omega
      have y2 : (i : Int) < (n : Int) := by omega
      have ci := keepBox hbl.out hcell
      have lbi : b0 < wr.heap.size := (cell_lt ci).1
      obtain ⟨base, hbase⟩ : ∃ base, Hid ((l.take i).flatMap (outOne l v) = base) := ⟨_, rfl⟩
      have hnext : Hid ((l.take (i + 1)).flatMap (outOne l v) = base ++ (if !q1 && !q2 then [a] else []) ++ l.filterMap (fun b => if (resF a b v).2 = 0 then some (resF a b v).1 else none)) := by
        rw [take_snoc_of hak.out, List.flatMap_append, hbase.out, List.append_assoc]
        show _ = _
        congr 1
        simp only [List.flatMap_cons, List.flatMap_nil, List.append_nil, outOne, hq1.out, hq2.out]
      rw [hbase.out] at hO
      have HXW := Lib.hid (HX.out.keep hbl.out)
      clear hx hb
      go_wp2_with fail
      refine (has_any _ _ _ a v _ HXW.out q1 hq1).mono ?_
      rintro e wa ⟨rfl, ma, hwa⟩
      have hba : Below wr.heap.size wr wa := by rw [hwa]; exact below_drewN _ _
      have ca := keepBox hba ci
      have lba : b0 < wa.heap.size := (cell_lt ca).1
      have Oa := Lib.hid (hO.out.keep hba)
      have BLa := Lib.hid (below_next hbl.out hba)
      have HXa := Lib.hid (HXW.out.keep hba)
      clear hwa hba hO hbl ci lbi HXW
      cases q1
      · go_wp2_with fail
        refine (has_any _ _ _ a (-v) _ HXa.out q2 hq2).mono ?_
        rintro e w3 ⟨rfl, m3, hw3⟩
        have hb3 : Below wa.heap.size wa w3 := by rw [hw3]; exact below_drewN _ _
        have c3 := keepBox hb3 ca
        have lb3 : b0 < w3.heap.size := (cell_lt c3).1
        have O3 := Lib.hid (Oa.out.keep hb3)
        have BL3 := Lib.hid (below_next BLa.out hb3)
        have hwz3 := BL3.out.size
        clear hw3 hb3 ca lba Oa BLa HXa
        cases q2
        · obtain ⟨vs, hv1, hv2'⟩ := O3.out
          have HV1 := Lib.hid (hv1.keep (below_new w3 (.cells #[.slice X nx cx] 26)))
          have HV2 := Lib.hid (hv2'.keep (below_new w3 (.cells #[.slice X nx cx] 26)))
          have IX3 := Lib.hid ((HX.out.keep BL3.out).keep (below_new w3 (.cells #[.slice X nx cx] 26)))
          have AX3 := Lib.hid ((AX.out.keep BL3.out).keep (below_new w3 (.cells #[.slice X nx cx] 26)))
          have hS := sl_one w3 26 (.slice X nx cx) rfl
          clear hv1 hv2'
          go_wp2_with (first
            | (at_builtin
               refine wpList_append_sl _ rfl (.tmp 33) (.tmp 38) _ rfl w.heap.size 26 i0 _ 24 Try.underlying22 hi0 hz0 hz1 hz2 rfl O mo d1 _ rfl HV1.out (some ⟨w3.heap.size, 0, none⟩) 1 1 _ rfl hS (by simp [Value.oneCell']) (by simp only [maxLen]; omega) (by omega) (by simp; omega) ?_
               intro L1 cL1 w6 hL1 hg1 hat1
               have HP6 := Lib.hid (OwnP.push HV1.out HV2.out (Nat.le_refl _) row_ne IX3.out AX3.out hL1 hg1)
               have HB6 := Lib.hid (below_grown (below_alloc BL3.out (.cells #[.slice X nx cx] 26)) HV1.out (Nat.le_refl _) hg1)
               clear hL1 hg1 hat1))
          go_loopw [5, 7] (fun s5 s wr => ∃ (j mo d2 : Nat) (O : Option Addr), j ≤ n ∧ mo ≤ i * 401 + 1 + j ∧ s5 = .slice O mo d2 ∧ s = .int .i64 j ∧ Hid (OwnP 26 3 wr w.heap.size w.heap.size O mo d2 ((base ++ [a]) ++ (l.take j).filterMap (fun b => if (resF a b v).2 = 0 then some (resF a b v).1 else none))) ∧ Hid (Below w.heap.size w wr)) (fun _ s _ => n - (intOf s).toNat)
          case atStart => exact ⟨0, mo + 1, cL1, L1, Nat.zero_le _, by omega, rfl, rfl, by simpa [Hid] using HP6.out, HB6⟩
          case round =>
            clear HP6 HB6 hmo
            obtain ⟨j, mo, d2, O, hj, hmo2, rfl, rfl, hO, hbl⟩ := hrel
            have hwz := hbl.out.size
            have ci := keepBox hbl.out hcell
            have lbi : b0 < wr.heap.size := (cell_lt ci).1
            by_cases hlt3 : j < n
            · obtain ⟨b1, off1, Y, ny, cy, b, hQe, _, hcy0, hy, hbk⟩ := G.out.round hlt3
              cases hQe
              have cj := keepBox hbl.out hcy0
              have HXW := Lib.hid (HX.out.keep hbl.out)
              have HYW := Lib.hid (hy.keep hbl.out)
              have lb := Lib.hid (HLT.out b (List.mem_of_getElem? hbk.out))
              have hny : ny ≤ 1000 := by have h1 := lb.out.len_le v0; rw [hy.len] at h1; omega
              have HBB : Hid (∀ z ∈ b, -1000000 ≤ z ∧ z ≤ 1000000) := fun z hz => by have := lb.out.1 z hz; omega
              obtain ⟨rl, code, hres⟩ : ∃ p q, Hid (resF a b v = (p, q)) := ⟨_, _, rfl⟩
              have hstep : Hid ((l.take (j + 1)).filterMap (fun b => if (resF a b v).2 = 0 then some (resF a b v).1 else none) = (l.take j).filterMap (fun b => if (resF a b v).2 = 0 then some (resF a b v).1 else none) ++ (if code = 0 then [rl] else [])) := by
                rw [take_snoc_of hbk.out, List.filterMap_append]
                show _ = _
                congr 1
                by_cases hc : code = 0
                · simp [hres.out, hc]
                · simp [hres.out, hc]
              have y3 : (0 : Int) ≤ (j : Int) := by omega
              have y4 : (j : Int) < (n : Int) := by omega
              clear hy hcy0
              go_wp2_with fail
              have hS : wr.drew.cell? ⟨b0, off + i, none⟩ = some (.slice X nx cx) ∧ wr.drew.cell? ⟨b0, off + j, none⟩ = some (.slice Y ny cy) := ⟨keepBox (below_drewN wr 1) ci, keepBox (below_drewN wr 1) cj⟩
              refine wp_region_tail (fun w' => w'.cell? ⟨b0, off + i, none⟩ = some (.slice X nx cx) ∧ w'.cell? ⟨b0, off + j, none⟩ = some (.slice Y ny cy)) [] (by kernel_rfl) ?_
              refine take0 (i := 0) (oi := _) (v := ?_) rfl (by kernel_rfl) (by kernel_rfl) (by kernel_rfl) (fun _ _ _ h => h) rfl (Or.inl ⟨by rfl, ?_⟩) (fun _ => hS) ?_
              rotate_left
              · intro w0; go_simp; with_reducible rfl
              (try simp only [Act.put, List.setIfInBounds_toArray, List.set_cons_zero, List.set_cons_succ])
              refine take0 (i := 1) (oi := _) (v := ?_) rfl (by kernel_rfl) (by kernel_rfl) (by kernel_rfl) (fun _ _ _ h => h) rfl (Or.inl ⟨by rfl, ?_⟩) (fun _ => hS) ?_
              rotate_left
              · intro w0; go_simp; with_reducible rfl
              (try simp only [Act.put, List.setIfInBounds_toArray, List.set_cons_zero, List.set_cons_succ])
              refine take0 (i := 2) (oi := _) (v := ?_) rfl (by kernel_rfl) (by kernel_rfl) (by kernel_rfl) (fun _ _ _ h => h) rfl (Or.inl ⟨by rfl, ?_⟩) (fun _ => hS) ?_
              rotate_left
              · intro w0; go_simp; with_reducible rfl
              (try simp only [Act.put, List.setIfInBounds_toArray, List.set_cons_zero, List.set_cons_succ])
              refine takeS (i := 3) (oi := _) (v := ?_) rfl (by kernel_rfl) (by kernel_rfl) (by kernel_rfl) (fun _ _ _ h => h) rfl (by kernel_rfl) (by kernel_rfl) (Or.inl ⟨by rfl, ?_⟩) hS ?_
              rotate_left
              · intro w0 hSw; (try dsimp only at hSw); go_simp; with_reducible rfl
              (try simp only [Act.put, List.setIfInBounds_toArray, List.set_cons_zero, List.set_cons_succ])
              refine take0 (i := 4) (oi := _) (v := ?_) rfl (by kernel_rfl) (by kernel_rfl) (by kernel_rfl) (fun _ _ _ h => h) rfl (Or.inl ⟨by rfl, ?_⟩) (fun _ => hS) ?_
              rotate_left
              · intro w0; go_simp; with_reducible rfl
              (try simp only [Act.put, List.setIfInBounds_toArray, List.set_cons_zero, List.set_cons_succ])
              refine take0 (i := 5) (oi := _) (v := ?_) rfl (by kernel_rfl) (by kernel_rfl) (by kernel_rfl) (fun _ _ _ h => h) rfl (Or.inl ⟨by rfl, ?_⟩) (fun _ => hS) ?_
              rotate_left
              · intro w0; go_simp; with_reducible rfl
              (try simp only [Act.put, List.setIfInBounds_toArray, List.set_cons_zero, List.set_cons_succ])
              refine take0 (i := 6) (oi := _) (v := ?_) rfl (by kernel_rfl) (by kernel_rfl) (by kernel_rfl) (fun _ _ _ h => h) rfl (Or.inl ⟨by rfl, ?_⟩) (fun _ => hS) ?_
              rotate_left
              · intro w0; go_simp; with_reducible rfl
              (try simp only [Act.put, List.setIfInBounds_toArray, List.set_cons_zero, List.set_cons_succ])
              refine takeS (i := 7) (oi := _) (v := ?_) rfl (by kernel_rfl) (by kernel_rfl) (by kernel_rfl) (fun _ _ _ h => h) rfl (by kernel_rfl) (by kernel_rfl) (Or.inl ⟨by rfl, ?_⟩) hS ?_
              rotate_left
              · intro w0 hSw; (try dsimp only at hSw); go_simp; with_reducible rfl
              (try simp only [Act.put, List.setIfInBounds_toArray, List.set_cons_zero, List.set_cons_succ])
              refine take0 (i := 8) (oi := _) (v := ?_) rfl (by kernel_rfl) (by kernel_rfl) (by kernel_rfl) (fun _ _ _ h => h) rfl (Or.inl ⟨by rfl, ?_⟩) (fun _ => hS) ?_
              rotate_left
              · intro w0; go_simp; with_reducible rfl
              (try simp only [Act.put, List.setIfInBounds_toArray, List.set_cons_zero, List.set_cons_succ])
              refine oneT (i := 9) (by kernel_rfl) rfl (by rfl) (fun K hK => ?_)
              go_simp
              refine (resolved_ref _ _ _ _ _ _ a b v _ (HXW.out.drewN 1) (HYW.out.drewN 1) HAB.out HBB.out (by omega) (by omega) rl code hres).mono ?_
              rintro e w9 ⟨L9, n9, c9, rfl, ⟨hi9, ho9⟩, hb9⟩
              have I9 := Lib.hid hi9
              have AW9 : Hid (Away 3 w9 w.heap.size L9 n9) := Away.own ho9
              have B9 := Lib.hid (below_next (below_drewN wr 1) hb9)
              clear hb9 hi9 ho9
              have hS : w9.cell? ⟨b0, off + i, none⟩ = some (.slice X nx cx) ∧ w9.cell? ⟨b0, off + j, none⟩ = some (.slice Y ny cy) := ⟨keepBox B9.out ci, keepBox B9.out cj⟩
              refine hK _ _ (fun _ => hS) ?_
              clear hK
              (try simp only [Act.put, List.setIfInBounds_toArray, List.set_cons_zero, List.set_cons_succ])
              refine take0 (i := 10) (oi := _) (v := ?_) rfl (by kernel_rfl) (by kernel_rfl) (by kernel_rfl) (fun _ _ _ h => h) rfl (Or.inl ⟨by rfl, ?_⟩) (fun _ => hS) ?_
              rotate_left
              · intro w0; go_simp; with_reducible rfl
              (try simp only [Act.put, List.setIfInBounds_toArray, List.set_cons_zero, List.set_cons_succ])
              refine take0 (i := 11) (oi := _) (v := ?_) rfl (by kernel_rfl) (by kernel_rfl) (by kernel_rfl) (fun _ _ _ h => h) rfl (Or.inl ⟨by rfl, ?_⟩) (fun _ => hS) ?_
              rotate_left
              · intro w0; go_simp; with_reducible rfl
              (try simp only [Act.put, List.setIfInBounds_toArray, List.set_cons_zero, List.set_cons_succ])
              refine take0 (i := 12) (oi := _) (v := ?_) rfl (by kernel_rfl) (by kernel_rfl) (by kernel_rfl) (fun _ _ _ h => h) rfl (Or.inl ⟨by rfl, ?_⟩) (fun _ => hS) ?_
              rotate_left
              · intro w0; go_simp; with_reducible rfl
              (try simp only [Act.put, List.setIfInBounds_toArray, List.set_cons_zero, List.set_cons_succ])
              refine take0 (i := 13) (oi := _) (v := ?_) rfl (by kernel_rfl) (by kernel_rfl) (by kernel_rfl) (fun _ _ _ h => h) rfl (Or.inl ⟨by rfl, ?_⟩) (fun _ => hS) ?_
              rotate_left
              · intro w0; go_simp; with_reducible rfl
              (try simp only [Act.put, List.setIfInBounds_toArray, List.set_cons_zero, List.set_cons_succ])
              refine take0 (i := 14) (oi := _) (v := ?_) rfl (by kernel_rfl) (by kernel_rfl) (by kernel_rfl) (fun _ _ _ h => h) rfl (Or.inl ⟨by rfl, ?_⟩) (fun _ => hS) ?_
              rotate_left
              · intro w0; go_simp; with_reducible rfl
              (try simp only [Act.put, List.setIfInBounds_toArray, List.set_cons_zero, List.set_cons_succ])
              refine doneT (by kernel_rfl) ?_ _
              have BL9 := Lib.hid (below_next hbl.out B9.out)
              have O9 := Lib.hid (hO.out.keep B9.out)
              have hwz9 := BL9.out.size
              clear hO hbl ci cj lbi HXW HYW
              by_cases hcode : code = 0
              · have dc : (code == 0) = true := by simpa using hcode
                rw [if_pos hcode] at hstep
                obtain ⟨vs, hv1, hv2'⟩ := O9.out
                have HV1 := Lib.hid (hv1.keep (below_new w9 (.cells #[.slice L9 n9 c9] 26)))
                have HV2 := Lib.hid (hv2'.keep (below_new w9 (.cells #[.slice L9 n9 c9] 26)))
                have hSS := sl_one w9 26 (.slice L9 n9 c9) rfl
                clear hv1 hv2'
                go_wp2_with (first
                  | (at_builtin
                     refine wpList_append_sl _ rfl (.tmp 61) (.tmp 63) _ rfl w.heap.size 26 i0 _ 24 Try.underlying22 hi0 hz0 hz1 hz2 rfl O mo d2 _ rfl HV1.out (some ⟨w9.heap.size, 0, none⟩) 1 1 _ rfl hSS (by simp [Value.oneCell']) (by simp only [maxLen]; omega) (by omega) (by simp; omega) ?_
                     intro L1 cL1 w6 hL1 hg1 hat1
                     have HP6 := Lib.hid (OwnP.push HV1.out HV2.out (Nat.le_refl _) row_ne (I9.out.keep (below_new _ _)) (AW9.out.keep (below_new _ _)) hL1 hg1)
                     have HB6 := Lib.hid (below_grown (below_alloc BL9.out (.cells #[.slice L9 n9 c9] 26)) HV1.out (Nat.le_refl _) hg1)
                     clear hL1 hg1 hat1))
                go_roundw
                case rel => exact ⟨j + 1, mo + 1, cL1, L1, by omega, by omega, rfl, by go_num, by rw [hstep.out, ← List.append_assoc]; exact HP6, HB6⟩
                case measure => simp [intOf]; omega
              · have dc : (code == 0) = false := by simpa using hcode
                rw [if_neg hcode, List.append_nil] at hstep
                go_wp2_with fail
                go_roundw
                case rel => exact ⟨j + 1, mo, d2, O, by omega, by omega, rfl, by go_num, by rw [hstep.out]; exact O9, BL9⟩
                case measure => simp [intOf]; omega
            · have hfq : l.take j = l := List.take_of_length_le (by rw [hlen.out]; omega)
              rw [hfq] at hO
              clear hfq
              go_wp2_with fail
              go_roundw
              case rel => exact ⟨i + 1, mo, d2, O, by omega, by omega, rfl, by go_num, by rw [hnext.out]; simpa [Hid] using hO.out, hbl⟩
              case measure => simp [intOf]; omega
        · go_wp2_with fail
          go_loopw [5, 7] (fun s5 s wr => ∃ (j mo d2 : Nat) (O : Option Addr), j ≤ n ∧ mo ≤ i * 401 + 1 + j ∧ s5 = .slice O mo d2 ∧ s = .int .i64 j ∧ Hid (OwnP 26 3 wr w.heap.size w.heap.size O mo d2 (base ++ (l.take j).filterMap (fun b => if (resF a b v).2 = 0 then some (resF a b v).1 else none))) ∧ Hid (Below w.heap.size w wr)) (fun _ s _ => n - (intOf s).toNat)
          case atStart => exact ⟨0, mo, d1, O, Nat.zero_le _, by omega, rfl, rfl, by simpa [Hid] using O3.out, BL3⟩
          case round =>
            clear O3 BL3 hmo
            obtain ⟨j, mo, d2, O, hj, hmo2, rfl, rfl, hO, hbl⟩ := hrel
            have hwz := hbl.out.size
            have ci := keepBox hbl.out hcell
            have lbi : b0 < wr.heap.size := (cell_lt ci).1
            by_cases hlt3 : j < n
            · obtain ⟨b1, off1, Y, ny, cy, b, hQe, _, hcy0, hy, hbk⟩ := G.out.round hlt3
              cases hQe
              have cj := keepBox hbl.out hcy0
              have HXW := Lib.hid (HX.out.keep hbl.out)
              have HYW := Lib.hid (hy.keep hbl.out)
              have lb := Lib.hid (HLT.out b (List.mem_of_getElem? hbk.out))
              have hny : ny ≤ 1000 := by have h1 := lb.out.len_le v0; rw [hy.len] at h1; omega
              have HBB : Hid (∀ z ∈ b, -1000000 ≤ z ∧ z ≤ 1000000) := fun z hz => by have := lb.out.1 z hz; omega
              obtain ⟨rl, code, hres⟩ : ∃ p q, Hid (resF a b v = (p, q)) := ⟨_, _, rfl⟩
              have hstep : Hid ((l.take (j + 1)).filterMap (fun b => if (resF a b v).2 = 0 then some (resF a b v).1 else none) = (l.take j).filterMap (fun b => if (resF a b v).2 = 0 then some (resF a b v).1 else none) ++ (if code = 0 then [rl] else [])) := by
                rw [take_snoc_of hbk.out, List.filterMap_append]
                show _ = _
                congr 1
                by_cases hc : code = 0
                · simp [hres.out, hc]
                · simp [hres.out, hc]
              have y3 : (0 : Int) ≤ (j : Int) := by omega
              have y4 : (j : Int) < (n : Int) := by omega
              clear hy hcy0
              go_wp2_with fail
              have hS : wr.drew.cell? ⟨b0, off + i, none⟩ = some (.slice X nx cx) ∧ wr.drew.cell? ⟨b0, off + j, none⟩ = some (.slice Y ny cy) := ⟨keepBox (below_drewN wr 1) ci, keepBox (below_drewN wr 1) cj⟩
              refine wp_region_tail (fun w' => w'.cell? ⟨b0, off + i, none⟩ = some (.slice X nx cx) ∧ w'.cell? ⟨b0, off + j, none⟩ = some (.slice Y ny cy)) [] (by kernel_rfl) ?_
              refine take0 (i := 0) (oi := _) (v := ?_) rfl (by kernel_rfl) (by kernel_rfl) (by kernel_rfl) (fun _ _ _ h => h) rfl (Or.inl ⟨by rfl, ?_⟩) (fun _ => hS) ?_
              rotate_left
              · intro w0; go_simp; with_reducible rfl
              (try simp only [Act.put, List.setIfInBounds_toArray, List.set_cons_zero, List.set_cons_succ])
              refine take0 (i := 1) (oi := _) (v := ?_) rfl (by kernel_rfl) (by kernel_rfl) (by kernel_rfl) (fun _ _ _ h => h) rfl (Or.inl ⟨by rfl, ?_⟩) (fun _ => hS) ?_
              rotate_left
              · intro w0; go_simp; with_reducible rfl
              (try simp only [Act.put, List.setIfInBounds_toArray, List.set_cons_zero, List.set_cons_succ])
              refine take0 (i := 2) (oi := _) (v := ?_) rfl (by kernel_rfl) (by kernel_rfl) (by kernel_rfl) (fun _ _ _ h => h) rfl (Or.inl ⟨by rfl, ?_⟩) (fun _ => hS) ?_
              rotate_left
              · intro w0; go_simp; with_reducible rfl
              (try simp only [Act.put, List.setIfInBounds_toArray, List.set_cons_zero, List.set_cons_succ])
              refine takeS (i := 3) (oi := _) (v := ?_) rfl (by kernel_rfl) (by kernel_rfl) (by kernel_rfl) (fun _ _ _ h => h) rfl (by kernel_rfl) (by kernel_rfl) (Or.inl ⟨by rfl, ?_⟩) hS ?_
              rotate_left
              · intro w0 hSw; (try dsimp only at hSw); go_simp; with_reducible rfl
              (try simp only [Act.put, List.setIfInBounds_toArray, List.set_cons_zero, List.set_cons_succ])
              refine take0 (i := 4) (oi := _) (v := ?_) rfl (by kernel_rfl) (by kernel_rfl) (by kernel_rfl) (fun _ _ _ h => h) rfl (Or.inl ⟨by rfl, ?_⟩) (fun _ => hS) ?_
              rotate_left
              · intro w0; go_simp; with_reducible rfl
              (try simp only [Act.put, List.setIfInBounds_toArray, List.set_cons_zero, List.set_cons_succ])
              refine take0 (i := 5) (oi := _) (v := ?_) rfl (by kernel_rfl) (by kernel_rfl) (by kernel_rfl) (fun _ _ _ h => h) rfl (Or.inl ⟨by rfl, ?_⟩) (fun _ => hS) ?_
              rotate_left
              · intro w0; go_simp; with_reducible rfl
              (try simp only [Act.put, List.setIfInBounds_toArray, List.set_cons_zero, List.set_cons_succ])
              refine take0 (i := 6) (oi := _) (v := ?_) rfl (by kernel_rfl) (by kernel_rfl) (by kernel_rfl) (fun _ _ _ h => h) rfl (Or.inl ⟨by rfl, ?_⟩) (fun _ => hS) ?_
              rotate_left
              · intro w0; go_simp; with_reducible rfl
              (try simp only [Act.put, List.setIfInBounds_toArray, List.set_cons_zero, List.set_cons_succ])
              refine takeS (i := 7) (oi := _) (v := ?_) rfl (by kernel_rfl) (by kernel_rfl) (by kernel_rfl) (fun _ _ _ h => h) rfl (by kernel_rfl) (by kernel_rfl) (Or.inl ⟨by rfl, ?_⟩) hS ?_
              rotate_left
              · intro w0 hSw; (try dsimp only at hSw); go_simp; with_reducible rfl
              (try simp only [Act.put, List.setIfInBounds_toArray, List.set_cons_zero, List.set_cons_succ])
              refine take0 (i := 8) (oi := _) (v := ?_) rfl (by kernel_rfl) (by kernel_rfl) (by kernel_rfl) (fun _ _ _ h => h) rfl (Or.inl ⟨by rfl, ?_⟩) (fun _ => hS) ?_
              rotate_left
              · intro w0; go_simp; with_reducible rfl
              (try simp only [Act.put, List.setIfInBounds_toArray, List.set_cons_zero, List.set_cons_succ])
              refine oneT (i := 9) (by kernel_rfl) rfl (by rfl) (fun K hK => ?_)
              go_simp
              refine (resolved_ref _ _ _ _ _ _ a b v _ (HXW.out.drewN 1) (HYW.out.drewN 1) HAB.out HBB.out (by omega) (by omega) rl code hres).mono ?_
              rintro e w9 ⟨L9, n9, c9, rfl, ⟨hi9, ho9⟩, hb9⟩
              have I9 := Lib.hid hi9
              have AW9 : Hid (Away 3 w9 w.heap.size L9 n9) := Away.own ho9
              have B9 := Lib.hid (below_next (below_drewN wr 1) hb9)
              clear hb9 hi9 ho9
              have hS : w9.cell? ⟨b0, off + i, none⟩ = some (.slice X nx cx) ∧ w9.cell? ⟨b0, off + j, none⟩ = some (.slice Y ny cy) := ⟨keepBox B9.out ci, keepBox B9.out cj⟩
              refine hK _ _ (fun _ => hS) ?_
              clear hK
              (try simp only [Act.put, List.setIfInBounds_toArray, List.set_cons_zero, List.set_cons_succ])
              refine take0 (i := 10) (oi := _) (v := ?_) rfl (by kernel_rfl) (by kernel_rfl) (by kernel_rfl) (fun _ _ _ h => h) rfl (Or.inl ⟨by rfl, ?_⟩) (fun _ => hS) ?_
              rotate_left
              · intro w0; go_simp; with_reducible rfl
              (try simp only [Act.put, List.setIfInBounds_toArray, List.set_cons_zero, List.set_cons_succ])
              refine take0 (i := 11) (oi := _) (v := ?_) rfl (by kernel_rfl) (by kernel_rfl) (by kernel_rfl) (fun _ _ _ h => h) rfl (Or.inl ⟨by rfl, ?_⟩) (fun _ => hS) ?_
              rotate_left
              · intro w0; go_simp; with_reducible rfl
              (try simp only [Act.put, List.setIfInBounds_toArray, List.set_cons_zero, List.set_cons_succ])
              refine take0 (i := 12) (oi := _) (v := ?_) rfl (by kernel_rfl) (by kernel_rfl) (by kernel_rfl) (fun _ _ _ h => h) rfl (Or.inl ⟨by rfl, ?_⟩) (fun _ => hS) ?_
              rotate_left
              · intro w0; go_simp; with_reducible rfl
              (try simp only [Act.put, List.setIfInBounds_toArray, List.set_cons_zero, List.set_cons_succ])
              refine take0 (i := 13) (oi := _) (v := ?_) rfl (by kernel_rfl) (by kernel_rfl) (by kernel_rfl) (fun _ _ _ h => h) rfl (Or.inl ⟨by rfl, ?_⟩) (fun _ => hS) ?_
              rotate_left
              · intro w0; go_simp; with_reducible rfl
              (try simp only [Act.put, List.setIfInBounds_toArray, List.set_cons_zero, List.set_cons_succ])
              refine take0 (i := 14) (oi := _) (v := ?_) rfl (by kernel_rfl) (by kernel_rfl) (by kernel_rfl) (fun _ _ _ h => h) rfl (Or.inl ⟨by rfl, ?_⟩) (fun _ => hS) ?_
              rotate_left
              · intro w0; go_simp; with_reducible rfl
              (try simp only [Act.put, List.setIfInBounds_toArray, List.set_cons_zero, List.set_cons_succ])
              refine doneT (by kernel_rfl) ?_ _
              have BL9 := Lib.hid (below_next hbl.out B9.out)
              have O9 := Lib.hid (hO.out.keep B9.out)
              have hwz9 := BL9.out.size
              clear hO hbl ci cj lbi HXW HYW
              by_cases hcode : code = 0
              · have dc : (code == 0) = true := by simpa using hcode
                rw [if_pos hcode] at hstep
                obtain ⟨vs, hv1, hv2'⟩ := O9.out
                have HV1 := Lib.hid (hv1.keep (below_new w9 (.cells #[.slice L9 n9 c9] 26)))
                have HV2 := Lib.hid (hv2'.keep (below_new w9 (.cells #[.slice L9 n9 c9] 26)))
                have hSS := sl_one w9 26 (.slice L9 n9 c9) rfl
                clear hv1 hv2'
                go_wp2_with (first
                  | (at_builtin
                     refine wpList_append_sl _ rfl (.tmp 61) (.tmp 63) _ rfl w.heap.size 26 i0 _ 24 Try.underlying22 hi0 hz0 hz1 hz2 rfl O mo d2 _ rfl HV1.out (some ⟨w9.heap.size, 0, none⟩) 1 1 _ rfl hSS (by simp [Value.oneCell']) (by simp only [maxLen]; omega) (by omega) (by simp; omega) ?_
                     intro L1 cL1 w6 hL1 hg1 hat1
                     have HP6 := Lib.hid (OwnP.push HV1.out HV2.out (Nat.le_refl _) row_ne (I9.out.keep (below_new _ _)) (AW9.out.keep (below_new _ _)) hL1 hg1)
                     have HB6 := Lib.hid (below_grown (below_alloc BL9.out (.cells #[.slice L9 n9 c9] 26)) HV1.out (Nat.le_refl _) hg1)
                     clear hL1 hg1 hat1))
                go_roundw
                case rel => exact ⟨j + 1, mo + 1, cL1, L1, by omega, by omega, rfl, by go_num, by rw [hstep.out, ← List.append_assoc]; exact HP6, HB6⟩
                case measure => simp [intOf]; omega
              · have dc : (code == 0) = false := by simpa using hcode
                rw [if_neg hcode, List.append_nil] at hstep
                go_wp2_with fail
                go_roundw
                case rel => exact ⟨j + 1, mo, d2, O, by omega, by omega, rfl, by go_num, by rw [hstep.out]; exact O9, BL9⟩
                case measure => simp [intOf]; omega
            · have hfq : l.take j = l := List.take_of_length_le (by rw [hlen.out]; omega)
              rw [hfq] at hO
              clear hfq
              go_wp2_with fail
              go_roundw
              case rel => exact ⟨i + 1, mo, d2, O, by omega, by omega, rfl, by go_num, by rw [hnext.out]; simpa [Hid] using hO.out, hbl⟩
              case measure => simp [intOf]; omega
      · go_wp2_with fail
        go_loopw [5, 7] (fun s5 s wr => ∃ (j mo d2 : Nat) (O : Option Addr), j ≤ n ∧ mo ≤ i * 401 + 1 + j ∧ s5 = .slice O mo d2 ∧ s = .int .i64 j ∧ Hid (OwnP 26 3 wr w.heap.size w.heap.size O mo d2 (base ++ (l.take j).filterMap (fun b => if (resF a b v).2 = 0 then some (resF a b v).1 else none))) ∧ Hid (Below w.heap.size w wr)) (fun _ s _ => n - (intOf s).toNat)
        case atStart => exact ⟨0, mo, d1, O, Nat.zero_le _, by omega, rfl, rfl, by simpa [Hid] using Oa.out, BLa⟩
        case round =>
          clear Oa BLa hmo
          obtain ⟨j, mo, d2, O, hj, hmo2, rfl, rfl, hO, hbl⟩ := hrel
          have hwz := hbl.out.size
          have ci := keepBox hbl.out hcell
          have lbi : b0 < wr.heap.size := (cell_lt ci).1
          by_cases hlt3 : j < n
          · obtain ⟨b1, off1, Y, ny, cy, b, hQe, _, hcy0, hy, hbk⟩ := G.out.round hlt3
            cases hQe
            have cj := keepBox hbl.out hcy0
            have HXW := Lib.hid (HX.out.keep hbl.out)
            have HYW := Lib.hid (hy.keep hbl.out)
            have lb := Lib.hid (HLT.out b (List.mem_of_getElem? hbk.out))
            have hny : ny ≤ 1000 := by have h1 := lb.out.len_le v0; rw [hy.len] at h1; omega
            have HBB : Hid (∀ z ∈ b, -1000000 ≤ z ∧ z ≤ 1000000) := fun z hz => by have := lb.out.1 z hz; omega
            obtain ⟨rl, code, hres⟩ : ∃ p q, Hid (resF a b v = (p, q)) := ⟨_, _, rfl⟩
            have hstep : Hid ((l.take (j + 1)).filterMap (fun b => if (resF a b v).2 = 0 then some (resF a b v).1 else none) = (l.take j).filterMap (fun b => if (resF a b v).2 = 0 then some (resF a b v).1 else none) ++ (if code = 0 then [rl] else [])) := by
              rw [take_snoc_of hbk.out, List.filterMap_append]
              show _ = _
              congr 1
              by_cases hc : code = 0
              · simp [hres.out, hc]
              · simp [hres.out, hc]
            have y3 : (0 : Int) ≤ (j : Int) := by omega
            have y4 : (j : Int) < (n : Int) := by omega
            clear hy hcy0
            go_wp2_with fail
            have hS : wr.drew.cell? ⟨b0, off + i, none⟩ = some (.slice X nx cx) ∧ wr.drew.cell? ⟨b0, off + j, none⟩ = some (.slice Y ny cy) := ⟨keepBox (below_drewN wr 1) ci, keepBox (below_drewN wr 1) cj⟩
            refine wp_region_tail (fun w' => w'.cell? ⟨b0, off + i, none⟩ = some (.slice X nx cx) ∧ w'.cell? ⟨b0, off + j, none⟩ = some (.slice Y ny cy)) [] (by kernel_rfl) ?_
            refine take0 (i := 0) (oi := _) (v := ?_) rfl (by kernel_rfl) (by kernel_rfl) (by kernel_rfl) (fun _ _ _ h => h) rfl (Or.inl ⟨by rfl, ?_⟩) (fun _ => hS) ?_
            rotate_left
            · intro w0; go_simp; with_reducible rfl
            (try simp only [Act.put, List.setIfInBounds_toArray, List.set_cons_zero, List.set_cons_succ])
            refine take0 (i := 1) (oi := _) (v := ?_) rfl (by kernel_rfl) (by kernel_rfl) (by kernel_rfl) (fun _ _ _ h => h) rfl (Or.inl ⟨by rfl, ?_⟩) (fun _ => hS) ?_
            rotate_left
            · intro w0; go_simp; with_reducible rfl
            (try simp only [Act.put, List.setIfInBounds_toArray, List.set_cons_zero, List.set_cons_succ])
            refine take0 (i := 2) (oi := _) (v := ?_) rfl (by kernel_rfl) (by kernel_rfl) (by kernel_rfl) (fun _ _ _ h => h) rfl (Or.inl ⟨by rfl, ?_⟩) (fun _ => hS) ?_
            rotate_left
            · intro w0; go_simp; with_reducible rfl
            (try simp only [Act.put, List.setIfInBounds_toArray, List.set_cons_zero, List.set_cons_succ])
            refine takeS (i := 3) (oi := _) (v := ?_) rfl (by kernel_rfl) (by kernel_rfl) (by kernel_rfl) (fun _ _ _ h => h) rfl (by kernel_rfl) (by kernel_rfl) (Or.inl ⟨by rfl, ?_⟩) hS ?_
            rotate_left
            · intro w0 hSw; (try dsimp only at hSw); go_simp; with_reducible rfl
            (try simp only [Act.put, List.setIfInBounds_toArray, List.set_cons_zero, List.set_cons_succ])
            refine take0 (i := 4) (oi := _) (v := ?_) rfl (by kernel_rfl) (by kernel_rfl) (by kernel_rfl) (fun _ _ _ h => h) rfl (Or.inl ⟨by rfl, ?_⟩) (fun _ => hS) ?_
            rotate_left
            · intro w0; go_simp; with_reducible rfl
            (try simp only [Act.put, List.setIfInBounds_toArray, List.set_cons_zero, List.set_cons_succ])
            refine take0 (i := 5) (oi := _) (v := ?_) rfl (by kernel_rfl) (by kernel_rfl) (by kernel_rfl) (fun _ _ _ h => h) rfl (Or.inl ⟨by rfl, ?_⟩) (fun _ => hS) ?_
            rotate_left
            · intro w0; go_simp; with_reducible rfl
            (try simp only [Act.put, List.setIfInBounds_toArray, List.set_cons_zero, List.set_cons_succ])
            refine take0 (i := 6) (oi := _) (v := ?_) rfl (by kernel_rfl) (by kernel_rfl) (by kernel_rfl) (fun _ _ _ h => h) rfl (Or.inl ⟨by rfl, ?_⟩) (fun _ => hS) ?_
            rotate_left
            · intro w0; go_simp; with_reducible rfl
            (try simp only [Act.put, List.setIfInBounds_toArray, List.set_cons_zero, List.set_cons_succ])
            refine takeS (i := 7) (oi := _) (v := ?_) rfl (by kernel_rfl) (by kernel_rfl) (by kernel_rfl) (fun _ _ _ h => h) rfl (by kernel_rfl) (by kernel_rfl) (Or.inl ⟨by rfl, ?_⟩) hS ?_
            rotate_left
            · intro w0 hSw; (try dsimp only at hSw); go_simp; with_reducible rfl
            (try simp only [Act.put, List.setIfInBounds_toArray, List.set_cons_zero, List.set_cons_succ])
            refine take0 (i := 8) (oi := _) (v := ?_) rfl (by kernel_rfl) (by kernel_rfl) (by kernel_rfl) (fun _ _ _ h => h) rfl (Or.inl ⟨by rfl, ?_⟩) (fun _ => hS) ?_
            rotate_left
            · intro w0; go_simp; with_reducible rfl
            (try simp only [Act.put, List.setIfInBounds_toArray, List.set_cons_zero, List.set_cons_succ])
            refine oneT (i := 9) (by kernel_rfl) rfl (by rfl) (fun K hK => ?_)
            go_simp
            refine (resolved_ref _ _ _ _ _ _ a b v _ (HXW.out.drewN 1) (HYW.out.drewN 1) HAB.out HBB.out (by omega) (by omega) rl code hres).mono ?_
            rintro e w9 ⟨L9, n9, c9, rfl, ⟨hi9, ho9⟩, hb9⟩
            have I9 := Lib.hid hi9
            have AW9 : Hid (Away 3 w9 w.heap.size L9 n9) := Away.own ho9
            have B9 := Lib.hid (below_next (below_drewN wr 1) hb9)
            clear hb9 hi9 ho9
            have hS : w9.cell? ⟨b0, off + i, none⟩ = some (.slice X nx cx) ∧ w9.cell? ⟨b0, off + j, none⟩ = some (.slice Y ny cy) := ⟨keepBox B9.out ci, keepBox B9.out cj⟩
            refine hK _ _ (fun _ => hS) ?_
            clear hK
            (try simp only [Act.put, List.setIfInBounds_toArray, List.set_cons_zero, List.set_cons_succ])
            refine take0 (i := 10) (oi := _) (v := ?_) rfl (by kernel_rfl) (by kernel_rfl) (by kernel_rfl) (fun _ _ _ h => h) rfl (Or.inl ⟨by rfl, ?_⟩) (fun _ => hS) ?_
            rotate_left
            · intro w0; go_simp; with_reducible rfl
            (try simp only [Act.put, List.setIfInBounds_toArray, List.set_cons_zero, List.set_cons_succ])
            refine take0 (i := 11) (oi := _) (v := ?_) rfl (by kernel_rfl) (by kernel_rfl) (by kernel_rfl) (fun _ _ _ h => h) rfl (Or.inl ⟨by rfl, ?_⟩) (fun _ => hS) ?_
            rotate_left
            · intro w0; go_simp; with_reducible rfl
            (try simp only [Act.put, List.setIfInBounds_toArray, List.set_cons_zero, List.set_cons_succ])
            refine take0 (i := 12) (oi := _) (v := ?_) rfl (by kernel_rfl) (by kernel_rfl) (by kernel_rfl) (fun _ _ _ h => h) rfl (Or.inl ⟨by rfl, ?_⟩) (fun _ => hS) ?_
            rotate_left
            · intro w0; go_simp; with_reducible rfl
            (try simp only [Act.put, List.setIfInBounds_toArray, List.set_cons_zero, List.set_cons_succ])
            refine take0 (i := 13) (oi := _) (v := ?_) rfl (by kernel_rfl) (by kernel_rfl) (by kernel_rfl) (fun _ _ _ h => h) rfl (Or.inl ⟨by rfl, ?_⟩) (fun _ => hS) ?_
            rotate_left
            · intro w0; go_simp; with_reducible rfl
            (try simp only [Act.put, List.setIfInBounds_toArray, List.set_cons_zero, List.set_cons_succ])
            refine take0 (i := 14) (oi := _) (v := ?_) rfl (by kernel_rfl) (by kernel_rfl) (by kernel_rfl) (fun _ _ _ h => h) rfl (Or.inl ⟨by rfl, ?_⟩) (fun _ => hS) ?_
            rotate_left
            · intro w0; go_simp; with_reducible rfl
            (try simp only [Act.put, List.setIfInBounds_toArray, List.set_cons_zero, List.set_cons_succ])
            refine doneT (by kernel_rfl) ?_ _
            have BL9 := Lib.hid (below_next hbl.out B9.out)
            have O9 := Lib.hid (hO.out.keep B9.out)
            have hwz9 := BL9.out.size
            clear hO hbl ci cj lbi HXW HYW
            by_cases hcode : code = 0
            · have dc : (code == 0) = true := by simpa using hcode
              rw [if_pos hcode] at hstep
              obtain ⟨vs, hv1, hv2'⟩ := O9.out
              have HV1 := Lib.hid (hv1.keep (below_new w9 (.cells #[.slice L9 n9 c9] 26)))
              have HV2 := Lib.hid (hv2'.keep (below_new w9 (.cells #[.slice L9 n9 c9] 26)))
              have hSS := sl_one w9 26 (.slice L9 n9 c9) rfl
              clear hv1 hv2'
              go_wp2_with (first
                | (at_builtin
                   refine wpList_append_sl _ rfl (.tmp 61) (.tmp 63) _ rfl w.heap.size 26 i0 _ 24 Try.underlying22 hi0 hz0 hz1 hz2 rfl O mo d2 _ rfl HV1.out (some ⟨w9.heap.size, 0, none⟩) 1 1 _ rfl hSS (by simp [Value.oneCell']) (by simp only [maxLen]; omega) (by omega) (by simp; omega) ?_
                   intro L1 cL1 w6 hL1 hg1 hat1
                   have HP6 := Lib.hid (OwnP.push HV1.out HV2.out (Nat.le_refl _) row_ne (I9.out.keep (below_new _ _)) (AW9.out.keep (below_new _ _)) hL1 hg1)
                   have HB6 := Lib.hid (below_grown (below_alloc BL9.out (.cells #[.slice L9 n9 c9] 26)) HV1.out (Nat.le_refl _) hg1)
                   clear hL1 hg1 hat1))
              go_roundw
              case rel => exact ⟨j + 1, mo + 1, cL1, L1, by omega, by omega, rfl, by go_num, by rw [hstep.out, ← List.append_assoc]; exact HP6, HB6⟩
              case measure => simp [intOf]; omega
            · have dc : (code == 0) = false := by simpa using hcode
              rw [if_neg hcode, List.append_nil] at hstep
              go_wp2_with fail
              go_roundw
              case rel => exact ⟨j + 1, mo, d2, O, by omega, by omega, rfl, by go_num, by rw [hstep.out]; exact O9, BL9⟩
              case measure => simp [intOf]; omega
          · have hfq : l.take j = l := List.take_of_length_le (by rw [hlen.out]; omega)
            rw [hfq] at hO
            clear hfq
            go_wp2_with fail
            go_roundw
            case rel => exact ⟨i + 1, mo, d2, O, by omega, by omega, rfl, by go_num, by rw [hnext.out]; simpa [Hid] using hO.out, hbl⟩
            case measure => simp [intOf]; omega
    · have hfp : l.take i = l := List.take_of_length_le (by rw [hlen.out]; omega)
      rw [hfp] at hO
      have hO2 : Hid (OwnP 26 3 wr w.heap.size w.heap.size O mo d1 (outR l v)) := hO
      have HSB : Hid (∀ xs ∈ outR l v, ∀ z ∈ xs, -1000000 ≤ z ∧ z ≤ 1000000) := fun xs hxs z hz => by
        have := (outR_lits HLT.out xs hxs).1 z hz
        omega
      have HWD : Hid (∀ xs ∈ outR l v, xs.length ≤ 1000000) := fun xs hxs => by
        have := (outR_lits HLT.out xs hxs).len_le v0
        omega
      clear hfp hO
      go_wp2_with fail
      refine (normal_ref _ _ _ (outR l v) _ hO2.out.grid HSB.out HWD.out (by omega)).mono ?_
      rintro e w8 ⟨A8, n8, c8, rfl, hO8, hb8⟩
      have O8 := Lib.hid (hO8.mono (base' := w.heap.size) hbl.out.size (Nat.le_refl _))
      have BL8 := Lib.hid (below_next hbl.out hb8)
      clear hO8 hb8
      go_wp2_with fail
      go_ret
      exact ⟨A8, n8, c8, rfl, O8.out, BL8.out⟩
end Go.Proofs.Ytecgmgidfjbamaa
