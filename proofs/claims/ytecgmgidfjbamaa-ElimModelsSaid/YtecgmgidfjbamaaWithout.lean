/- Contract of elim.without. -/
import Derived.Test.YtecgmgidfjbamaaElimSound
import Derived.Test.YtecgmgidfjbamaaResolve
import Derived.Test.YtecgmgidfjbamaaNormal
namespace Go.Proofs.Ytecgmgidfjbamaa
open Go.RowKit
set_option linter.unusedSimpArgs false

/-- Two rows of the call's own lie in unlike blocks. -/
def Dis (A B : Option Addr) : Prop := blockOf A = none ∨ blockOf A ≠ blockOf B
theorem Dis.symm {A B : Option Addr} (h : Dis A B) : Dis B A := ne_symm' h
theorem dis_none (B : Option Addr) : Dis none B := .inl rfl
/-- A row of rows of another block stands while A grows. -/
theorem OwnP.other {e t : TypeId} {w w' : World} {base low n c m d : Nat} {A B : Option Addr} {vs : List Value} {yss : List (List Int)} (h : OwnP e t w base low B m d yss) (hA : Own e w base A n c vs) (hg : w.grownBy w' (blockOf A)) (hd : Dis B A) (hlow : low ≤ base) (hne : t ≠ e) : OwnP e t w' base low B m d yss := by
  obtain ⟨us, h1, h2⟩ := h
  exact ⟨us, h1.kept hg hd, h2.kept hg (own_rows hA hlow) hne⟩
/-- What the append leaves apart stays apart. -/
theorem Dis.grown {e t : TypeId} {w : World} {base low m d : Nat} {A A' B : Option Addr} {yss : List (List Int)} (hd : Dis B A) (h : OwnP e t w base low B m d yss) (hat : blockOf A' = blockOf A ∨ blockOf A' = some w.heap.size) : Dis B A' := by
  rcases hat with e1 | e1
  · unfold Dis; rw [e1]; exact hd
  · obtain ⟨us, h1, _⟩ := h
    have := h1.ltb (k := w.heap.size) (Nat.le_refl _)
    unfold Dis
    rw [e1]
    exact .inr this
/-- The three rows of rows: the rest, those with v, those with -v. -/
structure Three (w0 wr : World) (O P Q : Option Addr) (no co np cp nq cq : Nat) (os ps qs : List (List Int)) : Prop where
  o : OwnP 26 3 wr w0.heap.size w0.heap.size O no co os
  p : OwnP 26 3 wr w0.heap.size w0.heap.size P np cp ps
  q : OwnP 26 3 wr w0.heap.size w0.heap.size Q nq cq qs
  op : Dis O P
  oq : Dis O Q
  pq : Dis P Q
  bl : Below w0.heap.size w0 wr
section
variable {w0 wr w' : World} {O P Q : Option Addr} {no co np cp nq cq : Nat} {os ps qs : List (List Int)}
theorem Three.keep (h : Three w0 wr O P Q no co np cp nq cq os ps qs) (hb : Below wr.heap.size wr w') : Three w0 w' O P Q no co np cp nq cq os ps qs :=
  ⟨h.o.keep hb, h.p.keep hb, h.q.keep hb, h.op, h.oq, h.pq, below_next h.bl hb⟩
theorem Three.rot (h : Three w0 wr O P Q no co np cp nq cq os ps qs) : Three w0 wr P Q O np cp nq cq no co ps qs os := ⟨h.p, h.q, h.o, h.pq, h.op.symm, h.oq.symm, h.bl⟩
theorem Three.push {X O' : Option Addr} {nx cx co' : Nat} {x : List Int} {vs : List Value} (h : Three w0 wr O P Q no co np cp nq cq os ps qs) (h1 : Own 26 wr w0.heap.size O no co vs) (h2 : RowsP 3 wr w0.heap.size vs os) (hx : Ints wr X nx cx x) (ha : Away 3 wr w0.heap.size X nx)
    (ho : Own 26 w' w0.heap.size O' (no + 1) co' (vs ++ [Value.slice X nx cx])) (hg : wr.grownBy w' (blockOf O)) (hat : blockOf O' = blockOf O ∨ blockOf O' = some wr.heap.size) : Three w0 w' O' P Q (no + 1) co' np cp nq cq (os ++ [x]) ps qs :=
  ⟨OwnP.push h1 h2 (Nat.le_refl _) row_ne hx ha ho hg, h.p.other h1 hg h.op.symm (Nat.le_refl _) row_ne, h.q.other h1 hg h.oq.symm (Nat.le_refl _) row_ne,
    (h.op.symm.grown h.p hat).symm, (h.oq.symm.grown h.q hat).symm, h.pq, below_grown h.bl h1 (Nat.le_refl _) hg⟩
end

set_option maxHeartbeats 8000000 in
set_option maxRecDepth 100000 in
theorem without_own (A : Option Addr) (n c : Nat) (l : List (List Int)) (v vars : Int) (w : World) (h : Grid w A n c l) (hl : ∀ x ∈ l, Lits vars x) (v0 : 0 ≤ vars) (v1 : vars ≤ 120) (hn : n ≤ 400) (hv : 1 ≤ v) (hv2 : v ≤ 120) :
    Calls Try.prog 95 #[.slice A n c, .int .i64 v] w (RetNorm (outP l v) w) := by
  have hbd := h.bd
  have hlen := Lib.hid h.len
  obtain ⟨i0, hi0, hz0, hz1, hz2⟩ := info_parts row_info
  have G := Lib.hid h
  have HLT := Lib.hid hl
  clear h hl
  go_enter Try.func95, Try.ntmps95
  go_wp2_with fail
  go_loopw [5, 6, 7, 18] (fun s5 s6 s7 s wr => ∃ (k no co np cp nq cq : Nat) (O P Q : Option Addr), k ≤ n ∧ no ≤ k ∧ np ≤ k ∧ nq ≤ k ∧ s5 = .slice O no co ∧ s6 = .slice P np cp ∧ s7 = .slice Q nq cq ∧ s = .int .i64 k ∧ Hid (Three w wr O P Q no co np cp nq cq (freeF (l.take k) v) ((l.take k).filter (fun x => hasB x v)) ((l.take k).filter (fun x => !hasB x v && hasB x (-v))))) (fun _ _ _ s _ => n - (intOf s).toNat)
  case atStart => exact ⟨0, 0, 0, 0, 0, 0, 0, none, none, none, Nat.zero_le _, Nat.le_refl _, Nat.le_refl _, Nat.le_refl _, rfl, rfl, rfl, rfl, ⟨by simpa [freeF] using OwnP.nil _ _ _ _ _, by simpa using OwnP.nil _ _ _ _ _, by simpa using OwnP.nil _ _ _ _ _, dis_none _, dis_none _, dis_none _, Below.refl _ _⟩⟩
  case round =>
    obtain ⟨k, no, co, np, cp, nq, cq, O, P, Q, hk, hno, hnp, hnq, rfl, rfl, rfl, rfl, hst⟩ := hrel
    have hwz := hst.out.bl.size
    by_cases hlt : k < n
    · obtain ⟨b, off, X, nx, cx, x, hLe, hb, hcell, hx, hxk⟩ := (G.out.keep hst.out.bl).round hlt
      subst hLe
      have HX := Lib.hid hx
      have AX : Hid (Away 3 wr w.heap.size X nx) := by
        obtain ⟨b1, off1, X1, nx1, cx1, x1, he1, _, hc1, hi1, _⟩ := G.out.round hlt
        cases he1
        have h1 := keepBox hst.out.bl hc1
        rw [hcell] at h1
        cases h1
        exact (Away.old hi1 (Nat.le_refl _)).keep hst.out.bl
      obtain ⟨q1, hq1⟩ : ∃ q, Hid (hasB x v = q) := ⟨_, rfl⟩
      obtain ⟨q2, hq2⟩ : ∃ q, Hid (hasB x (-v) = q) := ⟨_, rfl⟩
      have y1 : (0 : Int) ≤ (k : Int) := by omega
      have y2 : (k : Int) < (n : Int) := by omega
      have e1 : Hid (freeF (l.take (k + 1)) v = freeF (l.take k) v ++ (if !q1 && !q2 then [x] else [])) := by
        unfold freeF
        rw [take_snoc_of hxk.out, List.filter_append]
        show _ = _
        congr 1
        simp only [List.filter_cons, List.filter_nil, hq1.out, hq2.out]
      have e2 : Hid ((l.take (k + 1)).filter (fun x => hasB x v) = (l.take k).filter (fun x => hasB x v) ++ (if q1 then [x] else [])) := by
        rw [take_snoc_of hxk.out, List.filter_append]
        show _ = _
        congr 1
        simp only [List.filter_cons, List.filter_nil, hq1.out]
      have e3 : Hid ((l.take (k + 1)).filter (fun x => !hasB x v && hasB x (-v)) = (l.take k).filter (fun x => !hasB x v && hasB x (-v)) ++ (if !q1 && q2 then [x] else [])) := by
        rw [take_snoc_of hxk.out, List.filter_append]
        show _ = _
        congr 1
        simp only [List.filter_cons, List.filter_nil, hq1.out, hq2.out]
      clear hx
      go_wp2_with fail
      refine (contains_ints _ _ _ x v _ HX.out q1 hq1).mono ?_
      rintro e wa ⟨rfl, ma, hwa⟩
      have hba : Below wr.heap.size wr wa := by rw [hwa]; exact below_drewN _ _
      have HXa := Lib.hid (HX.out.keep hba)
      have AXa := Lib.hid (AX.out.keep hba)
      have STa := Lib.hid (hst.out.keep hba)
      clear hwa hba hcell hst HX AX hb hwz
      cases q1
      · go_wp2_with fail
        refine (contains_ints _ _ _ x (-v) _ HXa.out q2 hq2).mono ?_
        rintro e w3 ⟨rfl, m3, hw3⟩
        have hb3 : Below wa.heap.size wa w3 := by rw [hw3]; exact below_drewN _ _
        have IX3 := Lib.hid (HXa.out.keep hb3)
        have AX3 := Lib.hid (AXa.out.keep hb3)
        have ST3 := Lib.hid (STa.out.keep hb3)
        have hS := sl_one w3 26 (.slice X nx cx) rfl
        have hwz3 := ST3.out.bl.size
        clear hw3 hb3 STa
        cases q2
        · obtain ⟨vs, hv1, hv2⟩ := ST3.out.o
          have HV1 := Lib.hid (hv1.keep (below_new w3 (.cells #[.slice X nx cx] 26)))
          have HV2 := Lib.hid (hv2.keep (below_new w3 (.cells #[.slice X nx cx] 26)))
          clear hv1 hv2
          go_wp2_with (first
              | (at_builtin
                 refine wpList_append_sl _ rfl (.tmp 22) (.tmp 24) _ rfl w.heap.size 26 i0 _ 24 Try.underlying22 hi0 hz0 hz1 hz2 rfl O no co _ rfl HV1.out (some ⟨w3.heap.size, 0, none⟩) 1 1 _ rfl hS (by simp [Value.oneCell']) (by simp only [maxLen]; omega) (by omega) (by simp; omega) ?_
                 intro L1 cL1 w6 hL1 hg1 hat1
                 have HT6 := Lib.hid ((ST3.out.keep (below_new _ _)).push HV1.out HV2.out (IX3.out.keep (below_new _ _)) (AX3.out.keep (below_new _ _)) hL1 hg1 hat1)
                 clear hL1 hg1 hat1))
          go_roundw
          case rel => exact ⟨k + 1, no + 1, cL1, np, cp, nq, cq, L1, P, Q, by omega, by omega, by omega, by omega, rfl, rfl, rfl, by go_num, by rw [e1.out, e2.out, e3.out]; simpa [Hid] using HT6.out⟩
          case measure => simp [intOf]; omega
        · obtain ⟨vs, hv1, hv2⟩ := ST3.out.q
          have HV1 := Lib.hid (hv1.keep (below_new w3 (.cells #[.slice X nx cx] 26)))
          have HV2 := Lib.hid (hv2.keep (below_new w3 (.cells #[.slice X nx cx] 26)))
          clear hv1 hv2
          go_wp2_with (first
              | (at_builtin
                 refine wpList_append_sl _ rfl (.tmp 39) (.tmp 41) _ rfl w.heap.size 26 i0 _ 24 Try.underlying22 hi0 hz0 hz1 hz2 rfl Q nq cq _ rfl HV1.out (some ⟨w3.heap.size, 0, none⟩) 1 1 _ rfl hS (by simp [Value.oneCell']) (by simp only [maxLen]; omega) (by omega) (by simp; omega) ?_
                 intro L1 cL1 w6 hL1 hg1 hat1
                 have HT6 := Lib.hid (((ST3.out.keep (below_new _ _)).rot.rot).push HV1.out HV2.out (IX3.out.keep (below_new _ _)) (AX3.out.keep (below_new _ _)) hL1 hg1 hat1)
                 clear hL1 hg1 hat1))
          go_roundw
          case rel => exact ⟨k + 1, no, co, np, cp, nq + 1, cL1, O, P, L1, by omega, by omega, by omega, by omega, rfl, rfl, rfl, by go_num, by rw [e1.out, e2.out, e3.out]; simpa [Hid] using HT6.out.rot⟩
          case measure => simp [intOf]; omega
      · obtain ⟨w3, hw3⟩ : ∃ w3 : World, w3 = wa := ⟨_, rfl⟩
        subst hw3
        have IX3 := HXa
        have AX3 := AXa
        have ST3 := STa
        have hS := sl_one w3 26 (.slice X nx cx) rfl
        have hwz3 := ST3.out.bl.size
        obtain ⟨vs, hv1, hv2⟩ := ST3.out.p
        have HV1 := Lib.hid (hv1.keep (below_new w3 (.cells #[.slice X nx cx] 26)))
        have HV2 := Lib.hid (hv2.keep (below_new w3 (.cells #[.slice X nx cx] 26)))
        clear hv1 hv2 STa
        go_wp2_with (first
              | (at_builtin
                 refine wpList_append_sl _ rfl (.tmp 30) (.tmp 32) _ rfl w.heap.size 26 i0 _ 24 Try.underlying22 hi0 hz0 hz1 hz2 rfl P np cp _ rfl HV1.out (some ⟨w3.heap.size, 0, none⟩) 1 1 _ rfl hS (by simp [Value.oneCell']) (by simp only [maxLen]; omega) (by omega) (by simp; omega) ?_
                 intro L1 cL1 w6 hL1 hg1 hat1
                 have HT6 := Lib.hid (((ST3.out.keep (below_new _ _)).rot).push HV1.out HV2.out (IX3.out.keep (below_new _ _)) (AX3.out.keep (below_new _ _)) hL1 hg1 hat1)
                 clear hL1 hg1 hat1))
        go_roundw
        case rel => exact ⟨k + 1, no, co, np + 1, cL1, nq, cq, O, L1, Q, by omega, by omega, by omega, by omega, rfl, rfl, rfl, by go_num, by rw [e1.out, e2.out, e3.out]; simpa [Hid] using HT6.out.rot.rot⟩
        case measure => simp [intOf]; omega
    · have hft : l.take k = l := List.take_of_length_le (by rw [hlen.out]; omega)
      rw [hft] at hst
      obtain ⟨ps, hps⟩ : ∃ ps, Hid (l.filter (fun x => hasB x v) = ps) := ⟨_, rfl⟩
      obtain ⟨qs, hqs⟩ : ∃ qs, Hid (l.filter (fun x => !hasB x v && hasB x (-v)) = qs) := ⟨_, rfl⟩
      rw [hps.out, hqs.out] at hst
      have HPL : Hid (∀ x ∈ ps, Lits vars x) := fun x hx => by rw [← hps.out] at hx; exact HLT.out x (List.mem_filter.1 hx).1
      have HQL : Hid (∀ x ∈ qs, Lits vars x) := fun x hx => by rw [← hqs.out] at hx; exact HLT.out x (List.mem_filter.1 hx).1
      have HOUT : Hid (freeF l v ++ ps.flatMap (fun a => resWith v a qs) = outP l v) := by rw [← hps.out, ← hqs.out]; rfl
      have hlp := Lib.hid hst.out.p.len
      have hlq := Lib.hid hst.out.q.len
      obtain ⟨_, hpc, hpc2⟩ := hst.out.p.len'
      obtain ⟨_, hqc, hqc2⟩ := hst.out.q.len'
      clear hft
      go_wp2_with fail
      go_loopw [5, 46] (fun s5 s wr => ∃ (i mo do' : Nat) (O : Option Addr), i ≤ np ∧ mo ≤ 400 + i * 400 ∧ s5 = .slice O mo do' ∧ s = .int .i64 i ∧ Hid (Three w wr O P Q mo do' np cp nq cq (freeF l v ++ (ps.take i).flatMap (fun a => resWith v a qs)) ps qs)) (fun _ s _ => np - (intOf s).toNat)
      case atStart => exact ⟨0, no, co, O, Nat.zero_le _, by omega, rfl, rfl, by simpa [Hid] using hst.out⟩
      case round =>
        clear hst
        obtain ⟨i, mo, d1, O, hi, hmo, rfl, rfl, hst⟩ := hrel
        by_cases hlt2 : i < np
        · obtain ⟨gp, X, nx, cx, a, hLe, _, hgpl, hcx, _, hx, hax, hak⟩ := hst.out.p.round hlt2
          subst hLe
          have HX := Lib.hid hx
          have AX := Lib.hid hax
          have la := Lib.hid (HPL.out a (List.mem_of_getElem? hak.out))
          have hnx : nx ≤ 1000 := by have h1 := la.out.len_le v0; rw [hx.len] at h1; omega
          have HAB : Hid (∀ z ∈ a, -1000000 ≤ z ∧ z ≤ 1000000) := fun z hz => by have := la.out.1 z hz; omega
          have y1 : (0 : Int) ≤ (i : Int) := by omega
          have y2 : (i : Int) < (np : Int) := by omega
          obtain ⟨base, hbase⟩ : ∃ base, Hid (freeF l v ++ (ps.take i).flatMap (fun a => resWith v a qs) = base) := ⟨_, rfl⟩
          have hnext : Hid (freeF l v ++ (ps.take (i + 1)).flatMap (fun a => resWith v a qs) = base ++ resWith v a qs) := by rw [take_snoc_of hak.out, List.flatMap_append, ← List.append_assoc, hbase.out]; simp [Hid]
          rw [hbase.out] at hst
          obtain ⟨wo, hwo⟩ : ∃ wo : World, wo = wr := ⟨_, rfl⟩
          subst hwo
          clear hx hax
          go_wp2_with fail
          go_loopw [5, 52] (fun s5 s wr => ∃ (j mo d2 : Nat) (O : Option Addr), j ≤ nq ∧ mo ≤ 400 + i * 400 + j ∧ s5 = .slice O mo d2 ∧ s = .int .i64 j ∧ Hid (Three w wr O (some ⟨gp, 0, none⟩) Q mo d2 np cp nq cq (base ++ resWith v a (qs.take j)) ps qs) ∧ Hid (Ints wr X nx cx a) ∧ Hid (Away 3 wr w.heap.size X nx)) (fun _ s _ => nq - (intOf s).toNat)
          case atStart => exact ⟨0, mo, d1, O, Nat.zero_le _, by omega, rfl, rfl, by simpa [Hid, resWith] using hst.out, HX, AX⟩
          case round =>
            clear hst HX hcx hgpl AX
            obtain ⟨j, mo, d2, O, hj, hmo2, rfl, rfl, hst, HX, AX⟩ := hrel
            by_cases hlt3 : j < nq
            · obtain ⟨gq, Y, ny, cy, b, hQe, _, hgql, hcy, _, hy, _, hbk⟩ := hst.out.q.round hlt3
              subst hQe
              have HY := Lib.hid hy
              have lb := Lib.hid (HQL.out b (List.mem_of_getElem? hbk.out))
              have hny : ny ≤ 1000 := by have h1 := lb.out.len_le v0; rw [hy.len] at h1; omega
              have HBB : Hid (∀ z ∈ b, -1000000 ≤ z ∧ z ≤ 1000000) := fun z hz => by have := lb.out.1 z hz; omega
              have hrs : Hid (rsP v (a ++ b) [] = rsF v (a ++ b) []) := rsP_eq v _ _ (fun z hz => by
                rcases List.mem_append.1 hz with hz | hz
                · exact (la.out.1 z hz).1
                · exact (lb.out.1 z hz).1) (by simp)
              have hstep : Hid (base ++ resWith v a (qs.take (j + 1)) = base ++ resWith v a (qs.take j) ++ ((rsF v (a ++ b) []).map sortF).toList) := by
                unfold resWith
                have h1 : List.filterMap (fun b => (rsF v (a ++ b) []).map sortF) [b] = ((rsF v (a ++ b) []).map sortF).toList := by
                  cases h : rsF v (a ++ b) [] <;> simp [h]
                rw [take_snoc_of hbk.out, List.filterMap_append, ← List.append_assoc, h1]
                rfl
              have y3 : (0 : Int) ≤ (j : Int) := by omega
              have y4 : (j : Int) < (nq : Int) := by omega
              clear hy
              go_wp2_with fail
              refine (resolve_any _ _ _ _ _ _ a b v _ HX.out HY.out HAB.out HBB.out (by omega) _ hrs).mono ?_
              rintro e w3 ⟨L3, n3, c3, rfl, hown3, hb3⟩
              have ST3 := Lib.hid (hst.out.keep hb3)
              have HX3 := Lib.hid (HX.out.keep hb3)
              have AXX3 := Lib.hid (AX.out.keep hb3)
              have hwz3 := ST3.out.bl.size
              clear hst HX HY hcy hgql hb3 AX
              cases hR : rsF v (a ++ b) [] with
              | none =>
                rw [hR] at hstep
                (try rw [hR])
                clear hown3
                go_wp2_with fail
                go_roundw
                case rel => exact ⟨j + 1, mo, d2, O, by omega, by omega, rfl, by go_num, by rw [hstep.out]; simpa [Hid] using ST3.out, HX3, AXX3⟩
                case measure => simp [intOf]; omega
              | some zz =>
                rw [hR] at hstep hown3
                (try rw [hR])
                have O3 := Lib.hid hown3
                have hzl : Hid (∀ z ∈ sortF zz, I64 z) := fun z hz => by
                  rcases (rsF_mem v _ _ _ hR z).1 (sortF_mem.1 hz) with h1 | ⟨h1, _⟩
                  · simp at h1
                  · rcases List.mem_append.1 h1 with h1 | h1
                    · have := HAB.out z h1; unfold I64; omega
                    · have := HBB.out z h1; unfold I64; omega
                have IX3 : Hid (Ints w3 L3 n3 c3 (sortF zz)) := O3.out.ints hzl.out
                have AX3 : Hid (Away 3 w3 w.heap.size L3 n3) := Away.own O3.out
                have hS := sl_one w3 26 (.slice L3 n3 c3) rfl
                obtain ⟨vs, hv1, hv2⟩ := ST3.out.o
                have HV1 := Lib.hid (hv1.keep (below_new w3 (.cells #[.slice L3 n3 c3] 26)))
                have HV2 := Lib.hid (hv2.keep (below_new w3 (.cells #[.slice L3 n3 c3] 26)))
                have NW : Hid (0 < nx → blockOf X = none ∨ blockOf X ≠ blockOf O) := fun hp => by
                  cases hbo : blockOf O with
                  | none => cases blockOf X <;> simp
                  | some g1 => exact (AXX3.out hp).ne (own_rows hv1 (Nat.le_refl _) g1 hbo).1 (own_rows hv1 (Nat.le_refl _) g1 hbo).2 row_ne
                clear hv1 hv2 hown3
                go_wp2_with (first
                  | (at_builtin
                     refine wpList_append_sl _ rfl (.tmp 64) (.tmp 66) _ rfl w.heap.size 26 i0 _ 24 Try.underlying22 hi0 hz0 hz1 hz2 rfl O mo d2 _ rfl HV1.out (some ⟨w3.heap.size, 0, none⟩) 1 1 _ rfl hS (by simp [Value.oneCell']) (by simp only [maxLen]; omega) (by omega) (by simp; omega) ?_
                     intro L1 cL1 w6 hL1 hg1 hat1
                     have HT6 := Lib.hid ((ST3.out.keep (below_new _ _)).push HV1.out HV2.out (IX3.out.keep (below_new _ _)) (AX3.out.keep (below_new _ _)) hL1 hg1 hat1)
                     have HX6 : Hid (Ints w6 X nx cx a) := (HX3.out.keep (below_new _ _)).kept0 hg1 NW.out
                     have AX6 : Hid (Away 3 w6 w.heap.size X nx) := fun hp => ((AXX3.out.keep (below_new _ _)) hp).kept hg1 (NW.out hp)
                     clear hL1 hg1 hat1))
                go_roundw
                case rel => exact ⟨j + 1, mo + 1, cL1, L1, by omega, by omega, rfl, by go_num, by rw [hstep.out]; simpa [Hid] using HT6.out, HX6, AX6⟩
                case measure => simp [intOf]; omega
            · have hfq : qs.take j = qs := List.take_of_length_le (by rw [hlq.out]; omega)
              rw [hfq] at hst
              clear hfq
              go_wp2_with fail
              go_roundw
              case rel => exact ⟨i + 1, mo, d2, O, by omega, by omega, rfl, by go_num, by rw [hnext.out]; exact hst⟩
              case measure => simp [intOf]; omega
        · have hfp : ps.take i = ps := List.take_of_length_le (by rw [hlp.out]; omega)
          rw [hfp, HOUT.out] at hst
          have HSB : Hid (∀ xs ∈ outP l v, ∀ z ∈ xs, -1000000 ≤ z ∧ z ≤ 1000000) := fun xs hxs z hz => by
            have := (outR_lits HLT.out xs ((mem_outP HLT.out (by omega)).1 hxs)).1 z hz
            omega
          have HWD : Hid (∀ xs ∈ outP l v, xs.length ≤ 1000000) := fun xs hxs => by
            have := (outR_lits HLT.out xs ((mem_outP HLT.out (by omega)).1 hxs)).len_le v0
            omega
          clear hfp
          go_wp2_with fail
          refine (normal_any _ _ _ (outP l v) _ hst.out.o.grid HSB.out HWD.out (by omega)).mono ?_
          rintro e w8 ⟨A8, n8, c8, rfl, hO8, hb8⟩
          have O8 := Lib.hid (hO8.mono (base' := w.heap.size) hst.out.bl.size (Nat.le_refl _))
          have BL8 := Lib.hid (below_next hst.out.bl hb8)
          clear hO8 hb8
          go_wp2_with fail
          go_ret
          exact ⟨A8, n8, c8, rfl, O8.out, BL8.out⟩
end Go.Proofs.Ytecgmgidfjbamaa
