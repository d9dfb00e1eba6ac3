/- Contract of act.Check at the quests of the law. -/
import Derived.Test.YtlfgcblijfflfaaActFn
import Derived.Test.YtlfgcblijfflfaaBoxes
namespace Go.Proofs.Ytlfgcblijfflfaa
open Go.RowKit
set_option linter.unusedSimpArgs false
set_option linter.unusedVariables false

/-- A quest's slices. -/
structure Qv where
  F : Option Addr
  nF : Nat
  cF : Nat
  G : Option Addr
  nG : Nat
  cG : Nat
  A : Option Addr
  n : Nat
  c : Nat
structure QstR (w : World) (q : Qv) (f0 g : Nat) (al : List Ac) : Prop where
  iF : Ints w q.F q.nF q.cF (someF f0)
  iG : Ints w q.G q.nG q.cG (someF g)
  acts : ActsR w q.A q.n al
  n3 : q.n ≤ 3
  f16 : f0 < 16
  g16 : g < 16
  ok : ∀ a ∈ al, AcOk a
theorem QstR.keep {w w' : World} {q : Qv} {f0 g : Nat} {al : List Ac} (h : QstR w q f0 g al) (hb : Below w.heap.size w w') : QstR w' q f0 g al :=
  ⟨h.iF.keep hb, h.iG.keep hb, h.acts.keep hb, h.n3, h.f16, h.g16, h.ok⟩
theorem acAt_get {al : List Ac} {k : Nat} {a : Ac} (h : al[k]? = some a) : acAt al k = a := by unfold acAt; rw [List.getD_eq_getElem?_getD, h]; rfl

set_option maxHeartbeats 4000000 in
set_option maxRecDepth 100000 in
theorem chk_quest (q : Qv) (f0 g : Nat) (al : List Ac) (w : World) (h : QstR w q f0 g al) :
    Calls Try.prog 16 #[.agg #[.int .i64 4, .slice q.F q.nF q.cF, .slice q.G q.nG q.cG, .slice q.A q.n q.c]] w (RetV (.agg #[.int .i64 0, .int .i64 0]) w) := by
  have H := Lib.hid h
  have hn3 := h.n3
  obtain ⟨w0, hw0⟩ : ∃ z : World, Hid (z = (w.alloc (.cells #[.int .i64 4, .slice q.F q.nF q.cF, .slice q.G q.nG q.cG, .slice q.A q.n q.c] 25)).alloc (.cells #[.int .i64 0, .int .i64 0] 28)) := ⟨_, rfl⟩
  have hb0 : Below w.heap.size w w0 := by rw [hw0.out]; exact below_alloc (below_new _ _) _
  have HK0 : Hid (Blk w0 w.heap.size 25 #[.int .i64 4, .slice q.F q.nF q.cF, .slice q.G q.nG q.cG, .slice q.A q.n q.c]) := by rw [Hid, hw0.out]; exact (Blk.new _ _ _).alloc _
  have HF0 : Hid (Blk w0 (w.heap.size + 1) 28 #[.int .i64 0, .int .i64 0]) := by rw [hw0.out]; have := Blk.new (w.alloc (.cells #[.int .i64 4, .slice q.F q.nF q.cF, .slice q.G q.nG q.cG, .slice q.A q.n q.c] 25)) 28 #[.int .i64 0, .int .i64 0]; simpa [Hid] using this
  have HB0 := Lib.hid hb0
  have H0 := Lib.hid (h.keep hb0)
  have k0 := HK0.out.cell 0
  have k1 := HK0.out.cell 1
  have k2 := HK0.out.cell 2
  have k3 := HK0.out.cell 3
  have k4 := HK0.out.lt
  simp at k0 k1 k2 k3
  have v3 : ¬ (12 : Int) < (q.n : Int) := by omega
  have v33 : decide ((12 : Int) < (q.n : Int)) = false := decide_eq_false v3
  clear h hb0
  go_enter Try.func16, Try.ntmps16
  go_wp2_with fail
  rw [← hw0.out]
  refine (facts_any _ _ _ f0 w0 H0.out.iF).mono ?_
  rintro e w1 ⟨rfl, m1, hm1⟩
  have hb1 : Below w0.heap.size w0 w1 := by rw [hm1]; exact below_drewN _ _
  have HK1 := Lib.hid (HK0.out.keep hb1)
  have HF1 := Lib.hid (HF0.out.keep hb1)
  have HB1 := Lib.hid (below_next HB0.out hb1)
  have H1 := Lib.hid (H0.out.keep hb1)
  clear hm1 hb1 HK0 HF0 HB0 H0 k0 k1 k2 k3 k4
  have k0 := HK1.out.cell 0
  have k1 := HK1.out.cell 1
  have k2 := HK1.out.cell 2
  have k3 := HK1.out.cell 3
  have k4 := HK1.out.lt
  simp at k0 k1 k2 k3
  go_wp2_with fail
  refine (facts_any _ _ _ g w1 H1.out.iG).mono ?_
  rintro e w2 ⟨rfl, m2, hm2⟩
  have hb2 : Below w1.heap.size w1 w2 := by rw [hm2]; exact below_drewN _ _
  have HK2 := Lib.hid (HK1.out.keep hb2)
  have HF2 := Lib.hid (HF1.out.keep hb2)
  have HB2 := Lib.hid (below_next HB1.out hb2)
  clear hm2 hb2 HK1 HF1 HB1 H1 k0 k1 k2 k3 k4
  have k0 := HK2.out.cell 0
  have k3 := HK2.out.cell 3
  have k4 := HK2.out.lt
  simp at k0 k3
  go_wp2_with fail
  go_loopw [40] (fun s wr => ∃ k : Nat, k ≤ q.n ∧ s = .int .i64 k ∧ Hid (Below w.heap.size w wr) ∧ Hid (Blk wr w.heap.size 25 #[.int .i64 4, .slice q.F q.nF q.cF, .slice q.G q.nG q.cG, .slice q.A q.n q.c]) ∧ Hid (Blk wr (w.heap.size + 1) 28 #[.int .i64 0, .int .i64 0])) (fun s _ => q.n - (intOf s).toNat)
  case atStart => exact ⟨0, Nat.zero_le _, rfl, HB2, HK2, HF2⟩
  case round =>
    clear HB2 HK2 HF2 k0 k3 k4
    obtain ⟨k, hk, rfl, HB, HK, HF⟩ := hrel
    by_cases hlt : k < q.n
    · have HR := Lib.hid (H.out.keep HB.out)
      have hal : k < al.length := by rw [HR.out.acts.1]; exact hlt
      have hka : al[k]? = some al[k] := List.getElem?_eq_getElem hal
      obtain ⟨a, ha⟩ : ∃ a, al[k] = a := ⟨_, rfl⟩
      rw [ha] at hka
      obtain ⟨b, v, hAe, hat⟩ := HR.out.acts.2 k a hka
      have HOK := Lib.hid (H.out.ok a (List.mem_of_getElem? hka))
      have HAT := Lib.hid hat
      have c0 := hat.k0
      have c1 := hat.k1
      have c2 := hat.k2
      have c3 := hat.k3
      have c4 := (cell_lt c0).1
      have q0 : (0 : Int) ≤ (k : Int) := by omega
      have q1 : (k : Int) < (q.n : Int) := by omega
      rw [hAe] at HK ⊢
      have k0 := HK.out.cell 0
      have k4 := HK.out.lt
      simp at k0
      clear hat ha hka HR
      go_wp2_with fail
      obtain ⟨w3, hw3⟩ : ∃ z : World, z = wr.alloc (.cells #[.slice v.A1 v.n1 v.c1, .slice v.A2 v.n2 v.c2, .slice v.A3 v.n3 v.c3, .slice v.A4 v.n4 v.c4] 58) := ⟨_, rfl⟩
      have hb3 : Below wr.heap.size wr w3 := by rw [hw3]; exact below_new _ _
      have KA_0 : Hid (Blk w3 wr.heap.size 58 #[.slice v.A1 v.n1 v.c1, .slice v.A2 v.n2 v.c2, .slice v.A3 v.n3 v.c3, .slice v.A4 v.n4 v.c4]) := by rw [hw3]; exact Blk.new _ _ _
      rw [← hw3]
      clear hw3 c0 c1 c2 c3 c4 k0 k4
      have HK_0 := Lib.hid (HK.out.keep hb3)
      have HF_0 := Lib.hid (HF.out.keep hb3)
      have HAT_0 := Lib.hid (HAT.out.keep hb3)
      have HB_0 := Lib.hid (below_next HB.out hb3)
      clear hb3 HK HF HAT HB 
      have hk_c0 := HK_0.out.cell 0
      have hk_l := HK_0.out.lt
      simp at hk_c0
      have ka_c0 := KA_0.out.cell 0
      have ka_l := KA_0.out.lt
      simp at ka_c0
      skip
      refine (facts_any v.A1 v.n1 v.c1 a.need w3 HAT_0.out.i0).mono ?_
      rintro e wq1 ⟨rfl, mq, hmq⟩
      have hbq : Below w3.heap.size w3 wq1 := by rw [hmq]; exact below_drewN _ _
      clear hmq
      have HK_1 := Lib.hid (HK_0.out.keep hbq)
      have HF_1 := Lib.hid (HF_0.out.keep hbq)
      have HAT_1 := Lib.hid (HAT_0.out.keep hbq)
      have KA_1 := Lib.hid (KA_0.out.keep hbq)
      have HB_1 := Lib.hid (below_next HB_0.out hbq)
      clear hbq HK_0 HF_0 HAT_0 KA_0 HB_0 hk_c0 hk_l ka_c0 ka_l
      have hk_c0 := HK_1.out.cell 0
      have hk_l := HK_1.out.lt
      simp at hk_c0
      have ka_c1 := KA_1.out.cell 1
      have ka_l := KA_1.out.lt
      simp at ka_c1
      go_wp2_with fail
      refine (facts_any v.A2 v.n2 v.c2 a.bar wq1 HAT_1.out.i1).mono ?_
      rintro e wq2 ⟨rfl, mq, hmq⟩
      have hbq : Below wq1.heap.size wq1 wq2 := by rw [hmq]; exact below_drewN _ _
      clear hmq
      have HK_2 := Lib.hid (HK_1.out.keep hbq)
      have HF_2 := Lib.hid (HF_1.out.keep hbq)
      have HAT_2 := Lib.hid (HAT_1.out.keep hbq)
      have KA_2 := Lib.hid (KA_1.out.keep hbq)
      have HB_2 := Lib.hid (below_next HB_1.out hbq)
      clear hbq HK_1 HF_1 HAT_1 KA_1 HB_1 hk_c0 hk_l ka_c1 ka_l
      have hk_c0 := HK_2.out.cell 0
      have hk_l := HK_2.out.lt
      simp at hk_c0
      have ka_c2 := KA_2.out.cell 2
      have ka_l := KA_2.out.lt
      simp at ka_c2
      go_wp2_with fail
      refine (facts_any v.A3 v.n3 v.c3 a.add wq2 HAT_2.out.i2).mono ?_
      rintro e wq3 ⟨rfl, mq, hmq⟩
      have hbq : Below wq2.heap.size wq2 wq3 := by rw [hmq]; exact below_drewN _ _
      clear hmq
      have HK_3 := Lib.hid (HK_2.out.keep hbq)
      have HF_3 := Lib.hid (HF_2.out.keep hbq)
      have HAT_3 := Lib.hid (HAT_2.out.keep hbq)
      have KA_3 := Lib.hid (KA_2.out.keep hbq)
      have HB_3 := Lib.hid (below_next HB_2.out hbq)
      clear hbq HK_2 HF_2 HAT_2 KA_2 HB_2 hk_c0 hk_l ka_c2 ka_l
      have hk_c0 := HK_3.out.cell 0
      have hk_l := HK_3.out.lt
      simp at hk_c0
      have ka_c3 := KA_3.out.cell 3
      have ka_l := KA_3.out.lt
      simp at ka_c3
      go_wp2_with fail
      refine (facts_any v.A4 v.n4 v.c4 a.drop wq3 HAT_3.out.i3).mono ?_
      rintro e wq4 ⟨rfl, mq, hmq⟩
      have hbq : Below wq3.heap.size wq3 wq4 := by rw [hmq]; exact below_drewN _ _
      clear hmq
      have HK_4 := Lib.hid (HK_3.out.keep hbq)
      have HF_4 := Lib.hid (HF_3.out.keep hbq)
      have HAT_4 := Lib.hid (HAT_3.out.keep hbq)
      have KA_4 := Lib.hid (KA_3.out.keep hbq)
      have HB_4 := Lib.hid (below_next HB_3.out hbq)
      clear hbq HK_3 HF_3 HAT_3 KA_3 HB_3 hk_c0 hk_l ka_c3 ka_l
      have ka_c2 := KA_4.out.cell 2
      have ka_c3 := KA_4.out.cell 3
      have ka_l := KA_4.out.lt
      simp at ka_c2 ka_c3
      go_wp2_with fail
      refine (share_none v.A3 v.A4 v.n3 v.c3 v.n4 v.c4 a.add a.drop wq4 HAT_4.out.i2 HAT_4.out.i3 HOK.out.ad).mono ?_
      rintro e wq5 ⟨rfl, hbq⟩
      have HK_5 := Lib.hid (HK_4.out.keep hbq)
      have HF_5 := Lib.hid (HF_4.out.keep hbq)
      have HAT_5 := Lib.hid (HAT_4.out.keep hbq)
      have KA_5 := Lib.hid (KA_4.out.keep hbq)
      have HB_5 := Lib.hid (below_next HB_4.out hbq)
      clear hbq HK_4 HF_4 HAT_4 KA_4 HB_4 ka_c2 ka_c3 ka_l
      have ka_c0 := KA_5.out.cell 0
      have ka_c1 := KA_5.out.cell 1
      have ka_l := KA_5.out.lt
      simp at ka_c0 ka_c1
      go_wp2_with fail
      refine (share_none v.A1 v.A2 v.n1 v.c1 v.n2 v.c2 a.need a.bar wq5 HAT_5.out.i0 HAT_5.out.i1 HOK.out.nb).mono ?_
      rintro e wq6 ⟨rfl, hbq⟩
      have HK_6 := Lib.hid (HK_5.out.keep hbq)
      have HF_6 := Lib.hid (HF_5.out.keep hbq)
      have HAT_6 := Lib.hid (HAT_5.out.keep hbq)
      have KA_6 := Lib.hid (KA_5.out.keep hbq)
      have HB_6 := Lib.hid (below_next HB_5.out hbq)
      clear hbq HK_5 HF_5 HAT_5 KA_5 HB_5 ka_c0 ka_c1 ka_l
      go_wp2_with fail
      go_roundw
      case rel => exact ⟨k + 1, by omega, by go_num, HB_6, HK_6, HF_6⟩
      case measure => simp [intOf] <;> omega
    · have q1 : ¬ (k : Int) < (q.n : Int) := by omega
      have r0 := HF.out.cell 0
      have r1 := HF.out.cell 1
      have r2 := HF.out.frozen 0
      have r3 := HF.out.frozen 1
      have r4 := HF.out.lt
      simp at r0 r1
      go_wp2_with fail
      exact bodyPost_ret (v := .agg #[.int .i64 0, .int .i64 0]) (by simp [results, Try.results16, go_sem, r0, r1, r4]) rfl ⟨rfl, below_put2 HB.out (g := w.heap.size + 1) (Nat.le_succ _) _ _⟩
end Go.Proofs.Ytlfgcblijfflfaa
