/- Contract of questOf: a quest of raw numbers. (Printed by wip/tools/questof.py.) -/
import Derived.Test.YtlfgcblijfflfaaActChk
import Derived.Test.YtlfgcblijfflfaaPlanSome
import Derived.Test.YtlfgcblijfflfaaKitA
import Derived.Test.YtlfgcblijfflfaaTail
namespace Go.Proofs.Ytlfgcblijfflfaa
open Go.RowKit
set_option linter.unusedSimpArgs false
set_option linter.unusedVariables false

def RetQuest (w : World) (e : Ending) (w' : World) : Prop := ∃ (q : Qv) (f0 g : Nat) (al : List Ac), e = .returned (.agg #[.int .i64 4, .slice q.F q.nF q.cF, .slice q.G q.nG q.cG, .slice q.A q.n q.c]) ∧ QstR w' q f0 g al ∧ Below w.heap.size w w'
theorem own_typed_lt {w : World} {base n c : Nat} {A : Option Addr} {xs : List Value} (h : Own 3 w base A n c xs) : ∀ k, blockOf A = some k → Typed 3 w k ∧ base ≤ k := fun k hk => by
  rcases h.form with ⟨rfl, _⟩ | ⟨g', cur, rfl, hg', hh, _⟩
  · cases hk
  · cases hk; exact ⟨⟨_, _, hh⟩, hg'⟩

theorem own_low {w : World} {base low n c : Nat} {A : Option Addr} {xs : List Value} (h : Own 3 w base A n c xs) (hb : low ≤ base) : Own 3 w low A n c xs := by
  refine ⟨h.1, ?_⟩
  rcases h.2 with h2 | ⟨g, cap, cur, hv, hg, r⟩
  · exact .inl h2
  · exact .inr ⟨g, cap, cur, hv, Nat.le_trans hb hg, r⟩
theorem blk_typed_ne {w : World} {b : Nat} {t u : TypeId} {cs : Array Value} (h : Blk w b t cs) (hT : Typed u w b) (hne : t ≠ u) : False := by
  obtain ⟨cur, fz, h2⟩ := hT
  have h1 : w.heap[b]? = some (.cells cs t (0, 0)) := h
  rw [h1] at h2
  injection h2 with h2
  injection h2 with _ h3
  exact hne h3
theorem quest_put {w : World} {q : Qv} {al : List Ac} {f0 g base B b0 c0 : Nat} {cs : Array Value} (hR : Blk w B 25 cs) (hA : OwnAs w base q.A q.n q.c al) (hF : Own 3 w b0 q.F q.nF q.cF ((someF f0).map (Value.int .i64))) (hG : Own 3 w c0 q.G q.nG q.cG ((someF g).map (Value.int .i64))) (hn : q.n ≤ 3) (hf : f0 < 16) (hg : g < 16) (hok : ∀ a ∈ al, AcOk a) (v0 v1 v2 v3 : Value) :
    QstR ((((w.setCell ⟨B, 0, none⟩ v0).setCell ⟨B, 1, none⟩ v1).setCell ⟨B, 2, none⟩ v2).setCell ⟨B, 3, none⟩ v3) q f0 g al := by
  have st : ∀ (w : World) (o : Nat) (v : Value), (∃ cs, Blk w B 25 cs) ∧ OwnAs w base q.A q.n q.c al ∧ Own 3 w b0 q.F q.nF q.cF ((someF f0).map (Value.int .i64)) ∧ Own 3 w c0 q.G q.nG q.cG ((someF g).map (Value.int .i64)) →
      (∃ cs, Blk (w.setCell ⟨B, o, none⟩ v) B 25 cs) ∧ OwnAs (w.setCell ⟨B, o, none⟩ v) base q.A q.n q.c al ∧ Own 3 (w.setCell ⟨B, o, none⟩ v) b0 q.F q.nF q.cF ((someF f0).map (Value.int .i64)) ∧ Own 3 (w.setCell ⟨B, o, none⟩ v) c0 q.G q.nG q.cG ((someF g).map (Value.int .i64)) := fun w o v ⟨⟨cs, hT⟩, h1, h2, h3⟩ => by
    have k1 : w.grownBy (w.setCell ⟨B, o, none⟩ v) (some B) := grown_setCell w ⟨B, o, none⟩ v
    have hr : ∀ z, some B = some z → Typed 25 w z := fun z hz => by cases hz; exact Typed.of_blk hT
    exact ⟨⟨_, hT.set_ o v⟩, h1.kept k1 hr (by decide) (by decide), own_kept_t h2 k1 hr (by decide), own_kept_t h3 k1 hr (by decide)⟩
  obtain ⟨_, d2, d3, d4⟩ := st _ 3 v3 (st _ 2 v2 (st _ 1 v1 (st w 0 v0 ⟨⟨cs, hR⟩, hA, hF, hG⟩)))
  exact ⟨d3.ints (some_i64 _), d4.ints (some_i64 _), d2.read, hn, hf, hg, hok⟩

set_option maxHeartbeats 4000000 in
set_option maxRecDepth 100000 in
theorem questOf_any (L : Option Addr) (m d : Nat) (raw : List Int) (w : World) (h : Ints w L m d raw) : Calls Try.prog 4 #[.slice L m d] w (RetQuest w) := by
  have H := Lib.hid h
  have hbd := h.bd
  obtain ⟨ia, hia, az0, az1, az2⟩ := info_parts act_info
  obtain ⟨r0, hr0⟩ : ∃ r, Hid (raw.getD 0 0 = r) := ⟨_, rfl⟩
  obtain ⟨r1, hr1⟩ : ∃ r, Hid (raw.getD 1 0 = r) := ⟨_, rfl⟩
  have hI : ∀ i, I64 (raw.getD i 0) := fun i => by
    rw [List.getD_eq_getElem?_getD]
    cases e : raw[i]? with
    | none => simp [I64]
    | some x =>
      have := h.wf x (List.mem_of_getElem? e)
      simpa using this
  have hi0 := Lib.hid (hI 0)
  have hi1 := Lib.hid (hI 1)
  rw [hr0.out] at hi0
  rw [hr1.out] at hi1
  have ha3 := and_c r1 3 (by omega)
  rw [show ((3 : Nat) : Int) = 3 by rfl] at ha3
  obtain ⟨g, hg⟩ : ∃ g, Hid (mkM r1 &&& 3 = g) := ⟨_, rfl⟩
  have hg16 : g < 16 := by rw [← hg.out]; exact Nat.lt_of_le_of_lt Nat.and_le_right (by omega)
  rw [hg.out] at ha3
  clear hI
  obtain ⟨w0, hw0⟩ : ∃ z : World, Hid (z = w.alloc (.cells #[.int .i64 0, .slice none 0 0, .slice none 0 0, .slice none 0 0] 25)) := ⟨_, rfl⟩
  have HB : Hid (Below w.heap.size w w0) := by rw [Hid, hw0.out]; exact below_new _ _
  have HR : Hid (Blk w0 w.heap.size 25 #[.int .i64 0, .slice none 0 0, .slice none 0 0, .slice none 0 0]) := by rw [Hid, hw0.out]; exact Blk.new _ _ _
  have HL := Lib.hid (h.keep HB.out)
  clear h
  go_enter Try.func4, Try.ntmps4
  go_wp2_with fail
  rw [← hw0.out]
  skip
  refine (kat_any L m d raw 0 w0 HL.out (by omega) r0 hr0).mono ?_
  rintro e wq0 ⟨rfl, mq, hmq⟩
  have hbq : Below w0.heap.size w0 wq0 := by rw [hmq]; exact below_drewN _ _
  clear hmq
  have HR_0 := Lib.hid (HR.out.keep hbq)
  have HL_0 := Lib.hid (HL.out.keep hbq)
  have HB_0 := Lib.hid (below_next HB.out hbq)
  clear hbq HR HL HB 
  go_wp2_with fail
  refine (some_any r0 wq0 hi0.out).mono ?_
  rintro e wa ⟨F, nF, cF, rfl, hoF, hba⟩
  have HF_a : Hid (Own 3 wa wq0.heap.size F nF cF ((someF (mkM r0)).map (Value.int .i64))) := hoF
  clear hoF
  have HR_1 := Lib.hid (HR_0.out.keep hba)
  have HL_1 := Lib.hid (HL_0.out.keep hba)
  have HB_1 := Lib.hid (below_next HB_0.out hba)
  clear hba HR_0 HL_0 HB_0 
  have HF_1 := HF_a
  clear HF_a
  go_wp2_with fail
  refine (kat_any L m d raw 1 wa HL_1.out (by omega) r1 hr1).mono ?_
  rintro e wq2 ⟨rfl, mq, hmq⟩
  have hbq : Below wa.heap.size wa wq2 := by rw [hmq]; exact below_drewN _ _
  clear hmq
  have HR_2 := Lib.hid (HR_1.out.keep hbq)
  have HL_2 := Lib.hid (HL_1.out.keep hbq)
  have HF_2 := Lib.hid (HF_1.out.keep hbq)
  have HB_2 := Lib.hid (below_next HB_1.out hbq)
  clear hbq HR_1 HL_1 HF_1 HB_1 
  go_wp2_with fail
  refine (some_any (g : Int) wq2 (by unfold I64; omega)).mono ?_
  rintro e wb ⟨G, nG, cG, rfl, hoG, hbb⟩
  rw [mkM_nat hg16] at hoG
  have HG_a : Hid (Own 3 wb wq2.heap.size G nG cG ((someF g).map (Value.int .i64))) := hoG
  clear hoG
  have HR_3 := Lib.hid (HR_2.out.keep hbb)
  have HL_3 := Lib.hid (HL_2.out.keep hbb)
  have HF_3 := Lib.hid (HF_2.out.keep hbb)
  have HB_3 := Lib.hid (below_next HB_2.out hbb)
  clear hbb HR_2 HL_2 HF_2 HB_2 
  have HG_3 := HG_a
  clear HG_a
  go_wp2_with fail
  obtain ⟨wc, hwc⟩ : ∃ z : World, z = wb.alloc (.cells #[.int .i64 4, .slice F nF cF, .slice G nG cG, .slice none 0 0] 25) := ⟨_, rfl⟩
  have hbc : Below wb.heap.size wb wc := by rw [hwc]; exact below_new _ _
  obtain ⟨bq, hbq⟩ : ∃ z : Nat, wb.heap.size = z := ⟨_, rfl⟩
  have HQ_a : Hid (Blk wc bq 25 #[.int .i64 4, .slice F nF cF, .slice G nG cG, .slice none 0 0]) := by rw [hwc, ← hbq]; exact Blk.new _ _ _
  have hbw : w.heap.size < bq := by rw [← hbq]; have := HR_3.out.lt; exact this
  have HFl := HF_3
  rw [← hwc, hbq]
  clear hwc
  have HR_4 := Lib.hid (HR_3.out.keep hbc)
  have HL_4 := Lib.hid (HL_3.out.keep hbc)
  have HF_4 := Lib.hid (HF_3.out.keep hbc)
  have HG_4 := Lib.hid (HG_3.out.keep hbc)
  have HB_4 := Lib.hid (below_next HB_3.out hbc)
  clear hbc HR_3 HL_3 HF_3 HG_3 HB_3 
  clear hbq HFl
  have HFi := Lib.hid (HF_4.out.ints (some_i64 _))
  have HGi := Lib.hid (HG_4.out.ints (some_i64 _))
  go_loopw [4] (fun s4 wr => ∃ (i c : Nat) (A : Option Addr) (al : List Ac), i ≤ 3 ∧ s4 = .int .i64 i ∧ Hid (Below w.heap.size w wr) ∧ Hid (Blk wr w.heap.size 25 #[.int .i64 0, .slice none 0 0, .slice none 0 0, .slice none 0 0]) ∧ Hid (Blk wr bq 25 #[.int .i64 4, .slice F nF cF, .slice G nG cG, .slice A i c]) ∧ Hid (OwnAs wr w.heap.size A i c al) ∧ Hid (∀ a ∈ al, AcOk a) ∧ Hid (Own 3 wr wq0.heap.size F nF cF ((someF (mkM r0)).map (Value.int .i64))) ∧ Hid (Own 3 wr wq2.heap.size G nG cG ((someF g).map (Value.int .i64)))) (fun s _ => 3 - (intOf s).toNat)
  case atStart => exact ⟨0, 0, none, [], Nat.zero_le _, rfl, HB_4, HR_4, HQ_a, OwnAs.nil _ _, by simp [Hid], HF_4, HG_4⟩
  case round =>
    clear HR_4 HL_4 HF_4 HG_4 HB_4 HQ_a HFi HGi
    obtain ⟨i, c, A, al, hi, rfl, HB, HR, HQ, HA, HOK, HF, HG⟩ := hrel
    by_cases hgo : i < 3 ∧ 2 + i < m
    · obtain ⟨g1, g2⟩ := hgo
      have hx := H.out.keep HB.out
      obtain ⟨b, off, x, hLe, hbb, hcell, x1, x2, hxk⟩ := hx.round g2
      have v0 : (0 : Int) ≤ (i : Int) := by omega
      have v1 : (i : Int) < 3 := by omega
      have v2 : 2 + (i : Int) < (m : Int) := by omega
      have v3 : (0 : Int) ≤ 2 + (i : Int) := by omega
      have v4 : (2 + (i : Int)).toNat = 2 + i := by omega
      have dv1 : decide ((i : Int) < 3) = true := decide_eq_true v1
      have e1 := and_c x 5 (by omega)
      have e2 := and_c (x / 16) 8 (by omega)
      have e3 := and_c (x / 256) 7 (by omega)
      have e4 := and_c (bits .andNot .i64 (x / 256) 7) 8 (by omega)
      have e5 := andNot_c (x / 256) 7 (by omega)
      rw [show ((7 : Nat) : Int) = 7 by rfl] at e3 e5
      rw [show ((8 : Nat) : Int) = 8 by rfl] at e2 e4
      rw [show ((5 : Nat) : Int) = 5 by rfl] at e1
      rw [e5, show (15 ^^^ 7 : Nat) = 8 by decide, Nat.and_assoc, Nat.and_self] at e4
      obtain ⟨a, ha⟩ : ∃ a : Ac, a = ⟨mkM x &&& 5, mkM (x / 16) &&& 8, mkM (x / 256) &&& 7, mkM (x / 256) &&& 8⟩ := ⟨_, rfl⟩
      have hao : AcOk a := act_masks x a (by rw [ha]) (by rw [ha]) (by rw [ha]) (by rw [ha])
      rw [show mkM x &&& 5 = a.need by rw [ha]] at e1
      rw [show mkM (x / 16) &&& 8 = a.bar by rw [ha]] at e2
      rw [show mkM (x / 256) &&& 7 = a.add by rw [ha]] at e3
      rw [show mkM (x / 256) &&& 8 = a.drop by rw [ha]] at e4
      have HAO := Lib.hid hao
      clear ha hao e5
      subst hLe
      clear hx hxk
      go_wp2_with fail
      obtain ⟨wz, hwz⟩ : ∃ z : World, z = wr.drew := ⟨_, rfl⟩
      have hbz : Below wr.heap.size wr wz := by rw [hwz]; exact below_drewN _ 1
      have HR_0 := Lib.hid (HR.out.keep hbz)
      have HQ_0 := Lib.hid (HQ.out.keep hbz)
      have HA_0 := Lib.hid (HA.out.keep hbz)
      have HF_0 := Lib.hid (HF.out.keep hbz)
      have HG_0 := Lib.hid (HG.out.keep hbz)
      have HB_0 := Lib.hid (below_next HB.out hbz)
      clear hbz HR HQ HA HF HG HB 
      have kz3 := HQ_0.out.cell 3
      have kz4 := HQ_0.out.lt
      simp at kz3
      have hS : wz.cell? ⟨bq, 3, none⟩ = some (.slice A i c) ∧ bq < wz.heap.size := ⟨kz3, kz4⟩
      refine wp_region_tail (fun w' => w'.cell? ⟨bq, 3, none⟩ = some (.slice A i c) ∧ bq < w'.heap.size) [22] (by kernel_rfl) ?_
      change wpAnyT _ _ _ _ _ _ _ _ _ wr.drew
      rw [← hwz]
      clear hwz hcell
      refine take0 (i := 0) (oi := _) (v := ?_) rfl (by kernel_rfl) (by kernel_rfl) (by kernel_rfl) (fun _ _ _ h => h) rfl (Or.inl ⟨by rfl, ?_⟩) (fun _ => hS) ?_
      rotate_left
      · intro w0; go_simp; with_reducible rfl
      (try simp only [Act.put, List.setIfInBounds_toArray, List.set_cons_zero, List.set_cons_succ])
      refine takeS (i := 1) (oi := _) (v := ?_) rfl (by kernel_rfl) (by kernel_rfl) (by kernel_rfl) (fun _ _ _ h => h) rfl (by kernel_rfl) (by kernel_rfl) (Or.inl ⟨by rfl, ?_⟩) hS ?_
      rotate_left
      · intro w0 hSw; (try dsimp only at hSw); go_simp; with_reducible rfl
      (try simp only [Act.put, List.setIfInBounds_toArray, List.set_cons_zero, List.set_cons_succ])
      refine take0 (i := 2) (oi := _) (v := ?_) rfl (by kernel_rfl) (by kernel_rfl) (by kernel_rfl) (fun _ _ _ h => h) rfl (Or.inl ⟨by rfl, ?_⟩) (fun _ => hS) ?_
      rotate_left
      · intro w0; go_simp; with_reducible rfl
      (try simp only [Act.put, List.setIfInBounds_toArray, List.set_cons_zero, List.set_cons_succ])
      refine take0 (i := 3) (oi := _) (v := ?_) rfl (by kernel_rfl) (by kernel_rfl) (by kernel_rfl) (fun _ _ _ h => h) rfl (Or.inl ⟨by rfl, ?_⟩) (fun _ => hS) ?_
      rotate_left
      · intro w0; go_simp; with_reducible rfl
      (try simp only [Act.put, List.setIfInBounds_toArray, List.set_cons_zero, List.set_cons_succ])
      refine take0 (i := 5) (oi := _) (v := ?_) rfl (by kernel_rfl) (by kernel_rfl) (by kernel_rfl) (fun _ _ _ h => h) rfl (Or.inl ⟨by rfl, ?_⟩) (fun _ => hS) ?_
      rotate_left
      · intro w0; go_simp; with_reducible rfl
      (try simp only [Act.put, List.setIfInBounds_toArray, List.set_cons_zero, List.set_cons_succ])
      refine take0 (i := 6) (oi := _) (v := ?_) rfl (by kernel_rfl) (by kernel_rfl) (by kernel_rfl) (fun _ _ _ h => h) rfl (Or.inl ⟨by rfl, ?_⟩) (fun _ => hS) ?_
      rotate_left
      · intro w0; go_simp; with_reducible rfl
      (try simp only [Act.put, List.setIfInBounds_toArray, List.set_cons_zero, List.set_cons_succ])
      refine take0 (i := 7) (oi := _) (v := ?_) rfl (by kernel_rfl) (by kernel_rfl) (by kernel_rfl) (fun _ _ _ h => h) rfl (Or.inl ⟨by rfl, ?_⟩) (fun _ => hS) ?_
      rotate_left
      · intro w0; go_simp; with_reducible rfl
      (try simp only [Act.put, List.setIfInBounds_toArray, List.set_cons_zero, List.set_cons_succ])
      refine take0 (i := 9) (oi := _) (v := ?_) rfl (by kernel_rfl) (by kernel_rfl) (by kernel_rfl) (fun _ _ _ h => h) rfl (Or.inl ⟨by rfl, ?_⟩) (fun _ => hS) ?_
      rotate_left
      · intro w0; go_simp; with_reducible rfl
      (try simp only [Act.put, List.setIfInBounds_toArray, List.set_cons_zero, List.set_cons_succ])
      refine take0 (i := 10) (oi := _) (v := ?_) rfl (by kernel_rfl) (by kernel_rfl) (by kernel_rfl) (fun _ _ _ h => h) rfl (Or.inl ⟨by rfl, ?_⟩) (fun _ => hS) ?_
      rotate_left
      · intro w0; go_simp; with_reducible rfl
      (try simp only [Act.put, List.setIfInBounds_toArray, List.set_cons_zero, List.set_cons_succ])
      refine take0 (i := 11) (oi := _) (v := ?_) rfl (by kernel_rfl) (by kernel_rfl) (by kernel_rfl) (fun _ _ _ h => h) rfl (Or.inl ⟨by rfl, ?_⟩) (fun _ => hS) ?_
      rotate_left
      · intro w0; go_simp; with_reducible rfl
      (try simp only [Act.put, List.setIfInBounds_toArray, List.set_cons_zero, List.set_cons_succ])
      refine take0 (i := 13) (oi := _) (v := ?_) rfl (by kernel_rfl) (by kernel_rfl) (by kernel_rfl) (fun _ _ _ h => h) rfl (Or.inl ⟨by rfl, ?_⟩) (fun _ => hS) ?_
      rotate_left
      · intro w0; go_simp; with_reducible rfl
      (try simp only [Act.put, List.setIfInBounds_toArray, List.set_cons_zero, List.set_cons_succ])
      refine take0 (i := 14) (oi := _) (v := ?_) rfl (by kernel_rfl) (by kernel_rfl) (by kernel_rfl) (fun _ _ _ h => h) rfl (Or.inl ⟨by rfl, ?_⟩) (fun _ => hS) ?_
      rotate_left
      · intro w0; go_simp; with_reducible rfl
      (try simp only [Act.put, List.setIfInBounds_toArray, List.set_cons_zero, List.set_cons_succ])
      refine take0 (i := 15) (oi := _) (v := ?_) rfl (by kernel_rfl) (by kernel_rfl) (by kernel_rfl) (fun _ _ _ h => h) rfl (Or.inl ⟨by rfl, ?_⟩) (fun _ => hS) ?_
      rotate_left
      · intro w0; go_simp; with_reducible rfl
      (try simp only [Act.put, List.setIfInBounds_toArray, List.set_cons_zero, List.set_cons_succ])
      refine take0 (i := 16) (oi := _) (v := ?_) rfl (by kernel_rfl) (by kernel_rfl) (by kernel_rfl) (fun _ _ _ h => h) rfl (Or.inl ⟨by rfl, ?_⟩) (fun _ => hS) ?_
      rotate_left
      · intro w0; go_simp; with_reducible rfl
      (try simp only [Act.put, List.setIfInBounds_toArray, List.set_cons_zero, List.set_cons_succ])
      refine oneT (i := 4) (by kernel_rfl) rfl (by rfl) (fun K hK => ?_)
      go_simp
      refine (some_any (a.need : Int) wz (by have := HAO.out.n; unfold I64; omega)).mono ?_
      rintro e vw0 ⟨N, nN, cN, rfl, hoX, hbv⟩
      rw [mkM_nat HAO.out.n] at hoX
      have HN_a : Hid (Own 3 vw0 w.heap.size N nN cN ((someF a.need).map (Value.int .i64))) := own_low hoX (by have := HB_0.out.size; exact this)
      clear hoX
      clear hS kz3 kz4
      have HR_1 := Lib.hid (HR_0.out.keep hbv)
      have HQ_1 := Lib.hid (HQ_0.out.keep hbv)
      have HA_1 := Lib.hid (HA_0.out.keep hbv)
      have HF_1 := Lib.hid (HF_0.out.keep hbv)
      have HG_1 := Lib.hid (HG_0.out.keep hbv)
      have HB_1 := Lib.hid (below_next HB_0.out hbv)
      clear hbv HR_0 HQ_0 HA_0 HF_0 HG_0 HB_0 
      have HN_1 := HN_a
      clear HN_a
      have kz3 := HQ_1.out.cell 3
      have kz4 := HQ_1.out.lt
      simp at kz3
      have hS : vw0.cell? ⟨bq, 3, none⟩ = some (.slice A i c) ∧ bq < vw0.heap.size := ⟨kz3, kz4⟩
      refine hK _ _ (fun _ => hS) ?_
      clear hK
      (try simp only [Act.put, List.setIfInBounds_toArray, List.set_cons_zero, List.set_cons_succ])
      refine oneT (i := 8) (by kernel_rfl) rfl (by rfl) (fun K hK => ?_)
      go_simp
      refine (some_any (a.bar : Int) vw0 (by have := HAO.out.b; unfold I64; omega)).mono ?_
      rintro e vw1 ⟨U, nU, cU, rfl, hoX, hbv⟩
      rw [mkM_nat HAO.out.b] at hoX
      have HU_a : Hid (Own 3 vw1 w.heap.size U nU cU ((someF a.bar).map (Value.int .i64))) := own_low hoX (by have := HB_1.out.size; exact this)
      clear hoX
      clear hS kz3 kz4
      have HR_2 := Lib.hid (HR_1.out.keep hbv)
      have HQ_2 := Lib.hid (HQ_1.out.keep hbv)
      have HA_2 := Lib.hid (HA_1.out.keep hbv)
      have HF_2 := Lib.hid (HF_1.out.keep hbv)
      have HG_2 := Lib.hid (HG_1.out.keep hbv)
      have HN_2 := Lib.hid (HN_1.out.keep hbv)
      have HB_2 := Lib.hid (below_next HB_1.out hbv)
      clear hbv HR_1 HQ_1 HA_1 HF_1 HG_1 HN_1 HB_1 
      have HU_2 := HU_a
      clear HU_a
      have kz3 := HQ_2.out.cell 3
      have kz4 := HQ_2.out.lt
      simp at kz3
      have hS : vw1.cell? ⟨bq, 3, none⟩ = some (.slice A i c) ∧ bq < vw1.heap.size := ⟨kz3, kz4⟩
      refine hK _ _ (fun _ => hS) ?_
      clear hK
      (try simp only [Act.put, List.setIfInBounds_toArray, List.set_cons_zero, List.set_cons_succ])
      refine oneT (i := 12) (by kernel_rfl) rfl (by rfl) (fun K hK => ?_)
      go_simp
      refine (some_any (a.add : Int) vw1 (by have := HAO.out.p; unfold I64; omega)).mono ?_
      rintro e vw2 ⟨D, nD, cD, rfl, hoX, hbv⟩
      rw [mkM_nat HAO.out.p] at hoX
      have HD_a : Hid (Own 3 vw2 w.heap.size D nD cD ((someF a.add).map (Value.int .i64))) := own_low hoX (by have := HB_2.out.size; exact this)
      clear hoX
      clear hS kz3 kz4
      have HR_3 := Lib.hid (HR_2.out.keep hbv)
      have HQ_3 := Lib.hid (HQ_2.out.keep hbv)
      have HA_3 := Lib.hid (HA_2.out.keep hbv)
      have HF_3 := Lib.hid (HF_2.out.keep hbv)
      have HG_3 := Lib.hid (HG_2.out.keep hbv)
      have HN_3 := Lib.hid (HN_2.out.keep hbv)
      have HU_3 := Lib.hid (HU_2.out.keep hbv)
      have HB_3 := Lib.hid (below_next HB_2.out hbv)
      clear hbv HR_2 HQ_2 HA_2 HF_2 HG_2 HN_2 HU_2 HB_2 
      have HD_3 := HD_a
      clear HD_a
      have kz3 := HQ_3.out.cell 3
      have kz4 := HQ_3.out.lt
      simp at kz3
      have hS : vw2.cell? ⟨bq, 3, none⟩ = some (.slice A i c) ∧ bq < vw2.heap.size := ⟨kz3, kz4⟩
      refine hK _ _ (fun _ => hS) ?_
      clear hK
      (try simp only [Act.put, List.setIfInBounds_toArray, List.set_cons_zero, List.set_cons_succ])
      refine oneT (i := 17) (by kernel_rfl) rfl (by rfl) (fun K hK => ?_)
      go_simp
      refine (some_any (a.drop : Int) vw2 (by have := HAO.out.d; unfold I64; omega)).mono ?_
      rintro e vw3 ⟨P, nP, cP, rfl, hoX, hbv⟩
      rw [mkM_nat HAO.out.d] at hoX
      have HP_a : Hid (Own 3 vw3 w.heap.size P nP cP ((someF a.drop).map (Value.int .i64))) := own_low hoX (by have := HB_3.out.size; exact this)
      clear hoX
      clear hS kz3 kz4
      have HR_4 := Lib.hid (HR_3.out.keep hbv)
      have HQ_4 := Lib.hid (HQ_3.out.keep hbv)
      have HA_4 := Lib.hid (HA_3.out.keep hbv)
      have HF_4 := Lib.hid (HF_3.out.keep hbv)
      have HG_4 := Lib.hid (HG_3.out.keep hbv)
      have HN_4 := Lib.hid (HN_3.out.keep hbv)
      have HU_4 := Lib.hid (HU_3.out.keep hbv)
      have HD_4 := Lib.hid (HD_3.out.keep hbv)
      have HB_4 := Lib.hid (below_next HB_3.out hbv)
      clear hbv HR_3 HQ_3 HA_3 HF_3 HG_3 HN_3 HU_3 HD_3 HB_3 
      have HP_4 := HP_a
      clear HP_a
      have kz3 := HQ_4.out.cell 3
      have kz4 := HQ_4.out.lt
      simp at kz3
      have hS : vw3.cell? ⟨bq, 3, none⟩ = some (.slice A i c) ∧ bq < vw3.heap.size := ⟨kz3, kz4⟩
      refine hK _ _ (fun _ => hS) ?_
      clear hK
      (try simp only [Act.put, List.setIfInBounds_toArray, List.set_cons_zero, List.set_cons_succ])
      refine take0 (i := 18) (oi := _) (v := ?_) rfl (by kernel_rfl) (by kernel_rfl) (by kernel_rfl) (fun _ _ _ h => h) rfl (Or.inl ⟨by rfl, ?_⟩) (fun _ => hS) ?_
      rotate_left
      · intro w0; go_simp; with_reducible rfl
      (try simp only [Act.put, List.setIfInBounds_toArray, List.set_cons_zero, List.set_cons_succ])
      refine oneT (i := 19) (by kernel_rfl) rfl (by rfl) (fun K hK => ?_)
      go_simp
      obtain ⟨wy, hwy⟩ : ∃ z : World, z = vw3.alloc (.cells #[.slice N nN cN, .slice U nU cU, .slice D nD cD, .slice P nP cP] 58) := ⟨_, rfl⟩
      have hby : Below vw3.heap.size vw3 wy := by rw [hwy]; exact below_new _ _
      have KB_a : Hid (Blk wy vw3.heap.size 58 #[.slice N nN cN, .slice U nU cU, .slice D nD cD, .slice P nP cP]) := by rw [hwy]; exact Blk.new _ _ _
      rw [← hwy]
      clear hwy hS kz3 kz4
      have HR_5 := Lib.hid (HR_4.out.keep hby)
      have HQ_5 := Lib.hid (HQ_4.out.keep hby)
      have HA_5 := Lib.hid (HA_4.out.keep hby)
      have HF_5 := Lib.hid (HF_4.out.keep hby)
      have HG_5 := Lib.hid (HG_4.out.keep hby)
      have HN_5 := Lib.hid (HN_4.out.keep hby)
      have HU_5 := Lib.hid (HU_4.out.keep hby)
      have HD_5 := Lib.hid (HD_4.out.keep hby)
      have HP_5 := Lib.hid (HP_4.out.keep hby)
      have HB_5 := Lib.hid (below_next HB_4.out hby)
      clear hby HR_4 HQ_4 HA_4 HF_4 HG_4 HN_4 HU_4 HD_4 HP_4 HB_4 
      have kz3 := HQ_5.out.cell 3
      have kz4 := HQ_5.out.lt
      simp at kz3
      have hS : wy.cell? ⟨bq, 3, none⟩ = some (.slice A i c) ∧ bq < wy.heap.size := ⟨kz3, kz4⟩
      refine hK _ _ (fun _ => hS) ?_
      clear hK
      (try simp only [Act.put, List.setIfInBounds_toArray, List.set_cons_zero, List.set_cons_succ])
      refine oneT (i := 20) (by kernel_rfl) rfl (by rfl) (fun K hK => ?_)
      obtain ⟨vs, ho1, ho2⟩ := HA_5.out
      have hsz9 := HB_5.out.size
      have kb0 := KB_a.out.cell 0
      have kb1 := KB_a.out.cell 1
      have kb2 := KB_a.out.cell 2
      have kb3 := KB_a.out.cell 3
      simp at kb0 kb1 kb2 kb3
      refine wp_append_a wy (.tmp 31) (.tmp 49) 23 rfl 4 96 w.heap.size 58 ia _ Try.underlying23 hia az0 az1 az2 rfl (by omega) A i c _ rfl ho1 vw3.heap.size [.slice N nN cN, .slice U nU cU, .slice D nD cD, .slice P nP cP] rfl rfl (fun j u hj => ?_) (by simp [Value.oneCell']) (by simp only [maxLen]; omega) (by omega) hsz9 ?_
      · match j, hj with
        | 0, hj => simp at hj; subst hj; exact kb0
        | 1, hj => simp at hj; subst hj; exact kb1
        | 2, hj => simp at hj; subst hj; exact kb2
        | 3, hj => simp at hj; subst hj; exact kb3
        | j + 4, hj => simp at hj
      intro A2 c2 w2 hA2 hg2
      have HRT := Lib.hid (fun g hg' => rowA_typed ho1 g hg')
      have HA2 : Hid (OwnAs w2 w.heap.size A2 (i + 1) c2 (al ++ [a])) := OwnAs.push (v := ⟨N, nN, cN, U, nU, cU, D, nD, cD, P, nP, cP⟩) ho1 ho2 ⟨HN_5.out, HU_5.out, HD_5.out, HP_5.out⟩ hA2 hg2
      have hneQ : some bq ≠ blockOf A := fun e => blk_typed_ne HQ_5.out (HRT.out bq e.symm).1 (by decide)
      have hneR : some w.heap.size ≠ blockOf A := fun e => blk_typed_ne HR_5.out (HRT.out _ e.symm).1 (by decide)
      have HQ2 := Lib.hid (HQ_5.out.grown hg2 hneQ)
      have HR2 := Lib.hid (HR_5.out.grown hg2 hneR)
      have HF2 := Lib.hid (own_kept_t HF_5.out hg2 (fun z hz => (HRT.out z hz).1) (by decide))
      have HG2 := Lib.hid (own_kept_t HG_5.out hg2 (fun z hz => (HRT.out z hz).1) (by decide))
      have HB2 : Hid (Below w.heap.size w w2) := HB_5.out.grown hg2 HB_5.out.size (fun z hz => (HRT.out z hz).2)
      have kz3 := HQ2.out.cell 3
      have kz4 := HQ2.out.lt
      simp at kz3
      have hS : w2.cell? ⟨bq, 3, none⟩ = some (.slice A i c) ∧ bq < w2.heap.size := ⟨kz3, kz4⟩
      clear hA2 hg2 ho1 ho2 hneQ hneR kb0 kb1 kb2 kb3 HRT HR_5 HQ_5 HA_5 HF_5 HG_5 HN_5 HU_5 HD_5 HP_5 HB_5 KB_a
      refine hK _ _ (fun _ => hS) ?_
      clear hK
      (try simp only [Act.put, List.setIfInBounds_toArray, List.set_cons_zero, List.set_cons_succ])
      refine take0 (i := 21) (oi := _) (v := ?_) rfl (by kernel_rfl) (by kernel_rfl) (by kernel_rfl) (fun _ _ _ h => h) rfl (Or.inl ⟨by rfl, ?_⟩) (fun _ => hS) ?_
      rotate_left
      · intro w0; go_simp; with_reducible rfl
      (try simp only [Act.put, List.setIfInBounds_toArray, List.set_cons_zero, List.set_cons_succ])
      refine oneT (i := 22) (by kernel_rfl) rfl (by rfl) (fun K hK => ?_)
      have fz3 := HQ2.out.frozen 3
      go_simp
      refine hK _ _ (noT_no (by kernel_rfl)) ?_
      clear hK
      (try simp only [Act.put, List.setIfInBounds_toArray, List.set_cons_zero, List.set_cons_succ])
      obtain ⟨w3, hw3⟩ : ∃ z : World, z = w2.setCell ⟨bq, 3, none⟩ (.slice A2 (i + 1) c2) := ⟨_, rfl⟩
      have HQ3 : Hid (Blk w3 bq 25 #[.int .i64 4, .slice F nF cF, .slice G nG cG, .slice A2 (i + 1) c2]) := by rw [hw3]; have := HQ2.out.set_ 3 (.slice A2 (i + 1) c2); simpa [Hid] using this
      have hT2 : ∀ z, some bq = some z → Typed 25 w2 z := fun z hz => by cases hz; exact ⟨_, _, HQ2.out⟩
      have hg3 : w2.grownBy w3 (some bq) := by rw [hw3]; exact grown_setCell w2 ⟨bq, 3, none⟩ _
      have HR3 := Lib.hid (HR2.out.grown hg3 (by simp; omega))
      have HF3 := Lib.hid (own_kept_t HF2.out hg3 hT2 (by decide))
      have HG3 := Lib.hid (own_kept_t HG2.out hg3 hT2 (by decide))
      have HA3 := Lib.hid (HA2.out.kept hg3 hT2 (by decide) (by decide))
      have HB3 : Hid (Below w.heap.size w w3) := HB2.out.grown hg3 HB2.out.size (fun z hz => by cases hz; omega)
      have HOK3 : Hid (∀ z ∈ al ++ [a], AcOk z) := fun z hz => by
        rcases List.mem_append.1 hz with hz | hz
        · exact HOK.out z hz
        · rw [List.mem_singleton.1 hz]; exact HAO.out
      rw [← hw3]
      clear hw3 hg3 hT2 kz3 kz4 hS fz3 HQ2 HR2 HF2 HG2 HA2 HB2
      refine doneT (by kernel_rfl) ?_ _
      go_wp2_with fail
      go_roundw
      case rel => exact ⟨i + 1, c2, A2, al ++ [a], by omega, by go_num, HB3, HR3, HQ3, HA3, HOK3, HF3, HG3⟩
      case measure => simp [intOf] <;> omega
    · have hcase : (i : Int) < 3 ∧ ¬ 2 + (i : Int) < (m : Int) ∨ ¬ (i : Int) < 3 := by omega
      have q0 := HQ.out.cell 0
      have q1 := HQ.out.cell 1
      have q2 := HQ.out.cell 2
      have q3 := HQ.out.cell 3
      have q4 := HQ.out.lt
      simp at q0 q1 q2 q3
      have s0 := HR.out.cell 0
      have s1 := HR.out.cell 1
      have s2 := HR.out.cell 2
      have s3 := HR.out.cell 3
      have t0 := HR.out.frozen 0
      have t1 := HR.out.frozen 1
      have t2 := HR.out.frozen 2
      have t3 := HR.out.frozen 3
      have s4 := HR.out.lt
      simp at s0 s1 s2 s3
      have hgr : ∀ v0 v1 v2 v3 : Value, Below w.heap.size w ((((wr.setCell ⟨w.heap.size, 0, none⟩ v0).setCell ⟨w.heap.size, 1, none⟩ v1).setCell ⟨w.heap.size, 2, none⟩ v2).setCell ⟨w.heap.size, 3, none⟩ v3) := fun v0 v1 v2 v3 => ((((HB.out.setCell (p := ⟨w.heap.size, 0, none⟩) (Nat.le_refl _) _).setCell (p := ⟨w.heap.size, 1, none⟩) (Nat.le_refl _) _).setCell (p := ⟨w.heap.size, 2, none⟩) (Nat.le_refl _) _).setCell (p := ⟨w.heap.size, 3, none⟩) (Nat.le_refl _) _)
      have hqs := fun v0 v1 v2 v3 => quest_put (q := ⟨F, nF, cF, G, nG, cG, A, i, c⟩) HR.out HA.out HF.out HG.out hi (mkM_lt r0) hg16 HOK.out v0 v1 v2 v3
      have HGR := Lib.hid hgr
      have HQS := Lib.hid hqs
      clear hgr hqs HB HR HQ HA HOK HF HG
      rcases hcase with ⟨u1, u2⟩ | u1
      · have du : decide ((i : Int) < 3) = true := decide_eq_true u1
        go_wp2_with fail
        exact bodyPost_ret (v := .agg #[.int .i64 4, .slice F nF cF, .slice G nG cG, .slice A i c]) (by simp [results, Try.results4, go_sem, s0, s1, s2, s3, s4]) rfl ⟨⟨F, nF, cF, G, nG, cG, A, i, c⟩, mkM r0, g, al, rfl, HQS.out _ _ _ _, HGR.out _ _ _ _⟩
      · have du : decide ((i : Int) < 3) = false := decide_eq_false u1
        go_wp2_with fail
        exact bodyPost_ret (v := .agg #[.int .i64 4, .slice F nF cF, .slice G nG cG, .slice A i c]) (by simp [results, Try.results4, go_sem, s0, s1, s2, s3, s4]) rfl ⟨⟨F, nF, cF, G, nG, cG, A, i, c⟩, mkM r0, g, al, rfl, HQS.out _ _ _ _, HGR.out _ _ _ _⟩
end Go.Proofs.Ytlfgcblijfflfaa
