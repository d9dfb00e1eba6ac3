/- TopPlansAll: the texts Sure, TopPlansWalk, TopPlansLaw in one. -/
import Derived.Test.YtlfgcblijfflfaaCdclAll
import Derived.Test.YtlfgcblijfflfaaQuestOf
import Derived.Test.YtlfgcblijfflfaaBestDo
import Derived.Test.YtlfgcblijfflfaaFarAll
import Derived.Test.YtlfgcblijfflfaaActWalk
import Derived.Test.YtlfgcblijfflfaaEncAll
import Derived.Test.YtlfgcblijfflfaaKitA
import Derived.Deep.Cut
import Derived.Test.YtlfgcblijfflfaaRows
import Derived.Test.YtlfgcblijfflfaaOpen
/- Contract of clausesSure: one and its contrary: true. -/
namespace Go.Proofs.Ytlfgcblijfflfaa
open Go.RowKit
set_option linter.unusedSimpArgs false

theorem sure_beside : besideR 1 [[1], [-1]] [] = (0, 0) := by decide
theorem sure_none (m : List Bool) (h : allB [[1], [-1]] m = true) : False := by
  unfold allB satB litB at h
  simp at h
theorem answ_sure {w' : World} {st : Int} {hb : Option Addr} {hn hc : Nat} (h : Answ 1 [[1], [-1]] [] 2000 w' st hb hn hc) : st = 2 := by
  rcases h.one with e | e | e
  · obtain ⟨bs, _, _, h1, _⟩ := h.yes e
    exact (sure_none bs h1).elim
  · exact e
  · have := h.out e
    simp at this

set_option maxHeartbeats 2000000 in
theorem sure_any (w : World) : Calls Try.prog 7 #[] w (RetV (.bool true) w) := by
  obtain ⟨w1, hw1⟩ : ∃ z : World, z = ((w.alloc (.cells #[.int .i64 1] 3)).alloc (.cells #[.int .i64 (-1)] 3)).alloc (.cells #[.slice (some ⟨w.heap.size, 0, none⟩) 1 1, .slice (some ⟨w.heap.size + 1, 0, none⟩) 1 1] 22) := ⟨_, rfl⟩
  have B1 : Hid (Below w.heap.size w w1) := by rw [hw1]; exact below_alloc (below_alloc (below_new _ _) _) _
  have I1 : Ints ((w.alloc (.cells #[.int .i64 1] 3)).alloc (.cells #[.int .i64 (-1)] 3)) (some ⟨w.heap.size, 0, none⟩) 1 1 [1] := (ints_made w 3 [1] rfl (by simp [I64]) (by simp [maxLen])).keep (below_new _ _)
  have I2 : Ints ((w.alloc (.cells #[.int .i64 1] 3)).alloc (.cells #[.int .i64 (-1)] 3)) (some ⟨w.heap.size + 1, 0, none⟩) 1 1 [-1] := ints_made (w.alloc (.cells #[.int .i64 1] 3)) 3 [-1] (by simp) (by simp [I64]) (by simp [maxLen])
  have G1 : Hid (Grid w1 (some ⟨w.heap.size + 1 + 1, 0, none⟩) 2 2 [[1], [-1]]) := by rw [hw1]; exact grid2 22 (by simp) I1 I2
  have hlt : w.heap.size + 1 + 1 < w1.heap.size := by rw [hw1]; simp
  clear I1 I2
  go_enter Try.func7, Try.ntmps7
  go_wp2_with fail
  rw [← hw1]
  clear hw1
  refine (cdcl_any _ none 2 2 0 0 [[1], [-1]] [] 1 w1 G1.out (fun h => by cases h) (fun a ha => by cases ha; exact hlt) ⟨Sl_nil w1, by simp⟩ sure_beside 0 0 0 0 ⟨by omega, by omega⟩ ⟨by omega, by omega⟩ ⟨by omega, by omega⟩ ⟨by omega, by omega⟩ 2000 (Nat.le_refl _) core_none).mono ?_
  rintro e w2 ⟨st, hb, hn, hc, S, ns, cs, K, nk, ck, used, rfl, hb2, ha⟩
  obtain rfl := answ_sure ha
  have HB := Lib.hid (below_next B1.out hb2)
  clear ha hb2 B1 hlt
  go_wp2_with fail
  go_ret
  exact ⟨rfl, below_alloc (below_alloc HB.out _) _⟩
end Go.Proofs.Ytlfgcblijfflfaa

/- The walk of TopPlans: it returns true. (Printed by wip/tools/topplans.py.) -/
namespace Go.Proofs.Ytlfgcblijfflfaa
open Go.RowKit
set_option linter.unusedSimpArgs false
set_option linter.unusedVariables false

theorem Sl_nilT (w : World) : Sl w none 0 0 [] := ⟨rfl, Nat.le_refl _, by simp [maxLen], fun h => absurd h (by omega)⟩
theorem besides {n f0 g : Nat} {al : List Ac} (hA : al.length ≤ 3) (hn : n ≤ 3) (hl : (stepsF n al f0 g).length ≤ 200) : besideR ((((n + 1) * 4 + n * al.length : Nat)) : Int) (stepsF n al f0 g) [] = (0, 0) := by
  unfold besideR
  have hV : (n + 1) * 4 + n * al.length ≤ 25 := by
    have : n * al.length ≤ 3 * 3 := Nat.mul_le_mul hn hA
    omega
  rw [checkC_of (by omega) (by omega) (by omega) (steps_lits hA)]
  rfl
/-- No bools among these cells. -/
def NoB (cs : Array Value) : Prop := ∀ (i : Nat) (b : Bool), cs[i]? ≠ some (.bool b)
theorem cell_far_ (w : World) (k b j i : Nat) (v : Value) (hne : k ≠ b) : (w.setCell ⟨b, i, none⟩ v).cell? ⟨k, j, none⟩ = w.cell? ⟨k, j, none⟩ := by
  have := Below.heap_setCell w ⟨b, i, none⟩ v k hne
  unfold World.cell?
  rw [this]
theorem bools_far {w : World} {A : Option Addr} {n c b i : Nat} {bs : List Bool} {t : TypeId} {cs : Array Value} (h : Bools w A n c bs) (hb : Blk w b t cs) (hn : NoB cs) (v : Value) : Bools (w.setCell ⟨b, i, none⟩ v) A n c bs := by
  refine ⟨Sl.len h, h.le, h.cap, fun h0 => ?_⟩
  obtain ⟨k, off, e, hlt, hc⟩ := h.at_ h0
  have hne : k ≠ b := fun e9 => by
    subst e9
    have h1 := hc 0 h0
    have hl : 0 < bs.length := by have := Bools.len h; omega
    rw [hb.cell, List.getElem?_map, List.getElem?_eq_getElem hl] at h1
    exact hn _ _ h1
  refine ⟨k, off, e, by simpa using hlt, fun j hj => ?_⟩
  rw [← hc j hj]
  exact cell_far_ w k b _ i v hne
theorem noB_set {cs : Array Value} (h : NoB cs) (i : Nat) (v : Value) (hv : ∀ b, v ≠ .bool b) : NoB (cs.setIfInBounds i v) := fun j b e => by
  rw [Array.getElem?_setIfInBounds] at e
  split at e
  · split at e
    · exact hv b (Option.some.inj e)
    · cases e
  · exact h j b e
theorem threeT_ {P : Program} {ops : Array Oper} {Q : Exit → Act → World → Prop} {md : Region.Mode} {S : World → Prop} {ts : List Nat} {i j k : Nat} {o u x : Oper} {fuel : Nat} {listed : Array Bool} {a : Act} {w : World} (hr : Region.ready md ops listed = [i, j, k]) (hi : ops[i]? = some o) (hw : Region.wanted o (yielded ops a.tmps) = true) (hj : ops[j]? = some u) (hu : Region.wanted u (yielded ops a.tmps) = true) (hk : ops[k]? = some x) (hx : Region.wanted x (yielded ops a.tmps) = true)
    (h : ∀ K : Act → World → Prop, (∀ a' w', (noT ts (listed.setIfInBounds i true) = true → S w') → wpAnyT P md ops Q S ts fuel (listed.setIfInBounds i true) a' w' → K a' w') → o.wp P a w K Q)
    (h' : ∀ K : Act → World → Prop, (∀ a' w', (noT ts (listed.setIfInBounds j true) = true → S w') → wpAnyT P md ops Q S ts fuel (listed.setIfInBounds j true) a' w' → K a' w') → u.wp P a w K Q)
    (h'' : ∀ K : Act → World → Prop, (∀ a' w', (noT ts (listed.setIfInBounds k true) = true → S w') → wpAnyT P md ops Q S ts fuel (listed.setIfInBounds k true) a' w' → K a' w') → x.wp P a w K Q) : wpAnyT P md ops Q S ts (fuel + 1) listed a w :=
  allT hr (by simp) fun l hl => by
    simp at hl
    rcases hl with rfl | rfl | rfl
    · unfold wpOp
      simp only [hi, hw, if_true]
      exact .inl (h _ fun _ _ h1 h2 => ⟨h1, h2⟩)
    · unfold wpOp
      simp only [hj, hu, if_true]
      exact .inl (h' _ fun _ _ h1 h2 => ⟨h1, h2⟩)
    · unfold wpOp
      simp only [hk, hx, if_true]
      exact .inl (h'' _ fun _ _ h1 h2 => ⟨h1, h2⟩)
theorem put5 {w wr : World} {B b2 b3 : Nat} (K3 : Blk wr b2 45 #[.int .i64 0, .slice none 0 0, .slice none 0 0, .slice none 0 0, .int .i64 0]) (K4 : Blk wr b3 28 #[.int .i64 0, .int .i64 0]) (hne : b2 ≠ b3) (hb : Below B w wr) (h2 : B ≤ b2) (v0 v1 v2 v3 v4 : Value) :
    Blk (((((wr.setCell ⟨b2, 0, none⟩ v0).setCell ⟨b2, 1, none⟩ v1).setCell ⟨b2, 2, none⟩ v2).setCell ⟨b2, 3, none⟩ v3).setCell ⟨b2, 4, none⟩ v4) b2 45 #[v0, v1, v2, v3, v4] ∧
    Blk (((((wr.setCell ⟨b2, 0, none⟩ v0).setCell ⟨b2, 1, none⟩ v1).setCell ⟨b2, 2, none⟩ v2).setCell ⟨b2, 3, none⟩ v3).setCell ⟨b2, 4, none⟩ v4) b3 28 #[.int .i64 0, .int .i64 0] ∧
    Below B w (((((wr.setCell ⟨b2, 0, none⟩ v0).setCell ⟨b2, 1, none⟩ v1).setCell ⟨b2, 2, none⟩ v2).setCell ⟨b2, 3, none⟩ v3).setCell ⟨b2, 4, none⟩ v4) := by
  have hne' : b3 ≠ b2 := fun e => hne e.symm
  refine ⟨?_, ?_, ?_⟩
  · have := ((((K3.set_ 0 v0).set_ 1 v1).set_ 2 v2).set_ 3 v3).set_ 4 v4
    simpa using this
  · have := ((((K4.far (p := ⟨b2, 0, none⟩) hne' v0).far (p := ⟨b2, 1, none⟩) hne' v1).far (p := ⟨b2, 2, none⟩) hne' v2).far (p := ⟨b2, 3, none⟩) hne' v3).far (p := ⟨b2, 4, none⟩) hne' v4
    simpa using this
  · exact ((((hb.setCell (p := ⟨b2, 0, none⟩) h2 _).setCell (p := ⟨b2, 1, none⟩) h2 _).setCell (p := ⟨b2, 2, none⟩) h2 _).setCell (p := ⟨b2, 3, none⟩) h2 _).setCell (p := ⟨b2, 4, none⟩) h2 _
theorem put2_ {w wr : World} {B b2 b3 : Nat} {cs : Array Value} (K3 : Blk wr b2 45 cs) (K4 : Blk wr b3 28 #[.int .i64 0, .int .i64 0]) (hne : b2 ≠ b3) (hb : Below B w wr) (h3 : B ≤ b3) :
    Blk ((wr.setCell ⟨b3, 0, none⟩ (.int .i64 0)).setCell ⟨b3, 1, none⟩ (.int .i64 0)) b2 45 cs ∧ Blk ((wr.setCell ⟨b3, 0, none⟩ (.int .i64 0)).setCell ⟨b3, 1, none⟩ (.int .i64 0)) b3 28 #[.int .i64 0, .int .i64 0] ∧
    Below B w ((wr.setCell ⟨b3, 0, none⟩ (.int .i64 0)).setCell ⟨b3, 1, none⟩ (.int .i64 0)) := by
  refine ⟨(K3.far (p := ⟨b3, 0, none⟩) hne _).far (p := ⟨b3, 1, none⟩) hne _, ?_, (hb.setCell (p := ⟨b3, 0, none⟩) h3 _).setCell (p := ⟨b3, 1, none⟩) h3 _⟩
  have := (K4.set_ 0 (.int .i64 0)).set_ 1 (.int .i64 0)
  simpa using this
theorem ownP_nil_ {e t : TypeId} {w : World} {base low n c : Nat} {A : Option Addr} {xss : List (List Int)} (h : OwnP e t w base low A n c xss) : A = none → c = 0 := fun hA => by
  obtain ⟨vs, h1, _⟩ := h
  rcases h1.form with ⟨_, _, hc, _⟩ | ⟨g, _, e1, _⟩
  · exact hc
  · rw [hA] at e1; cases e1
theorem ownP_lt_ {e t : TypeId} {w : World} {base low n c : Nat} {A : Option Addr} {xss : List (List Int)} (h : OwnP e t w base low A n c xss) : ∀ a, A = some a → a.block < w.heap.size := fun a hA => by
  obtain ⟨vs, h1, _⟩ := h
  rcases h1.form with ⟨e1, _⟩ | ⟨g, cur, e1, _, hh, _⟩
  · rw [hA] at e1; cases e1
  · rw [hA] at e1
    cases e1
    rcases Nat.lt_or_ge g w.heap.size with hlt | hge
    · exact hlt
    · rw [Array.getElem?_eq_none hge] at hh; cases hh
theorem answ_keep {vars : Int} {xss : List (List Int)} {fuel : Nat} {w w' : World} {st : Int} {hb : Option Addr} {hn hc : Nat} (h : Answ vars xss [] fuel w st hb hn hc) (hB : Below w.heap.size w w') : Answ vars xss [] fuel w' st hb hn hc :=
  ⟨h.one, fun e => by obtain ⟨bs, h1, h2⟩ := h.yes e; exact ⟨bs, h1.keep hB, h2⟩, h.no, h.out⟩
theorem answ_set {vars : Int} {xss : List (List Int)} {fuel : Nat} {w : World} {st : Int} {hb : Option Addr} {hn hc b i : Nat} {t : TypeId} {cs : Array Value} (h : Answ vars xss [] fuel w st hb hn hc) (hK : Blk w b t cs) (hN : NoB cs) (v : Value) : Answ vars xss [] fuel (w.setCell ⟨b, i, none⟩ v) st hb hn hc :=
  ⟨h.one, fun e => by obtain ⟨bs, h1, h2⟩ := h.yes e; exact ⟨bs, bools_far h1 hK hN v, h2⟩, h.no, h.out⟩
theorem noB_ans : NoB #[.int .i64 0, .slice none 0 0, .slice none 0 0, .slice none 0 0, .int .i64 0] := fun i b e => by
  rcases i with _ | _ | _ | _ | _ | i <;> simp at e
theorem noB_flt : NoB #[.int .i64 0, .int .i64 0] := fun i b e => by
  rcases i with _ | _ | i <;> simp at e
theorem answ5 {vars : Int} {xss : List (List Int)} {fuel : Nat} {w : World} {st : Int} {hb : Option Addr} {hn hc b : Nat} (h : Answ vars xss [] fuel w st hb hn hc) (hK : Blk w b 45 #[.int .i64 0, .slice none 0 0, .slice none 0 0, .slice none 0 0, .int .i64 0]) (s0 u : Int) (A1 A2 A3 : Option Addr) (n1 c1 n2 c2 n3 c3 : Nat) :
    Answ vars xss [] fuel (((((w.setCell ⟨b, 0, none⟩ (.int .i64 s0)).setCell ⟨b, 1, none⟩ (.slice A1 n1 c1)).setCell ⟨b, 2, none⟩ (.slice A2 n2 c2)).setCell ⟨b, 3, none⟩ (.slice A3 n3 c3)).setCell ⟨b, 4, none⟩ (.int .i64 u)) st hb hn hc := by
  have k1 := hK.set_ 0 (.int .i64 s0)
  have k2 := k1.set_ 1 (.slice A1 n1 c1)
  have k3 := k2.set_ 2 (.slice A2 n2 c2)
  have k4 := k3.set_ 3 (.slice A3 n3 c3)
  have m1 := noB_set noB_ans 0 (.int .i64 s0) (fun b e => by cases e)
  have m2 := noB_set m1 1 (.slice A1 n1 c1) (fun b e => by cases e)
  have m3 := noB_set m2 2 (.slice A2 n2 c2) (fun b e => by cases e)
  have m4 := noB_set m3 3 (.slice A3 n3 c3) (fun b e => by cases e)
  exact answ_set (answ_set (answ_set (answ_set (answ_set h hK noB_ans _) k1 m1 _) k2 m2 _) k3 m3 _) k4 m4 _
theorem answ2 {vars : Int} {xss : List (List Int)} {fuel : Nat} {w : World} {st : Int} {hb : Option Addr} {hn hc b : Nat} (h : Answ vars xss [] fuel w st hb hn hc) (hK : Blk w b 28 #[.int .i64 0, .int .i64 0]) :
    Answ vars xss [] fuel ((w.setCell ⟨b, 0, none⟩ (.int .i64 0)).setCell ⟨b, 1, none⟩ (.int .i64 0)) st hb hn hc :=
  answ_set (answ_set h hK noB_flt _) (hK.set_ 0 (.int .i64 0)) (noB_set noB_flt 0 (.int .i64 0) (fun b e => by cases e)) _

set_option maxHeartbeats 60000000 in
set_option maxRecDepth 100000 in
theorem topPlans_walk {L : Option Addr} {m d : Nat} {raw : List Int} {less o : Int} (w : World) (h : Ints w L m d raw) (hl : I64 less) (ho : I64 o) : Calls Try.prog 3 #[.slice L m d, .int .i64 less, .int .i64 o] w fun e w' => e = .returned (.bool true) ∧ Below w.heap.size w w' := by
  have HOP := Lib.hid ho
  obtain ⟨ni, hni⟩ : ∃ r, Hid (pickF less 4 = r) := ⟨_, rfl⟩
  have hnr := pickF_range less (n := 4) (by omega)
  rw [hni.out] at hnr
  obtain ⟨n, rfl⟩ : ∃ n : Nat, ni = (n : Int) := ⟨ni.toNat, by omega⟩
  have hn : n ≤ 3 := by omega
  have HLI := Lib.hid hl
  clear hl ho
  go_enter Try.func3, Try.ntmps3
  go_wp2_with fail
  refine (questOf_any L m d raw w h).mono ?_
  rintro e w1 ⟨q, f0, g, al, rfl, hq, hb1⟩
  have hq3 := hq.n3
  have hal3 : al.length ≤ 3 := by rw [hq.acts.1]; exact hq3
  have hf16 := hq.f16
  have hg16 := hq.g16
  have HAK : Hid (∀ a ∈ al, AcOk a) := hq.ok
  have hqn : Hid (al.length = q.n) := hq.acts.1
  obtain ⟨w2, hw2⟩ : ∃ z : World, z = w1.alloc (.cells #[.int .i64 4, .slice q.F q.nF q.cF, .slice q.G q.nG q.cG, .slice q.A q.n q.c] 25) := ⟨_, rfl⟩
  have hb2 : Below w1.heap.size w1 w2 := by rw [hw2]; exact below_new _ _
  have HK : Hid (Blk w2 w1.heap.size 25 #[.int .i64 4, .slice q.F q.nF q.cF, .slice q.G q.nG q.cG, .slice q.A q.n q.c]) := by rw [hw2]; exact Blk.new _ _ _
  obtain ⟨bq, hbq⟩ : ∃ z : Nat, w1.heap.size = z := ⟨_, rfl⟩
  rw [hbq] at HK
  have HQ := Lib.hid (hq.keep hb2)
  have HB := Lib.hid (below_next hb1 hb2)
  clear hq hb1 h
  have k0 := HK.out.cell 0
  have k1 := HK.out.cell 1
  have k2 := HK.out.cell 2
  have k3 := HK.out.cell 3
  have kl := HK.out.lt
  simp at k0 k1 k2 k3
  go_wp2_with fail
  rw [← hw2]
  try rw [hbq]
  clear hw2 hb2 hbq k0 k1 k2 k3 kl
  refine (best_any q f0 g al w2 HQ.out).mono ?_
  rintro e w3 ⟨st0, P, np, cp, rfl, hb3, hcase⟩
  rcases hcase with ⟨rfl, p, s, hP, hw, hg, hp16, hmin⟩ | ⟨rfl, hno⟩
  · have HP_a := Lib.hid hP
    have HW := Lib.hid hw
    have HG := Lib.hid hg
    have HMIN := Lib.hid hmin
    have hp20 : np ≤ 20 := by have h9 := hP.len; unfold natI at h9; rw [List.length_map] at h9; omega
    have hpl : Hid (p.length = np) := by have h9 := hP.len; unfold natI at h9; rw [List.length_map] at h9; exact h9
    clear hP hw hg hmin
    have HK_0 := Lib.hid (HK.out.keep hb3)
    have HQ_0 := Lib.hid (HQ.out.keep hb3)
    have HB_0 := Lib.hid (below_next HB.out hb3)
    clear hb3 HK HQ HB 
    have HP_0 := HP_a
    clear HP_a
    have k0 := HK_0.out.cell 0
    have k1 := HK_0.out.cell 1
    have k2 := HK_0.out.cell 2
    have k3 := HK_0.out.cell 3
    have kl := HK_0.out.lt
    simp at k0 k1 k2 k3
    go_wp2_with fail
    obtain ⟨w4, hww4⟩ : ∃ z : World, z = w3.alloc (.cells #[.int .i64 0, .int .i64 0] 28) := ⟨_, rfl⟩
    have hbx : Below w3.heap.size w3 w4 := by rw [hww4]; exact below_new _ _
    obtain ⟨b10, hb10⟩ : ∃ z : Nat, w3.heap.size = z := ⟨_, rfl⟩
    have H10_a : Hid (Blk w4 b10 28 #[.int .i64 0, .int .i64 0]) := by rw [hww4, ← hb10]; exact Blk.new _ _ _
    rw [← hww4]
    try rw [hb10]
    clear hww4
    have HK_1 := Lib.hid (HK_0.out.keep hbx)
    have HQ_1 := Lib.hid (HQ_0.out.keep hbx)
    have HP_1 := Lib.hid (HP_0.out.keep hbx)
    have HB_1 := Lib.hid (below_next HB_0.out hbx)
    clear hbx HK_0 HQ_0 HP_0 HB_0 k0 k1 k2 k3 kl
    have H10_1 := H10_a
    clear H10_a
    clear hb10
    refine (far_any q f0 g al w4 HQ_1.out).mono ?_
    rintro e w5 ⟨ofar, bfar, lfar, rfl, hb5, hLE, hbt, hbf⟩
    have hbnd := hLE.bound HAK.out hf16 (t := p.length) rfl HW.out
    have hs16 := walk_lt HAK.out hf16 HW.out
    have hsub := (has_iff hs16 hg16).1 HG.out
    obtain rfl : bfar = true := by
      cases bfar with
      | true => rfl
      | false =>
        obtain ⟨f, h1, h2⟩ := hbf rfl
        have := hbnd f (hsub f h1)
        omega
    have hofar : ofar ≤ (np : Int) := by
      have h9 := hbt rfl (p.length : Int) (by omega) (fun f hf => (hbnd f (hsub f hf)).2)
      have := hpl.out
      omega
    have dfar : decide ((np : Int) < ofar) = false := decide_eq_false (by omega)
    clear hbnd hsub
    clear hLE hbt hbf
    have HK_2 := Lib.hid (HK_1.out.keep hb5)
    have HQ_2 := Lib.hid (HQ_1.out.keep hb5)
    have HP_2 := Lib.hid (HP_1.out.keep hb5)
    have H10_2 := Lib.hid (H10_1.out.keep hb5)
    have HB_2 := Lib.hid (below_next HB_1.out hb5)
    clear hb5 HK_1 HQ_1 HP_1 H10_1 HB_1 
    have q10_0 := H10_2.out.cell 0
    have q10_l := H10_2.out.lt
    simp at q10_0
    have k0 := HK_2.out.cell 0
    have k1 := HK_2.out.cell 1
    have k2 := HK_2.out.cell 2
    have k3 := HK_2.out.cell 3
    have kl := HK_2.out.lt
    simp at k0 k1 k2 k3
    go_wp2_with fail
    obtain ⟨w6, hww6⟩ : ∃ z : World, z = w5.alloc (.cells #[.int .i64 0, .int .i64 0] 28) := ⟨_, rfl⟩
    have hbx : Below w5.heap.size w5 w6 := by rw [hww6]; exact below_new _ _
    obtain ⟨b13, hb13⟩ : ∃ z : Nat, w5.heap.size = z := ⟨_, rfl⟩
    have H13_a : Hid (Blk w6 b13 28 #[.int .i64 0, .int .i64 0]) := by rw [hww6, ← hb13]; exact Blk.new _ _ _
    rw [← hww6]
    try rw [hb13]
    clear hww6
    have HK_3 := Lib.hid (HK_2.out.keep hbx)
    have HQ_3 := Lib.hid (HQ_2.out.keep hbx)
    have HP_3 := Lib.hid (HP_2.out.keep hbx)
    have H10_3 := Lib.hid (H10_2.out.keep hbx)
    have HB_3 := Lib.hid (below_next HB_2.out hbx)
    clear hbx HK_2 HQ_2 HP_2 H10_2 HB_2 q10_0 q10_l k0 k1 k2 k3 kl
    have H13_3 := H13_a
    clear H13_a
    clear hb13
    refine (sure_any w6).mono ?_
    rintro e w7 ⟨rfl, hb7⟩
    have HK_4 := Lib.hid (HK_3.out.keep hb7)
    have HQ_4 := Lib.hid (HQ_3.out.keep hb7)
    have HP_4 := Lib.hid (HP_3.out.keep hb7)
    have H10_4 := Lib.hid (H10_3.out.keep hb7)
    have H13_4 := Lib.hid (H13_3.out.keep hb7)
    have HB_4 := Lib.hid (below_next HB_3.out hb7)
    clear hb7 HK_3 HQ_3 HP_3 H10_3 H13_3 HB_3 
    have k0 := HK_4.out.cell 0
    have k1 := HK_4.out.cell 1
    have k2 := HK_4.out.cell 2
    have k3 := HK_4.out.cell 3
    have kl := HK_4.out.lt
    simp at k0 k1 k2 k3
    go_wp2_with fail
    refine (walk_goal q f0 g s al P np cp p w7 HQ_4.out HP_4.out hp20 HW.out HG.out).mono ?_
    rintro e w8 ⟨X, nx, cx, rfl, hb8⟩
    have HK_5 := Lib.hid (HK_4.out.keep hb8)
    have HQ_5 := Lib.hid (HQ_4.out.keep hb8)
    have HP_5 := Lib.hid (HP_4.out.keep hb8)
    have H10_5 := Lib.hid (H10_4.out.keep hb8)
    have H13_5 := Lib.hid (H13_4.out.keep hb8)
    have HB_5 := Lib.hid (below_next HB_4.out hb8)
    clear hb8 HK_4 HQ_4 HP_4 H10_4 H13_4 HB_4 k0 k1 k2 k3 kl
    go_wp2_with fail
    obtain ⟨w9, hww9⟩ : ∃ z : World, z = w8.alloc (.cells #[.int .i64 0, .int .i64 0] 28) := ⟨_, rfl⟩
    have hbx : Below w8.heap.size w8 w9 := by rw [hww9]; exact below_new _ _
    obtain ⟨b16, hb16⟩ : ∃ z : Nat, w8.heap.size = z := ⟨_, rfl⟩
    have H16_a : Hid (Blk w9 b16 28 #[.int .i64 0, .int .i64 0]) := by rw [hww9, ← hb16]; exact Blk.new _ _ _
    rw [← hww9]
    try rw [hb16]
    clear hww9
    have HK_6 := Lib.hid (HK_5.out.keep hbx)
    have HQ_6 := Lib.hid (HQ_5.out.keep hbx)
    have HP_6 := Lib.hid (HP_5.out.keep hbx)
    have H10_6 := Lib.hid (H10_5.out.keep hbx)
    have H13_6 := Lib.hid (H13_5.out.keep hbx)
    have HB_6 := Lib.hid (below_next HB_5.out hbx)
    clear hbx HK_5 HQ_5 HP_5 H10_5 H13_5 HB_5 
    have H16_6 := H16_a
    clear H16_a
    clear hb16
    refine (picked_any less 4 w9 HLI.out (by omega) (by omega) (n : Int) hni).mono ?_
    rintro e wa ⟨rfl, mq, hmq⟩
    have hbk : Below w9.heap.size w9 wa := by rw [hmq]; exact below_drewN _ _
    clear hmq
    have HK_7 := Lib.hid (HK_6.out.keep hbk)
    have HQ_7 := Lib.hid (HQ_6.out.keep hbk)
    have HP_7 := Lib.hid (HP_6.out.keep hbk)
    have H10_7 := Lib.hid (H10_6.out.keep hbk)
    have H13_7 := Lib.hid (H13_6.out.keep hbk)
    have H16_7 := Lib.hid (H16_6.out.keep hbk)
    have HB_7 := Lib.hid (below_next HB_6.out hbk)
    clear hbk HK_6 HQ_6 HP_6 H10_6 H13_6 H16_6 HB_6 
    have k0 := HK_7.out.cell 0
    have k1 := HK_7.out.cell 1
    have k2 := HK_7.out.cell 2
    have k3 := HK_7.out.cell 3
    have kl := HK_7.out.lt
    simp at k0 k1 k2 k3
    go_wp2_with fail
    refine (steps_any q n HQ_7.out hn).mono ?_
    rintro e wb ⟨CK, nk, ck, rfl, hO, hnk, hbs⟩
    have HO_a := Lib.hid hO
    clear hO
    have HK_8 := Lib.hid (HK_7.out.keep hbs)
    have HQ_8 := Lib.hid (HQ_7.out.keep hbs)
    have HP_8 := Lib.hid (HP_7.out.keep hbs)
    have H10_8 := Lib.hid (H10_7.out.keep hbs)
    have H13_8 := Lib.hid (H13_7.out.keep hbs)
    have H16_8 := Lib.hid (H16_7.out.keep hbs)
    have HB_8 := Lib.hid (below_next HB_7.out hbs)
    clear hbs HK_7 HQ_7 HP_7 H10_7 H13_7 H16_7 HB_7 k0 k1 k2 k3 kl
    have HO_8 := HO_a
    clear HO_a
    obtain ⟨V, hV⟩ : ∃ V : Nat, Hid ((n + 1) * 4 + n * al.length = V) := ⟨_, rfl⟩
    rw [hV.out]
    go_upto_region 14 with fail
    obtain ⟨wc, hwc⟩ : ∃ z : World, z = wb.alloc (.cells #[.int .i64 (V : Int), .slice CK nk ck] 40) := ⟨_, rfl⟩
    obtain ⟨wd, hwd⟩ : ∃ z : World, z = wc.alloc (.cells #[.int .i64 0, .int .i64 0] 28) := ⟨_, rfl⟩
    have hbc : Below wb.heap.size wb wc := by rw [hwc]; exact below_new _ _
    have hbd : Below wc.heap.size wc wd := by rw [hwd]; exact below_new _ _
    have hbw : Below wb.heap.size wb wd := below_next hbc hbd
    obtain ⟨b18, h18⟩ : ∃ z : Nat, wb.heap.size = z := ⟨_, rfl⟩
    obtain ⟨b19, h19⟩ : ∃ z : Nat, wb.heap.size + 1 = z := ⟨_, rfl⟩
    have H18_a : Hid (Blk wd b18 40 #[.int .i64 (V : Int), .slice CK nk ck]) := by
      have h9 : Blk wc wb.heap.size 40 #[.int .i64 (V : Int), .slice CK nk ck] := by rw [hwc]; exact Blk.new _ _ _
      rw [h18] at h9
      exact h9.keep hbd
    have HV2 : Hid (V = (n + 1) * 4 + n * al.length) := hV.out.symm
    rw [← hwc, ← hwd]
    try rw [h18]
    try rw [h19]
    clear hwc hwd hbc hbd h18 h19
    have HK_9 := Lib.hid (HK_8.out.keep hbw)
    have HQ_9 := Lib.hid (HQ_8.out.keep hbw)
    have HP_9 := Lib.hid (HP_8.out.keep hbw)
    have H10_9 := Lib.hid (H10_8.out.keep hbw)
    have H13_9 := Lib.hid (H13_8.out.keep hbw)
    have H16_9 := Lib.hid (H16_8.out.keep hbw)
    have HO_9 := Lib.hid (HO_8.out.keep hbw)
    have HB_9 := Lib.hid (below_next HB_8.out hbw)
    clear hbw HK_8 HQ_8 HP_8 H10_8 H13_8 H16_8 HO_8 HB_8 
    have H18_9 := H18_a
    clear H18_a
    have hstl : (stepsF n al f0 g).length ≤ 200 := by have := HO_9.out.len; omega
    have HBES : Hid (besideR (V : Int) (stepsF n al f0 g) [] = (0, 0)) := by show _ = _; rw [HV2.out]; exact besides hal3 hn hstl
    have HNN : Hid (CK = none → ck = 0) := ownP_nil_ HO_9.out
    go_cut [20, 21] from 90 (fun s20 s21 w9 => ∃ (bA bB : Nat) (st9 : Int) (hb9 : Option Addr) (hn9 hc9 : Nat) (S9 : Option Addr) (ns9 cs9 : Nat) (K9 : Option Addr) (nk9 ck9 : Nat) (used9 : Int), s20 = .pointer (some ⟨bA, 0, none⟩) ∧ s21 = .pointer (some ⟨bB, 0, none⟩) ∧ Hid (Below wd.heap.size wd w9) ∧ Hid (Blk w9 bA 45 #[.int .i64 st9, .slice hb9 hn9 hc9, .slice S9 ns9 cs9, .slice K9 nk9 ck9, .int .i64 used9]) ∧ Hid (Blk w9 bB 28 #[.int .i64 0, .int .i64 0]) ∧ Hid (Answ (V : Int) (stepsF n al f0 g) [] 2000 w9 st9 hb9 hn9 hc9))
    case first =>
      obtain ⟨wz, hwz⟩ : ∃ z : World, z = wd.drew := ⟨_, rfl⟩
      have hbz : Below wd.heap.size wd wz := by rw [hwz]; exact below_drewN _ 1
      have hzd := Lib.hid hbz
      have HOz := Lib.hid (HO_9.out.keep hbz)
      have H18z := Lib.hid (H18_9.out.keep hbz)
      have kz0 := H18z.out.cell 0
      have kz1 := H18z.out.cell 1
      have kz4 := H18z.out.lt
      simp at kz0 kz1
      have hS : wz.cell? ⟨b18, 0, none⟩ = some (.int .i64 (V : Int)) ∧ wz.cell? ⟨b18, 1, none⟩ = some (.slice CK nk ck) := ⟨kz0, kz1⟩
      have HZ0 := Lib.hid (Below.refl wz.heap.size wz)
      have HLL : Hid (∀ a, CK = some a → a.block < wz.heap.size) := ownP_lt_ HOz.out
      clear hbz
      refine wp_region_tail (fun w' => w'.cell? ⟨b18, 0, none⟩ = some (.int .i64 (V : Int)) ∧ w'.cell? ⟨b18, 1, none⟩ = some (.slice CK nk ck)) [9, 10] (by kernel_rfl) ?_
      change wpAnyT _ _ _ _ _ _ _ _ _ wd.drew
      rw [← hwz]
      clear hwz
      refine takeS (i := 0) (oi := _) (v := ?_) rfl (by kernel_rfl) (by kernel_rfl) (by kernel_rfl) (fun _ _ _ h => h) rfl (by kernel_rfl) (by kernel_rfl) (Or.inl ⟨by rfl, ?_⟩) hS ?_
      rotate_left
      · intro w0 hSw; (try dsimp only at hSw); go_simp; with_reducible rfl
      (try simp only [Act.put, List.setIfInBounds_toArray, List.set_cons_zero, List.set_cons_succ])
      refine take0 (i := 1) (oi := _) (v := ?_) rfl (by kernel_rfl) (by kernel_rfl) (by kernel_rfl) (fun _ _ _ h => h) rfl (Or.inl ⟨by rfl, ?_⟩) (fun _ => hS) ?_
      rotate_left
      · intro w0; go_simp; with_reducible rfl
      (try simp only [Act.put, List.setIfInBounds_toArray, List.set_cons_zero, List.set_cons_succ])
      refine threeT_ (i := 2) (j := 7) (k := 8) (by kernel_rfl) rfl (by rfl) rfl (by rfl) rfl (by rfl) (fun K hK => ?_) (fun K hK => ?_) (fun K hK => ?_)
      · go_simp
        refine (optionsOf_any o wz HOP.out).mono ?_
        rintro e v1_ ⟨so, ro, ko, po, rfl, hs1, hs2, hs3, hs4, bw1⟩
        have HZ1 := Lib.hid (below_next HZ0.out bw1)
        have hS : v1_.cell? ⟨b18, 0, none⟩ = some (.int .i64 (V : Int)) ∧ v1_.cell? ⟨b18, 1, none⟩ = some (.slice CK nk ck) := ⟨keepBox HZ1.out kz0, keepBox HZ1.out kz1⟩
        clear bw1
        refine hK _ _ (fun _ => hS) ?_
        clear hK
        (try simp only [Act.put, List.setIfInBounds_toArray, List.set_cons_zero, List.set_cons_succ])
        refine threeT_ (i := 3) (j := 7) (k := 8) (by kernel_rfl) rfl (by rfl) rfl (by rfl) rfl (by rfl) (fun K hK => ?_) (fun K hK => ?_) (fun K hK => ?_)
        · go_simp
          have hlw := HZ1.out.size
          refine (cdcl_any CK none nk ck 0 0 (stepsF n al f0 g) [] (V : Int) v1_ (HOz.out.grid.keep HZ1.out) HNN.out (fun a ha => Nat.lt_of_lt_of_le (HLL.out a ha) hlw) ⟨Sl_nilT v1_, by simp⟩ HBES.out so ro ko po hs1 hs2 hs3 hs4 2000 (Nat.le_refl _) core_none).mono ?_
          rintro e v2_ ⟨st9, hb9, hn9, hc9, S9, ns9, cs9, K9, nk9, ck9, used9, rfl, bw2, ha9⟩
          have AN2 := Lib.hid ha9
          clear ha9 hlw
          have HZ2 := Lib.hid (below_next HZ1.out bw2)
          have hS : v2_.cell? ⟨b18, 0, none⟩ = some (.int .i64 (V : Int)) ∧ v2_.cell? ⟨b18, 1, none⟩ = some (.slice CK nk ck) := ⟨keepBox HZ2.out kz0, keepBox HZ2.out kz1⟩
          clear bw2
          refine hK _ _ (fun _ => hS) ?_
          clear hK
          (try simp only [Act.put, List.setIfInBounds_toArray, List.set_cons_zero, List.set_cons_succ])
          refine take0 (i := 4) (oi := _) (v := ?_) rfl (by kernel_rfl) (by kernel_rfl) (by kernel_rfl) (fun _ _ _ h => h) rfl (Or.inl ⟨by rfl, ?_⟩) (fun _ => hS) ?_
          rotate_left
          · intro w0; go_simp; with_reducible rfl
          (try simp only [Act.put, List.setIfInBounds_toArray, List.set_cons_zero, List.set_cons_succ])
          refine take0 (i := 5) (oi := _) (v := ?_) rfl (by kernel_rfl) (by kernel_rfl) (by kernel_rfl) (fun _ _ _ h => h) rfl (Or.inl ⟨by rfl, ?_⟩) (fun _ => hS) ?_
          rotate_left
          · intro w0; go_simp; with_reducible rfl
          (try simp only [Act.put, List.setIfInBounds_toArray, List.set_cons_zero, List.set_cons_succ])
          refine take0 (i := 6) (oi := _) (v := ?_) rfl (by kernel_rfl) (by kernel_rfl) (by kernel_rfl) (fun _ _ _ h => h) rfl (Or.inl ⟨by rfl, ?_⟩) (fun _ => hS) ?_
          rotate_left
          · intro w0; go_simp; with_reducible rfl
          (try simp only [Act.put, List.setIfInBounds_toArray, List.set_cons_zero, List.set_cons_succ])
          refine twoT (i := 7) (j := 8) (by kernel_rfl) rfl (by rfl) rfl (by rfl) (fun K hK => ?_) (fun K hK => ?_)
          · go_simp
            obtain ⟨v3_, h3⟩ : ∃ z : World, z = v2_.alloc (.cells #[.int .i64 0, .slice none 0 0, .slice none 0 0, .slice none 0 0, .int .i64 0] 45) := ⟨_, rfl⟩
            have bw3 : Below v2_.heap.size v2_ v3_ := by rw [h3]; exact below_new _ _
            have KA3 : Hid (Blk v3_ v2_.heap.size 45 #[.int .i64 0, .slice none 0 0, .slice none 0 0, .slice none 0 0, .int .i64 0]) := by rw [h3]; exact Blk.new _ _ _
            rw [← h3]
            obtain ⟨bA, hbA⟩ : ∃ z : Nat, v2_.heap.size = z := ⟨_, rfl⟩
            have hg3 : wz.heap.size ≤ bA := by rw [← hbA]; exact HZ2.out.size
            rw [hbA] at KA3 ⊢
            have AN3 := Lib.hid (answ_keep AN2.out bw3)
            have HZ3 := Lib.hid (below_next HZ2.out bw3)
            have hS : v3_.cell? ⟨b18, 0, none⟩ = some (.int .i64 (V : Int)) ∧ v3_.cell? ⟨b18, 1, none⟩ = some (.slice CK nk ck) := ⟨keepBox HZ3.out kz0, keepBox HZ3.out kz1⟩
            clear h3 hbA
            clear bw3
            refine hK _ _ (fun _ => hS) ?_
            clear hK
            (try simp only [Act.put, List.setIfInBounds_toArray, List.set_cons_zero, List.set_cons_succ])
            refine oneT (i := 8) (by kernel_rfl) rfl (by rfl) (fun K hK => ?_)
            go_simp
            obtain ⟨v4_, h4⟩ : ∃ z : World, z = v3_.alloc (.cells #[.int .i64 0, .int .i64 0] 28) := ⟨_, rfl⟩
            have bw4 : Below v3_.heap.size v3_ v4_ := by rw [h4]; exact below_new _ _
            have KB4 : Hid (Blk v4_ v3_.heap.size 28 #[.int .i64 0, .int .i64 0]) := by rw [h4]; exact Blk.new _ _ _
            rw [← h4]
            obtain ⟨bB, hbB⟩ : ∃ z : Nat, v3_.heap.size = z := ⟨_, rfl⟩
            have hg4 : wz.heap.size ≤ bB := by rw [← hbB]; exact HZ3.out.size
            rw [hbB] at KB4 ⊢
            have hne : bA ≠ bB := by have := KA3.out.lt; omega
            have KA4 := Lib.hid (KA3.out.keep bw4)
            have AN4 := Lib.hid (answ_keep AN3.out bw4)
            have HZ4 := Lib.hid (below_next HZ3.out bw4)
            have hS : v4_.cell? ⟨b18, 0, none⟩ = some (.int .i64 (V : Int)) ∧ v4_.cell? ⟨b18, 1, none⟩ = some (.slice CK nk ck) := ⟨keepBox HZ4.out kz0, keepBox HZ4.out kz1⟩
            clear h4 hbB
            clear bw4
            refine hK _ _ (fun _ => hS) ?_
            clear hK
            (try simp only [Act.put, List.setIfInBounds_toArray, List.set_cons_zero, List.set_cons_succ])
            refine oneT (i := 9) (by kernel_rfl) rfl (by rfl) (fun K hK => ?_)
            have e0 := KA4.out.cell 0
            have e1 := KA4.out.cell 1
            have e2 := KA4.out.cell 2
            have e3 := KA4.out.cell 3
            have e4 := KA4.out.cell 4
            have f0 := KA4.out.frozen 0
            have f1 := KA4.out.frozen 1
            have f2 := KA4.out.frozen 2
            have f3 := KA4.out.frozen 3
            have f4 := KA4.out.frozen 4
            simp at e0 e1 e2 e3 e4
            have le := KA4.out.lt
            have pp := put5 KA4.out KB4.out hne HZ4.out hg3 (.int .i64 st9) (.slice hb9 hn9 hc9) (.slice S9 ns9 cs9) (.slice K9 nk9 ck9) (.int .i64 used9)
            have pa := answ5 AN4.out KA4.out st9 used9 hb9 S9 K9 hn9 hc9 ns9 cs9 nk9 ck9
            go_simp
            clear e0 e1 e2 e3 e4 f0 f1 f2 f3 f4 le
            refine hK _ _ (noT_no (by kernel_rfl)) ?_
            clear hK
            (try simp only [Act.put, List.setIfInBounds_toArray, List.set_cons_zero, List.set_cons_succ])
            obtain ⟨v5, hv5⟩ : ∃ z : World, z = (((((v4_.setCell ⟨bA, 0, none⟩ (.int .i64 st9)).setCell ⟨bA, 1, none⟩ (.slice hb9 hn9 hc9)).setCell ⟨bA, 2, none⟩ (.slice S9 ns9 cs9)).setCell ⟨bA, 3, none⟩ (.slice K9 nk9 ck9)).setCell ⟨bA, 4, none⟩ (.int .i64 used9)) := ⟨_, rfl⟩
            obtain ⟨p1, p2, p3⟩ := pp
            rw [← hv5] at p1 p2 p3 pa ⊢
            have P1 := Lib.hid p1
            have P2 := Lib.hid p2
            have P3 := Lib.hid p3
            have PA := Lib.hid pa
            clear hv5 p1 p2 p3 pa
            refine oneT (i := 10) (by kernel_rfl) rfl (by rfl) (fun K hK => ?_)
            have e0 := P2.out.cell 0
            have e1 := P2.out.cell 1
            have f0 := P2.out.frozen 0
            have f1 := P2.out.frozen 1
            simp at e0 e1
            have le := P2.out.lt
            have pq := put2_ P1.out P2.out hne P3.out hg4
            have pb := answ2 PA.out P2.out
            go_simp
            clear e0 e1 f0 f1 le
            refine hK _ _ (noT_no (by kernel_rfl)) ?_
            clear hK
            (try simp only [Act.put, List.setIfInBounds_toArray, List.set_cons_zero, List.set_cons_succ])
            obtain ⟨v6, hv6⟩ : ∃ z : World, z = ((v5.setCell ⟨bB, 0, none⟩ (.int .i64 0)).setCell ⟨bB, 1, none⟩ (.int .i64 0)) := ⟨_, rfl⟩
            obtain ⟨p1, p2, p3⟩ := pq
            rw [← hv6] at p1 p2 p3 pb ⊢
            have Q1 := Lib.hid p1
            have Q2 := Lib.hid p2
            have Q3 := Lib.hid (below_next hzd.out p3)
            have QA := Lib.hid pb
            clear hv6 p1 p2 p3 pb P1 P2 P3 PA
            refine doneT (by kernel_rfl) ?_ _
            try go_wp2_with fail
            go_meet
            case rel => exact ⟨bA, bB, st9, hb9, hn9, hc9, S9, ns9, cs9, K9, nk9, ck9, used9, rfl, rfl, Q3, Q1, Q2, QA⟩
          · go_simp
            obtain ⟨v5_, h5⟩ : ∃ z : World, z = v2_.alloc (.cells #[.int .i64 0, .int .i64 0] 28) := ⟨_, rfl⟩
            have bw5 : Below v2_.heap.size v2_ v5_ := by rw [h5]; exact below_new _ _
            have KB5 : Hid (Blk v5_ v2_.heap.size 28 #[.int .i64 0, .int .i64 0]) := by rw [h5]; exact Blk.new _ _ _
            rw [← h5]
            obtain ⟨bB, hbB⟩ : ∃ z : Nat, v2_.heap.size = z := ⟨_, rfl⟩
            have hg5 : wz.heap.size ≤ bB := by rw [← hbB]; exact HZ2.out.size
            rw [hbB] at KB5 ⊢
            have AN5 := Lib.hid (answ_keep AN2.out bw5)
            have HZ5 := Lib.hid (below_next HZ2.out bw5)
            have hS : v5_.cell? ⟨b18, 0, none⟩ = some (.int .i64 (V : Int)) ∧ v5_.cell? ⟨b18, 1, none⟩ = some (.slice CK nk ck) := ⟨keepBox HZ5.out kz0, keepBox HZ5.out kz1⟩
            clear h5 hbB
            clear bw5
            refine hK _ _ (fun _ => hS) ?_
            clear hK
            (try simp only [Act.put, List.setIfInBounds_toArray, List.set_cons_zero, List.set_cons_succ])
            refine oneT (i := 7) (by kernel_rfl) rfl (by rfl) (fun K hK => ?_)
            go_simp
            obtain ⟨v6_, h6⟩ : ∃ z : World, z = v5_.alloc (.cells #[.int .i64 0, .slice none 0 0, .slice none 0 0, .slice none 0 0, .int .i64 0] 45) := ⟨_, rfl⟩
            have bw6 : Below v5_.heap.size v5_ v6_ := by rw [h6]; exact below_new _ _
            have KA6 : Hid (Blk v6_ v5_.heap.size 45 #[.int .i64 0, .slice none 0 0, .slice none 0 0, .slice none 0 0, .int .i64 0]) := by rw [h6]; exact Blk.new _ _ _
            rw [← h6]
            obtain ⟨bA, hbA⟩ : ∃ z : Nat, v5_.heap.size = z := ⟨_, rfl⟩
            have hg6 : wz.heap.size ≤ bA := by rw [← hbA]; exact HZ5.out.size
            rw [hbA] at KA6 ⊢
            have hne : bA ≠ bB := by have := KB5.out.lt; omega
            have KB6 := Lib.hid (KB5.out.keep bw6)
            have AN6 := Lib.hid (answ_keep AN5.out bw6)
            have HZ6 := Lib.hid (below_next HZ5.out bw6)
            have hS : v6_.cell? ⟨b18, 0, none⟩ = some (.int .i64 (V : Int)) ∧ v6_.cell? ⟨b18, 1, none⟩ = some (.slice CK nk ck) := ⟨keepBox HZ6.out kz0, keepBox HZ6.out kz1⟩
            clear h6 hbA
            clear bw6
            refine hK _ _ (fun _ => hS) ?_
            clear hK
            (try simp only [Act.put, List.setIfInBounds_toArray, List.set_cons_zero, List.set_cons_succ])
            refine oneT (i := 9) (by kernel_rfl) rfl (by rfl) (fun K hK => ?_)
            have e0 := KA6.out.cell 0
            have e1 := KA6.out.cell 1
            have e2 := KA6.out.cell 2
            have e3 := KA6.out.cell 3
            have e4 := KA6.out.cell 4
            have f0 := KA6.out.frozen 0
            have f1 := KA6.out.frozen 1
            have f2 := KA6.out.frozen 2
            have f3 := KA6.out.frozen 3
            have f4 := KA6.out.frozen 4
            simp at e0 e1 e2 e3 e4
            have le := KA6.out.lt
            have pp := put5 KA6.out KB6.out hne HZ6.out hg6 (.int .i64 st9) (.slice hb9 hn9 hc9) (.slice S9 ns9 cs9) (.slice K9 nk9 ck9) (.int .i64 used9)
            have pa := answ5 AN6.out KA6.out st9 used9 hb9 S9 K9 hn9 hc9 ns9 cs9 nk9 ck9
            go_simp
            clear e0 e1 e2 e3 e4 f0 f1 f2 f3 f4 le
            refine hK _ _ (noT_no (by kernel_rfl)) ?_
            clear hK
            (try simp only [Act.put, List.setIfInBounds_toArray, List.set_cons_zero, List.set_cons_succ])
            obtain ⟨v5, hv5⟩ : ∃ z : World, z = (((((v6_.setCell ⟨bA, 0, none⟩ (.int .i64 st9)).setCell ⟨bA, 1, none⟩ (.slice hb9 hn9 hc9)).setCell ⟨bA, 2, none⟩ (.slice S9 ns9 cs9)).setCell ⟨bA, 3, none⟩ (.slice K9 nk9 ck9)).setCell ⟨bA, 4, none⟩ (.int .i64 used9)) := ⟨_, rfl⟩
            obtain ⟨p1, p2, p3⟩ := pp
            rw [← hv5] at p1 p2 p3 pa ⊢
            have P1 := Lib.hid p1
            have P2 := Lib.hid p2
            have P3 := Lib.hid p3
            have PA := Lib.hid pa
            clear hv5 p1 p2 p3 pa
            refine oneT (i := 10) (by kernel_rfl) rfl (by rfl) (fun K hK => ?_)
            have e0 := P2.out.cell 0
            have e1 := P2.out.cell 1
            have f0 := P2.out.frozen 0
            have f1 := P2.out.frozen 1
            simp at e0 e1
            have le := P2.out.lt
            have pq := put2_ P1.out P2.out hne P3.out hg5
            have pb := answ2 PA.out P2.out
            go_simp
            clear e0 e1 f0 f1 le
            refine hK _ _ (noT_no (by kernel_rfl)) ?_
            clear hK
            (try simp only [Act.put, List.setIfInBounds_toArray, List.set_cons_zero, List.set_cons_succ])
            obtain ⟨v6, hv6⟩ : ∃ z : World, z = ((v5.setCell ⟨bB, 0, none⟩ (.int .i64 0)).setCell ⟨bB, 1, none⟩ (.int .i64 0)) := ⟨_, rfl⟩
            obtain ⟨p1, p2, p3⟩ := pq
            rw [← hv6] at p1 p2 p3 pb ⊢
            have Q1 := Lib.hid p1
            have Q2 := Lib.hid p2
            have Q3 := Lib.hid (below_next hzd.out p3)
            have QA := Lib.hid pb
            clear hv6 p1 p2 p3 pb P1 P2 P3 PA
            refine doneT (by kernel_rfl) ?_ _
            try go_wp2_with fail
            go_meet
            case rel => exact ⟨bA, bB, st9, hb9, hn9, hc9, S9, ns9, cs9, K9, nk9, ck9, used9, rfl, rfl, Q3, Q1, Q2, QA⟩
        · go_simp
          obtain ⟨v7_, h7⟩ : ∃ z : World, z = v1_.alloc (.cells #[.int .i64 0, .slice none 0 0, .slice none 0 0, .slice none 0 0, .int .i64 0] 45) := ⟨_, rfl⟩
          have bw7 : Below v1_.heap.size v1_ v7_ := by rw [h7]; exact below_new _ _
          have KA7 : Hid (Blk v7_ v1_.heap.size 45 #[.int .i64 0, .slice none 0 0, .slice none 0 0, .slice none 0 0, .int .i64 0]) := by rw [h7]; exact Blk.new _ _ _
          rw [← h7]
          obtain ⟨bA, hbA⟩ : ∃ z : Nat, v1_.heap.size = z := ⟨_, rfl⟩
          have hg7 : wz.heap.size ≤ bA := by rw [← hbA]; exact HZ1.out.size
          rw [hbA] at KA7 ⊢
          have HZ7 := Lib.hid (below_next HZ1.out bw7)
          have hS : v7_.cell? ⟨b18, 0, none⟩ = some (.int .i64 (V : Int)) ∧ v7_.cell? ⟨b18, 1, none⟩ = some (.slice CK nk ck) := ⟨keepBox HZ7.out kz0, keepBox HZ7.out kz1⟩
          clear h7 hbA
          clear bw7
          refine hK _ _ (fun _ => hS) ?_
          clear hK
          (try simp only [Act.put, List.setIfInBounds_toArray, List.set_cons_zero, List.set_cons_succ])
          refine twoT (i := 3) (j := 8) (by kernel_rfl) rfl (by rfl) rfl (by rfl) (fun K hK => ?_) (fun K hK => ?_)
          · go_simp
            have hlw := HZ7.out.size
            refine (cdcl_any CK none nk ck 0 0 (stepsF n al f0 g) [] (V : Int) v7_ (HOz.out.grid.keep HZ7.out) HNN.out (fun a ha => Nat.lt_of_lt_of_le (HLL.out a ha) hlw) ⟨Sl_nilT v7_, by simp⟩ HBES.out so ro ko po hs1 hs2 hs3 hs4 2000 (Nat.le_refl _) core_none).mono ?_
            rintro e v8_ ⟨st9, hb9, hn9, hc9, S9, ns9, cs9, K9, nk9, ck9, used9, rfl, bw8, ha9⟩
            have AN8 := Lib.hid ha9
            clear ha9 hlw
            have KA8 := Lib.hid (KA7.out.keep bw8)
            have HZ8 := Lib.hid (below_next HZ7.out bw8)
            have hS : v8_.cell? ⟨b18, 0, none⟩ = some (.int .i64 (V : Int)) ∧ v8_.cell? ⟨b18, 1, none⟩ = some (.slice CK nk ck) := ⟨keepBox HZ8.out kz0, keepBox HZ8.out kz1⟩
            clear bw8
            refine hK _ _ (fun _ => hS) ?_
            clear hK
            (try simp only [Act.put, List.setIfInBounds_toArray, List.set_cons_zero, List.set_cons_succ])
            refine take0 (i := 4) (oi := _) (v := ?_) rfl (by kernel_rfl) (by kernel_rfl) (by kernel_rfl) (fun _ _ _ h => h) rfl (Or.inl ⟨by rfl, ?_⟩) (fun _ => hS) ?_
            rotate_left
            · intro w0; go_simp; with_reducible rfl
            (try simp only [Act.put, List.setIfInBounds_toArray, List.set_cons_zero, List.set_cons_succ])
            refine take0 (i := 5) (oi := _) (v := ?_) rfl (by kernel_rfl) (by kernel_rfl) (by kernel_rfl) (fun _ _ _ h => h) rfl (Or.inl ⟨by rfl, ?_⟩) (fun _ => hS) ?_
            rotate_left
            · intro w0; go_simp; with_reducible rfl
            (try simp only [Act.put, List.setIfInBounds_toArray, List.set_cons_zero, List.set_cons_succ])
            refine take0 (i := 6) (oi := _) (v := ?_) rfl (by kernel_rfl) (by kernel_rfl) (by kernel_rfl) (fun _ _ _ h => h) rfl (Or.inl ⟨by rfl, ?_⟩) (fun _ => hS) ?_
            rotate_left
            · intro w0; go_simp; with_reducible rfl
            (try simp only [Act.put, List.setIfInBounds_toArray, List.set_cons_zero, List.set_cons_succ])
            refine oneT (i := 8) (by kernel_rfl) rfl (by rfl) (fun K hK => ?_)
            go_simp
            obtain ⟨v9_, h9⟩ : ∃ z : World, z = v8_.alloc (.cells #[.int .i64 0, .int .i64 0] 28) := ⟨_, rfl⟩
            have bw9 : Below v8_.heap.size v8_ v9_ := by rw [h9]; exact below_new _ _
            have KB9 : Hid (Blk v9_ v8_.heap.size 28 #[.int .i64 0, .int .i64 0]) := by rw [h9]; exact Blk.new _ _ _
            rw [← h9]
            obtain ⟨bB, hbB⟩ : ∃ z : Nat, v8_.heap.size = z := ⟨_, rfl⟩
            have hg9 : wz.heap.size ≤ bB := by rw [← hbB]; exact HZ8.out.size
            rw [hbB] at KB9 ⊢
            have hne : bA ≠ bB := by have := KA8.out.lt; omega
            have KA9 := Lib.hid (KA8.out.keep bw9)
            have AN9 := Lib.hid (answ_keep AN8.out bw9)
            have HZ9 := Lib.hid (below_next HZ8.out bw9)
            have hS : v9_.cell? ⟨b18, 0, none⟩ = some (.int .i64 (V : Int)) ∧ v9_.cell? ⟨b18, 1, none⟩ = some (.slice CK nk ck) := ⟨keepBox HZ9.out kz0, keepBox HZ9.out kz1⟩
            clear h9 hbB
            clear bw9
            refine hK _ _ (fun _ => hS) ?_
            clear hK
            (try simp only [Act.put, List.setIfInBounds_toArray, List.set_cons_zero, List.set_cons_succ])
            refine oneT (i := 9) (by kernel_rfl) rfl (by rfl) (fun K hK => ?_)
            have e0 := KA9.out.cell 0
            have e1 := KA9.out.cell 1
            have e2 := KA9.out.cell 2
            have e3 := KA9.out.cell 3
            have e4 := KA9.out.cell 4
            have f0 := KA9.out.frozen 0
            have f1 := KA9.out.frozen 1
            have f2 := KA9.out.frozen 2
            have f3 := KA9.out.frozen 3
            have f4 := KA9.out.frozen 4
            simp at e0 e1 e2 e3 e4
            have le := KA9.out.lt
            have pp := put5 KA9.out KB9.out hne HZ9.out hg7 (.int .i64 st9) (.slice hb9 hn9 hc9) (.slice S9 ns9 cs9) (.slice K9 nk9 ck9) (.int .i64 used9)
            have pa := answ5 AN9.out KA9.out st9 used9 hb9 S9 K9 hn9 hc9 ns9 cs9 nk9 ck9
            go_simp
            clear e0 e1 e2 e3 e4 f0 f1 f2 f3 f4 le
            refine hK _ _ (noT_no (by kernel_rfl)) ?_
            clear hK
            (try simp only [Act.put, List.setIfInBounds_toArray, List.set_cons_zero, List.set_cons_succ])
            obtain ⟨v5, hv5⟩ : ∃ z : World, z = (((((v9_.setCell ⟨bA, 0, none⟩ (.int .i64 st9)).setCell ⟨bA, 1, none⟩ (.slice hb9 hn9 hc9)).setCell ⟨bA, 2, none⟩ (.slice S9 ns9 cs9)).setCell ⟨bA, 3, none⟩ (.slice K9 nk9 ck9)).setCell ⟨bA, 4, none⟩ (.int .i64 used9)) := ⟨_, rfl⟩
            obtain ⟨p1, p2, p3⟩ := pp
            rw [← hv5] at p1 p2 p3 pa ⊢
            have P1 := Lib.hid p1
            have P2 := Lib.hid p2
            have P3 := Lib.hid p3
            have PA := Lib.hid pa
            clear hv5 p1 p2 p3 pa
            refine oneT (i := 10) (by kernel_rfl) rfl (by rfl) (fun K hK => ?_)
            have e0 := P2.out.cell 0
            have e1 := P2.out.cell 1
            have f0 := P2.out.frozen 0
            have f1 := P2.out.frozen 1
            simp at e0 e1
            have le := P2.out.lt
            have pq := put2_ P1.out P2.out hne P3.out hg9
            have pb := answ2 PA.out P2.out
            go_simp
            clear e0 e1 f0 f1 le
            refine hK _ _ (noT_no (by kernel_rfl)) ?_
            clear hK
            (try simp only [Act.put, List.setIfInBounds_toArray, List.set_cons_zero, List.set_cons_succ])
            obtain ⟨v6, hv6⟩ : ∃ z : World, z = ((v5.setCell ⟨bB, 0, none⟩ (.int .i64 0)).setCell ⟨bB, 1, none⟩ (.int .i64 0)) := ⟨_, rfl⟩
            obtain ⟨p1, p2, p3⟩ := pq
            rw [← hv6] at p1 p2 p3 pb ⊢
            have Q1 := Lib.hid p1
            have Q2 := Lib.hid p2
            have Q3 := Lib.hid (below_next hzd.out p3)
            have QA := Lib.hid pb
            clear hv6 p1 p2 p3 pb P1 P2 P3 PA
            refine doneT (by kernel_rfl) ?_ _
            try go_wp2_with fail
            go_meet
            case rel => exact ⟨bA, bB, st9, hb9, hn9, hc9, S9, ns9, cs9, K9, nk9, ck9, used9, rfl, rfl, Q3, Q1, Q2, QA⟩
          · go_simp
            obtain ⟨v10_, h10⟩ : ∃ z : World, z = v7_.alloc (.cells #[.int .i64 0, .int .i64 0] 28) := ⟨_, rfl⟩
            have bw10 : Below v7_.heap.size v7_ v10_ := by rw [h10]; exact below_new _ _
            have KB10 : Hid (Blk v10_ v7_.heap.size 28 #[.int .i64 0, .int .i64 0]) := by rw [h10]; exact Blk.new _ _ _
            rw [← h10]
            obtain ⟨bB, hbB⟩ : ∃ z : Nat, v7_.heap.size = z := ⟨_, rfl⟩
            have hg10 : wz.heap.size ≤ bB := by rw [← hbB]; exact HZ7.out.size
            rw [hbB] at KB10 ⊢
            have hne : bA ≠ bB := by have := KA7.out.lt; omega
            have KA10 := Lib.hid (KA7.out.keep bw10)
            have HZ10 := Lib.hid (below_next HZ7.out bw10)
            have hS : v10_.cell? ⟨b18, 0, none⟩ = some (.int .i64 (V : Int)) ∧ v10_.cell? ⟨b18, 1, none⟩ = some (.slice CK nk ck) := ⟨keepBox HZ10.out kz0, keepBox HZ10.out kz1⟩
            clear h10 hbB
            clear bw10
            refine hK _ _ (fun _ => hS) ?_
            clear hK
            (try simp only [Act.put, List.setIfInBounds_toArray, List.set_cons_zero, List.set_cons_succ])
            refine oneT (i := 3) (by kernel_rfl) rfl (by rfl) (fun K hK => ?_)
            go_simp
            have hlw := HZ10.out.size
            refine (cdcl_any CK none nk ck 0 0 (stepsF n al f0 g) [] (V : Int) v10_ (HOz.out.grid.keep HZ10.out) HNN.out (fun a ha => Nat.lt_of_lt_of_le (HLL.out a ha) hlw) ⟨Sl_nilT v10_, by simp⟩ HBES.out so ro ko po hs1 hs2 hs3 hs4 2000 (Nat.le_refl _) core_none).mono ?_
            rintro e v11_ ⟨st9, hb9, hn9, hc9, S9, ns9, cs9, K9, nk9, ck9, used9, rfl, bw11, ha9⟩
            have AN11 := Lib.hid ha9
            clear ha9 hlw
            have KA11 := Lib.hid (KA10.out.keep bw11)
            have KB11 := Lib.hid (KB10.out.keep bw11)
            have HZ11 := Lib.hid (below_next HZ10.out bw11)
            have hS : v11_.cell? ⟨b18, 0, none⟩ = some (.int .i64 (V : Int)) ∧ v11_.cell? ⟨b18, 1, none⟩ = some (.slice CK nk ck) := ⟨keepBox HZ11.out kz0, keepBox HZ11.out kz1⟩
            clear bw11
            refine hK _ _ (fun _ => hS) ?_
            clear hK
            (try simp only [Act.put, List.setIfInBounds_toArray, List.set_cons_zero, List.set_cons_succ])
            refine take0 (i := 4) (oi := _) (v := ?_) rfl (by kernel_rfl) (by kernel_rfl) (by kernel_rfl) (fun _ _ _ h => h) rfl (Or.inl ⟨by rfl, ?_⟩) (fun _ => hS) ?_
            rotate_left
            · intro w0; go_simp; with_reducible rfl
            (try simp only [Act.put, List.setIfInBounds_toArray, List.set_cons_zero, List.set_cons_succ])
            refine take0 (i := 5) (oi := _) (v := ?_) rfl (by kernel_rfl) (by kernel_rfl) (by kernel_rfl) (fun _ _ _ h => h) rfl (Or.inl ⟨by rfl, ?_⟩) (fun _ => hS) ?_
            rotate_left
            · intro w0; go_simp; with_reducible rfl
            (try simp only [Act.put, List.setIfInBounds_toArray, List.set_cons_zero, List.set_cons_succ])
            refine take0 (i := 6) (oi := _) (v := ?_) rfl (by kernel_rfl) (by kernel_rfl) (by kernel_rfl) (fun _ _ _ h => h) rfl (Or.inl ⟨by rfl, ?_⟩) (fun _ => hS) ?_
            rotate_left
            · intro w0; go_simp; with_reducible rfl
            (try simp only [Act.put, List.setIfInBounds_toArray, List.set_cons_zero, List.set_cons_succ])
            refine oneT (i := 9) (by kernel_rfl) rfl (by rfl) (fun K hK => ?_)
            have e0 := KA11.out.cell 0
            have e1 := KA11.out.cell 1
            have e2 := KA11.out.cell 2
            have e3 := KA11.out.cell 3
            have e4 := KA11.out.cell 4
            have f0 := KA11.out.frozen 0
            have f1 := KA11.out.frozen 1
            have f2 := KA11.out.frozen 2
            have f3 := KA11.out.frozen 3
            have f4 := KA11.out.frozen 4
            simp at e0 e1 e2 e3 e4
            have le := KA11.out.lt
            have pp := put5 KA11.out KB11.out hne HZ11.out hg7 (.int .i64 st9) (.slice hb9 hn9 hc9) (.slice S9 ns9 cs9) (.slice K9 nk9 ck9) (.int .i64 used9)
            have pa := answ5 AN11.out KA11.out st9 used9 hb9 S9 K9 hn9 hc9 ns9 cs9 nk9 ck9
            go_simp
            clear e0 e1 e2 e3 e4 f0 f1 f2 f3 f4 le
            refine hK _ _ (noT_no (by kernel_rfl)) ?_
            clear hK
            (try simp only [Act.put, List.setIfInBounds_toArray, List.set_cons_zero, List.set_cons_succ])
            obtain ⟨v5, hv5⟩ : ∃ z : World, z = (((((v11_.setCell ⟨bA, 0, none⟩ (.int .i64 st9)).setCell ⟨bA, 1, none⟩ (.slice hb9 hn9 hc9)).setCell ⟨bA, 2, none⟩ (.slice S9 ns9 cs9)).setCell ⟨bA, 3, none⟩ (.slice K9 nk9 ck9)).setCell ⟨bA, 4, none⟩ (.int .i64 used9)) := ⟨_, rfl⟩
            obtain ⟨p1, p2, p3⟩ := pp
            rw [← hv5] at p1 p2 p3 pa ⊢
            have P1 := Lib.hid p1
            have P2 := Lib.hid p2
            have P3 := Lib.hid p3
            have PA := Lib.hid pa
            clear hv5 p1 p2 p3 pa
            refine oneT (i := 10) (by kernel_rfl) rfl (by rfl) (fun K hK => ?_)
            have e0 := P2.out.cell 0
            have e1 := P2.out.cell 1
            have f0 := P2.out.frozen 0
            have f1 := P2.out.frozen 1
            simp at e0 e1
            have le := P2.out.lt
            have pq := put2_ P1.out P2.out hne P3.out hg10
            have pb := answ2 PA.out P2.out
            go_simp
            clear e0 e1 f0 f1 le
            refine hK _ _ (noT_no (by kernel_rfl)) ?_
            clear hK
            (try simp only [Act.put, List.setIfInBounds_toArray, List.set_cons_zero, List.set_cons_succ])
            obtain ⟨v6, hv6⟩ : ∃ z : World, z = ((v5.setCell ⟨bB, 0, none⟩ (.int .i64 0)).setCell ⟨bB, 1, none⟩ (.int .i64 0)) := ⟨_, rfl⟩
            obtain ⟨p1, p2, p3⟩ := pq
            rw [← hv6] at p1 p2 p3 pb ⊢
            have Q1 := Lib.hid p1
            have Q2 := Lib.hid p2
            have Q3 := Lib.hid (below_next hzd.out p3)
            have QA := Lib.hid pb
            clear hv6 p1 p2 p3 pb P1 P2 P3 PA
            refine doneT (by kernel_rfl) ?_ _
            try go_wp2_with fail
            go_meet
            case rel => exact ⟨bA, bB, st9, hb9, hn9, hc9, S9, ns9, cs9, K9, nk9, ck9, used9, rfl, rfl, Q3, Q1, Q2, QA⟩
        · go_simp
          obtain ⟨v12_, h12⟩ : ∃ z : World, z = v1_.alloc (.cells #[.int .i64 0, .int .i64 0] 28) := ⟨_, rfl⟩
          have bw12 : Below v1_.heap.size v1_ v12_ := by rw [h12]; exact below_new _ _
          have KB12 : Hid (Blk v12_ v1_.heap.size 28 #[.int .i64 0, .int .i64 0]) := by rw [h12]; exact Blk.new _ _ _
          rw [← h12]
          obtain ⟨bB, hbB⟩ : ∃ z : Nat, v1_.heap.size = z := ⟨_, rfl⟩
          have hg12 : wz.heap.size ≤ bB := by rw [← hbB]; exact HZ1.out.size
          rw [hbB] at KB12 ⊢
          have HZ12 := Lib.hid (below_next HZ1.out bw12)
          have hS : v12_.cell? ⟨b18, 0, none⟩ = some (.int .i64 (V : Int)) ∧ v12_.cell? ⟨b18, 1, none⟩ = some (.slice CK nk ck) := ⟨keepBox HZ12.out kz0, keepBox HZ12.out kz1⟩
          clear h12 hbB
          clear bw12
          refine hK _ _ (fun _ => hS) ?_
          clear hK
          (try simp only [Act.put, List.setIfInBounds_toArray, List.set_cons_zero, List.set_cons_succ])
          refine twoT (i := 3) (j := 7) (by kernel_rfl) rfl (by rfl) rfl (by rfl) (fun K hK => ?_) (fun K hK => ?_)
          · go_simp
            have hlw := HZ12.out.size
            refine (cdcl_any CK none nk ck 0 0 (stepsF n al f0 g) [] (V : Int) v12_ (HOz.out.grid.keep HZ12.out) HNN.out (fun a ha => Nat.lt_of_lt_of_le (HLL.out a ha) hlw) ⟨Sl_nilT v12_, by simp⟩ HBES.out so ro ko po hs1 hs2 hs3 hs4 2000 (Nat.le_refl _) core_none).mono ?_
            rintro e v13_ ⟨st9, hb9, hn9, hc9, S9, ns9, cs9, K9, nk9, ck9, used9, rfl, bw13, ha9⟩
            have AN13 := Lib.hid ha9
            clear ha9 hlw
            have KB13 := Lib.hid (KB12.out.keep bw13)
            have HZ13 := Lib.hid (below_next HZ12.out bw13)
            have hS : v13_.cell? ⟨b18, 0, none⟩ = some (.int .i64 (V : Int)) ∧ v13_.cell? ⟨b18, 1, none⟩ = some (.slice CK nk ck) := ⟨keepBox HZ13.out kz0, keepBox HZ13.out kz1⟩
            clear bw13
            refine hK _ _ (fun _ => hS) ?_
            clear hK
            (try simp only [Act.put, List.setIfInBounds_toArray, List.set_cons_zero, List.set_cons_succ])
            refine take0 (i := 4) (oi := _) (v := ?_) rfl (by kernel_rfl) (by kernel_rfl) (by kernel_rfl) (fun _ _ _ h => h) rfl (Or.inl ⟨by rfl, ?_⟩) (fun _ => hS) ?_
            rotate_left
            · intro w0; go_simp; with_reducible rfl
            (try simp only [Act.put, List.setIfInBounds_toArray, List.set_cons_zero, List.set_cons_succ])
            refine take0 (i := 5) (oi := _) (v := ?_) rfl (by kernel_rfl) (by kernel_rfl) (by kernel_rfl) (fun _ _ _ h => h) rfl (Or.inl ⟨by rfl, ?_⟩) (fun _ => hS) ?_
            rotate_left
            · intro w0; go_simp; with_reducible rfl
            (try simp only [Act.put, List.setIfInBounds_toArray, List.set_cons_zero, List.set_cons_succ])
            refine take0 (i := 6) (oi := _) (v := ?_) rfl (by kernel_rfl) (by kernel_rfl) (by kernel_rfl) (fun _ _ _ h => h) rfl (Or.inl ⟨by rfl, ?_⟩) (fun _ => hS) ?_
            rotate_left
            · intro w0; go_simp; with_reducible rfl
            (try simp only [Act.put, List.setIfInBounds_toArray, List.set_cons_zero, List.set_cons_succ])
            refine oneT (i := 7) (by kernel_rfl) rfl (by rfl) (fun K hK => ?_)
            go_simp
            obtain ⟨v14_, h14⟩ : ∃ z : World, z = v13_.alloc (.cells #[.int .i64 0, .slice none 0 0, .slice none 0 0, .slice none 0 0, .int .i64 0] 45) := ⟨_, rfl⟩
            have bw14 : Below v13_.heap.size v13_ v14_ := by rw [h14]; exact below_new _ _
            have KA14 : Hid (Blk v14_ v13_.heap.size 45 #[.int .i64 0, .slice none 0 0, .slice none 0 0, .slice none 0 0, .int .i64 0]) := by rw [h14]; exact Blk.new _ _ _
            rw [← h14]
            obtain ⟨bA, hbA⟩ : ∃ z : Nat, v13_.heap.size = z := ⟨_, rfl⟩
            have hg14 : wz.heap.size ≤ bA := by rw [← hbA]; exact HZ13.out.size
            rw [hbA] at KA14 ⊢
            have hne : bA ≠ bB := by have := KB13.out.lt; omega
            have KB14 := Lib.hid (KB13.out.keep bw14)
            have AN14 := Lib.hid (answ_keep AN13.out bw14)
            have HZ14 := Lib.hid (below_next HZ13.out bw14)
            have hS : v14_.cell? ⟨b18, 0, none⟩ = some (.int .i64 (V : Int)) ∧ v14_.cell? ⟨b18, 1, none⟩ = some (.slice CK nk ck) := ⟨keepBox HZ14.out kz0, keepBox HZ14.out kz1⟩
            clear h14 hbA
            clear bw14
            refine hK _ _ (fun _ => hS) ?_
            clear hK
            (try simp only [Act.put, List.setIfInBounds_toArray, List.set_cons_zero, List.set_cons_succ])
            refine oneT (i := 9) (by kernel_rfl) rfl (by rfl) (fun K hK => ?_)
            have e0 := KA14.out.cell 0
            have e1 := KA14.out.cell 1
            have e2 := KA14.out.cell 2
            have e3 := KA14.out.cell 3
            have e4 := KA14.out.cell 4
            have f0 := KA14.out.frozen 0
            have f1 := KA14.out.frozen 1
            have f2 := KA14.out.frozen 2
            have f3 := KA14.out.frozen 3
            have f4 := KA14.out.frozen 4
            simp at e0 e1 e2 e3 e4
            have le := KA14.out.lt
            have pp := put5 KA14.out KB14.out hne HZ14.out hg14 (.int .i64 st9) (.slice hb9 hn9 hc9) (.slice S9 ns9 cs9) (.slice K9 nk9 ck9) (.int .i64 used9)
            have pa := answ5 AN14.out KA14.out st9 used9 hb9 S9 K9 hn9 hc9 ns9 cs9 nk9 ck9
            go_simp
            clear e0 e1 e2 e3 e4 f0 f1 f2 f3 f4 le
            refine hK _ _ (noT_no (by kernel_rfl)) ?_
            clear hK
            (try simp only [Act.put, List.setIfInBounds_toArray, List.set_cons_zero, List.set_cons_succ])
            obtain ⟨v5, hv5⟩ : ∃ z : World, z = (((((v14_.setCell ⟨bA, 0, none⟩ (.int .i64 st9)).setCell ⟨bA, 1, none⟩ (.slice hb9 hn9 hc9)).setCell ⟨bA, 2, none⟩ (.slice S9 ns9 cs9)).setCell ⟨bA, 3, none⟩ (.slice K9 nk9 ck9)).setCell ⟨bA, 4, none⟩ (.int .i64 used9)) := ⟨_, rfl⟩
            obtain ⟨p1, p2, p3⟩ := pp
            rw [← hv5] at p1 p2 p3 pa ⊢
            have P1 := Lib.hid p1
            have P2 := Lib.hid p2
            have P3 := Lib.hid p3
            have PA := Lib.hid pa
            clear hv5 p1 p2 p3 pa
            refine oneT (i := 10) (by kernel_rfl) rfl (by rfl) (fun K hK => ?_)
            have e0 := P2.out.cell 0
            have e1 := P2.out.cell 1
            have f0 := P2.out.frozen 0
            have f1 := P2.out.frozen 1
            simp at e0 e1
            have le := P2.out.lt
            have pq := put2_ P1.out P2.out hne P3.out hg12
            have pb := answ2 PA.out P2.out
            go_simp
            clear e0 e1 f0 f1 le
            refine hK _ _ (noT_no (by kernel_rfl)) ?_
            clear hK
            (try simp only [Act.put, List.setIfInBounds_toArray, List.set_cons_zero, List.set_cons_succ])
            obtain ⟨v6, hv6⟩ : ∃ z : World, z = ((v5.setCell ⟨bB, 0, none⟩ (.int .i64 0)).setCell ⟨bB, 1, none⟩ (.int .i64 0)) := ⟨_, rfl⟩
            obtain ⟨p1, p2, p3⟩ := pq
            rw [← hv6] at p1 p2 p3 pb ⊢
            have Q1 := Lib.hid p1
            have Q2 := Lib.hid p2
            have Q3 := Lib.hid (below_next hzd.out p3)
            have QA := Lib.hid pb
            clear hv6 p1 p2 p3 pb P1 P2 P3 PA
            refine doneT (by kernel_rfl) ?_ _
            try go_wp2_with fail
            go_meet
            case rel => exact ⟨bA, bB, st9, hb9, hn9, hc9, S9, ns9, cs9, K9, nk9, ck9, used9, rfl, rfl, Q3, Q1, Q2, QA⟩
          · go_simp
            obtain ⟨v15_, h15⟩ : ∃ z : World, z = v12_.alloc (.cells #[.int .i64 0, .slice none 0 0, .slice none 0 0, .slice none 0 0, .int .i64 0] 45) := ⟨_, rfl⟩
            have bw15 : Below v12_.heap.size v12_ v15_ := by rw [h15]; exact below_new _ _
            have KA15 : Hid (Blk v15_ v12_.heap.size 45 #[.int .i64 0, .slice none 0 0, .slice none 0 0, .slice none 0 0, .int .i64 0]) := by rw [h15]; exact Blk.new _ _ _
            rw [← h15]
            obtain ⟨bA, hbA⟩ : ∃ z : Nat, v12_.heap.size = z := ⟨_, rfl⟩
            have hg15 : wz.heap.size ≤ bA := by rw [← hbA]; exact HZ12.out.size
            rw [hbA] at KA15 ⊢
            have hne : bA ≠ bB := by have := KB12.out.lt; omega
            have KB15 := Lib.hid (KB12.out.keep bw15)
            have HZ15 := Lib.hid (below_next HZ12.out bw15)
            have hS : v15_.cell? ⟨b18, 0, none⟩ = some (.int .i64 (V : Int)) ∧ v15_.cell? ⟨b18, 1, none⟩ = some (.slice CK nk ck) := ⟨keepBox HZ15.out kz0, keepBox HZ15.out kz1⟩
            clear h15 hbA
            clear bw15
            refine hK _ _ (fun _ => hS) ?_
            clear hK
            (try simp only [Act.put, List.setIfInBounds_toArray, List.set_cons_zero, List.set_cons_succ])
            refine oneT (i := 3) (by kernel_rfl) rfl (by rfl) (fun K hK => ?_)
            go_simp
            have hlw := HZ15.out.size
            refine (cdcl_any CK none nk ck 0 0 (stepsF n al f0 g) [] (V : Int) v15_ (HOz.out.grid.keep HZ15.out) HNN.out (fun a ha => Nat.lt_of_lt_of_le (HLL.out a ha) hlw) ⟨Sl_nilT v15_, by simp⟩ HBES.out so ro ko po hs1 hs2 hs3 hs4 2000 (Nat.le_refl _) core_none).mono ?_
            rintro e v16_ ⟨st9, hb9, hn9, hc9, S9, ns9, cs9, K9, nk9, ck9, used9, rfl, bw16, ha9⟩
            have AN16 := Lib.hid ha9
            clear ha9 hlw
            have KA16 := Lib.hid (KA15.out.keep bw16)
            have KB16 := Lib.hid (KB15.out.keep bw16)
            have HZ16 := Lib.hid (below_next HZ15.out bw16)
            have hS : v16_.cell? ⟨b18, 0, none⟩ = some (.int .i64 (V : Int)) ∧ v16_.cell? ⟨b18, 1, none⟩ = some (.slice CK nk ck) := ⟨keepBox HZ16.out kz0, keepBox HZ16.out kz1⟩
            clear bw16
            refine hK _ _ (fun _ => hS) ?_
            clear hK
            (try simp only [Act.put, List.setIfInBounds_toArray, List.set_cons_zero, List.set_cons_succ])
            refine take0 (i := 4) (oi := _) (v := ?_) rfl (by kernel_rfl) (by kernel_rfl) (by kernel_rfl) (fun _ _ _ h => h) rfl (Or.inl ⟨by rfl, ?_⟩) (fun _ => hS) ?_
            rotate_left
            · intro w0; go_simp; with_reducible rfl
            (try simp only [Act.put, List.setIfInBounds_toArray, List.set_cons_zero, List.set_cons_succ])
            refine take0 (i := 5) (oi := _) (v := ?_) rfl (by kernel_rfl) (by kernel_rfl) (by kernel_rfl) (fun _ _ _ h => h) rfl (Or.inl ⟨by rfl, ?_⟩) (fun _ => hS) ?_
            rotate_left
            · intro w0; go_simp; with_reducible rfl
            (try simp only [Act.put, List.setIfInBounds_toArray, List.set_cons_zero, List.set_cons_succ])
            refine take0 (i := 6) (oi := _) (v := ?_) rfl (by kernel_rfl) (by kernel_rfl) (by kernel_rfl) (fun _ _ _ h => h) rfl (Or.inl ⟨by rfl, ?_⟩) (fun _ => hS) ?_
            rotate_left
            · intro w0; go_simp; with_reducible rfl
            (try simp only [Act.put, List.setIfInBounds_toArray, List.set_cons_zero, List.set_cons_succ])
            refine oneT (i := 9) (by kernel_rfl) rfl (by rfl) (fun K hK => ?_)
            have e0 := KA16.out.cell 0
            have e1 := KA16.out.cell 1
            have e2 := KA16.out.cell 2
            have e3 := KA16.out.cell 3
            have e4 := KA16.out.cell 4
            have f0 := KA16.out.frozen 0
            have f1 := KA16.out.frozen 1
            have f2 := KA16.out.frozen 2
            have f3 := KA16.out.frozen 3
            have f4 := KA16.out.frozen 4
            simp at e0 e1 e2 e3 e4
            have le := KA16.out.lt
            have pp := put5 KA16.out KB16.out hne HZ16.out hg15 (.int .i64 st9) (.slice hb9 hn9 hc9) (.slice S9 ns9 cs9) (.slice K9 nk9 ck9) (.int .i64 used9)
            have pa := answ5 AN16.out KA16.out st9 used9 hb9 S9 K9 hn9 hc9 ns9 cs9 nk9 ck9
            go_simp
            clear e0 e1 e2 e3 e4 f0 f1 f2 f3 f4 le
            refine hK _ _ (noT_no (by kernel_rfl)) ?_
            clear hK
            (try simp only [Act.put, List.setIfInBounds_toArray, List.set_cons_zero, List.set_cons_succ])
            obtain ⟨v5, hv5⟩ : ∃ z : World, z = (((((v16_.setCell ⟨bA, 0, none⟩ (.int .i64 st9)).setCell ⟨bA, 1, none⟩ (.slice hb9 hn9 hc9)).setCell ⟨bA, 2, none⟩ (.slice S9 ns9 cs9)).setCell ⟨bA, 3, none⟩ (.slice K9 nk9 ck9)).setCell ⟨bA, 4, none⟩ (.int .i64 used9)) := ⟨_, rfl⟩
            obtain ⟨p1, p2, p3⟩ := pp
            rw [← hv5] at p1 p2 p3 pa ⊢
            have P1 := Lib.hid p1
            have P2 := Lib.hid p2
            have P3 := Lib.hid p3
            have PA := Lib.hid pa
            clear hv5 p1 p2 p3 pa
            refine oneT (i := 10) (by kernel_rfl) rfl (by rfl) (fun K hK => ?_)
            have e0 := P2.out.cell 0
            have e1 := P2.out.cell 1
            have f0 := P2.out.frozen 0
            have f1 := P2.out.frozen 1
            simp at e0 e1
            have le := P2.out.lt
            have pq := put2_ P1.out P2.out hne P3.out hg12
            have pb := answ2 PA.out P2.out
            go_simp
            clear e0 e1 f0 f1 le
            refine hK _ _ (noT_no (by kernel_rfl)) ?_
            clear hK
            (try simp only [Act.put, List.setIfInBounds_toArray, List.set_cons_zero, List.set_cons_succ])
            obtain ⟨v6, hv6⟩ : ∃ z : World, z = ((v5.setCell ⟨bB, 0, none⟩ (.int .i64 0)).setCell ⟨bB, 1, none⟩ (.int .i64 0)) := ⟨_, rfl⟩
            obtain ⟨p1, p2, p3⟩ := pq
            rw [← hv6] at p1 p2 p3 pb ⊢
            have Q1 := Lib.hid p1
            have Q2 := Lib.hid p2
            have Q3 := Lib.hid (below_next hzd.out p3)
            have QA := Lib.hid pb
            clear hv6 p1 p2 p3 pb P1 P2 P3 PA
            refine doneT (by kernel_rfl) ?_ _
            try go_wp2_with fail
            go_meet
            case rel => exact ⟨bA, bB, st9, hb9, hn9, hc9, S9, ns9, cs9, K9, nk9, ck9, used9, rfl, rfl, Q3, Q1, Q2, QA⟩
      · go_simp
        obtain ⟨v17_, h17⟩ : ∃ z : World, z = wz.alloc (.cells #[.int .i64 0, .slice none 0 0, .slice none 0 0, .slice none 0 0, .int .i64 0] 45) := ⟨_, rfl⟩
        have bw17 : Below wz.heap.size wz v17_ := by rw [h17]; exact below_new _ _
        have KA17 : Hid (Blk v17_ wz.heap.size 45 #[.int .i64 0, .slice none 0 0, .slice none 0 0, .slice none 0 0, .int .i64 0]) := by rw [h17]; exact Blk.new _ _ _
        rw [← h17]
        obtain ⟨bA, hbA⟩ : ∃ z : Nat, wz.heap.size = z := ⟨_, rfl⟩
        have hg17 : wz.heap.size ≤ bA := by rw [← hbA]; exact HZ0.out.size
        rw [hbA] at KA17 ⊢
        have HZ17 := Lib.hid (below_next HZ0.out bw17)
        have hS : v17_.cell? ⟨b18, 0, none⟩ = some (.int .i64 (V : Int)) ∧ v17_.cell? ⟨b18, 1, none⟩ = some (.slice CK nk ck) := ⟨keepBox HZ17.out kz0, keepBox HZ17.out kz1⟩
        clear h17 hbA
        clear bw17
        refine hK _ _ (fun _ => hS) ?_
        clear hK
        (try simp only [Act.put, List.setIfInBounds_toArray, List.set_cons_zero, List.set_cons_succ])
        refine twoT (i := 2) (j := 8) (by kernel_rfl) rfl (by rfl) rfl (by rfl) (fun K hK => ?_) (fun K hK => ?_)
        · go_simp
          refine (optionsOf_any o v17_ HOP.out).mono ?_
          rintro e v18_ ⟨so, ro, ko, po, rfl, hs1, hs2, hs3, hs4, bw18⟩
          have KA18 := Lib.hid (KA17.out.keep bw18)
          have HZ18 := Lib.hid (below_next HZ17.out bw18)
          have hS : v18_.cell? ⟨b18, 0, none⟩ = some (.int .i64 (V : Int)) ∧ v18_.cell? ⟨b18, 1, none⟩ = some (.slice CK nk ck) := ⟨keepBox HZ18.out kz0, keepBox HZ18.out kz1⟩
          clear bw18
          refine hK _ _ (fun _ => hS) ?_
          clear hK
          (try simp only [Act.put, List.setIfInBounds_toArray, List.set_cons_zero, List.set_cons_succ])
          refine twoT (i := 3) (j := 8) (by kernel_rfl) rfl (by rfl) rfl (by rfl) (fun K hK => ?_) (fun K hK => ?_)
          · go_simp
            have hlw := HZ18.out.size
            refine (cdcl_any CK none nk ck 0 0 (stepsF n al f0 g) [] (V : Int) v18_ (HOz.out.grid.keep HZ18.out) HNN.out (fun a ha => Nat.lt_of_lt_of_le (HLL.out a ha) hlw) ⟨Sl_nilT v18_, by simp⟩ HBES.out so ro ko po hs1 hs2 hs3 hs4 2000 (Nat.le_refl _) core_none).mono ?_
            rintro e v19_ ⟨st9, hb9, hn9, hc9, S9, ns9, cs9, K9, nk9, ck9, used9, rfl, bw19, ha9⟩
            have AN19 := Lib.hid ha9
            clear ha9 hlw
            have KA19 := Lib.hid (KA18.out.keep bw19)
            have HZ19 := Lib.hid (below_next HZ18.out bw19)
            have hS : v19_.cell? ⟨b18, 0, none⟩ = some (.int .i64 (V : Int)) ∧ v19_.cell? ⟨b18, 1, none⟩ = some (.slice CK nk ck) := ⟨keepBox HZ19.out kz0, keepBox HZ19.out kz1⟩
            clear bw19
            refine hK _ _ (fun _ => hS) ?_
            clear hK
            (try simp only [Act.put, List.setIfInBounds_toArray, List.set_cons_zero, List.set_cons_succ])
            refine take0 (i := 4) (oi := _) (v := ?_) rfl (by kernel_rfl) (by kernel_rfl) (by kernel_rfl) (fun _ _ _ h => h) rfl (Or.inl ⟨by rfl, ?_⟩) (fun _ => hS) ?_
            rotate_left
            · intro w0; go_simp; with_reducible rfl
            (try simp only [Act.put, List.setIfInBounds_toArray, List.set_cons_zero, List.set_cons_succ])
            refine take0 (i := 5) (oi := _) (v := ?_) rfl (by kernel_rfl) (by kernel_rfl) (by kernel_rfl) (fun _ _ _ h => h) rfl (Or.inl ⟨by rfl, ?_⟩) (fun _ => hS) ?_
            rotate_left
            · intro w0; go_simp; with_reducible rfl
            (try simp only [Act.put, List.setIfInBounds_toArray, List.set_cons_zero, List.set_cons_succ])
            refine take0 (i := 6) (oi := _) (v := ?_) rfl (by kernel_rfl) (by kernel_rfl) (by kernel_rfl) (fun _ _ _ h => h) rfl (Or.inl ⟨by rfl, ?_⟩) (fun _ => hS) ?_
            rotate_left
            · intro w0; go_simp; with_reducible rfl
            (try simp only [Act.put, List.setIfInBounds_toArray, List.set_cons_zero, List.set_cons_succ])
            refine oneT (i := 8) (by kernel_rfl) rfl (by rfl) (fun K hK => ?_)
            go_simp
            obtain ⟨v20_, h20⟩ : ∃ z : World, z = v19_.alloc (.cells #[.int .i64 0, .int .i64 0] 28) := ⟨_, rfl⟩
            have bw20 : Below v19_.heap.size v19_ v20_ := by rw [h20]; exact below_new _ _
            have KB20 : Hid (Blk v20_ v19_.heap.size 28 #[.int .i64 0, .int .i64 0]) := by rw [h20]; exact Blk.new _ _ _
            rw [← h20]
            obtain ⟨bB, hbB⟩ : ∃ z : Nat, v19_.heap.size = z := ⟨_, rfl⟩
            have hg20 : wz.heap.size ≤ bB := by rw [← hbB]; exact HZ19.out.size
            rw [hbB] at KB20 ⊢
            have hne : bA ≠ bB := by have := KA19.out.lt; omega
            have KA20 := Lib.hid (KA19.out.keep bw20)
            have AN20 := Lib.hid (answ_keep AN19.out bw20)
            have HZ20 := Lib.hid (below_next HZ19.out bw20)
            have hS : v20_.cell? ⟨b18, 0, none⟩ = some (.int .i64 (V : Int)) ∧ v20_.cell? ⟨b18, 1, none⟩ = some (.slice CK nk ck) := ⟨keepBox HZ20.out kz0, keepBox HZ20.out kz1⟩
            clear h20 hbB
            clear bw20
            refine hK _ _ (fun _ => hS) ?_
            clear hK
            (try simp only [Act.put, List.setIfInBounds_toArray, List.set_cons_zero, List.set_cons_succ])
            refine oneT (i := 9) (by kernel_rfl) rfl (by rfl) (fun K hK => ?_)
            have e0 := KA20.out.cell 0
            have e1 := KA20.out.cell 1
            have e2 := KA20.out.cell 2
            have e3 := KA20.out.cell 3
            have e4 := KA20.out.cell 4
            have f0 := KA20.out.frozen 0
            have f1 := KA20.out.frozen 1
            have f2 := KA20.out.frozen 2
            have f3 := KA20.out.frozen 3
            have f4 := KA20.out.frozen 4
            simp at e0 e1 e2 e3 e4
            have le := KA20.out.lt
            have pp := put5 KA20.out KB20.out hne HZ20.out hg17 (.int .i64 st9) (.slice hb9 hn9 hc9) (.slice S9 ns9 cs9) (.slice K9 nk9 ck9) (.int .i64 used9)
            have pa := answ5 AN20.out KA20.out st9 used9 hb9 S9 K9 hn9 hc9 ns9 cs9 nk9 ck9
            go_simp
            clear e0 e1 e2 e3 e4 f0 f1 f2 f3 f4 le
            refine hK _ _ (noT_no (by kernel_rfl)) ?_
            clear hK
            (try simp only [Act.put, List.setIfInBounds_toArray, List.set_cons_zero, List.set_cons_succ])
            obtain ⟨v5, hv5⟩ : ∃ z : World, z = (((((v20_.setCell ⟨bA, 0, none⟩ (.int .i64 st9)).setCell ⟨bA, 1, none⟩ (.slice hb9 hn9 hc9)).setCell ⟨bA, 2, none⟩ (.slice S9 ns9 cs9)).setCell ⟨bA, 3, none⟩ (.slice K9 nk9 ck9)).setCell ⟨bA, 4, none⟩ (.int .i64 used9)) := ⟨_, rfl⟩
            obtain ⟨p1, p2, p3⟩ := pp
            rw [← hv5] at p1 p2 p3 pa ⊢
            have P1 := Lib.hid p1
            have P2 := Lib.hid p2
            have P3 := Lib.hid p3
            have PA := Lib.hid pa
            clear hv5 p1 p2 p3 pa
            refine oneT (i := 10) (by kernel_rfl) rfl (by rfl) (fun K hK => ?_)
            have e0 := P2.out.cell 0
            have e1 := P2.out.cell 1
            have f0 := P2.out.frozen 0
            have f1 := P2.out.frozen 1
            simp at e0 e1
            have le := P2.out.lt
            have pq := put2_ P1.out P2.out hne P3.out hg20
            have pb := answ2 PA.out P2.out
            go_simp
            clear e0 e1 f0 f1 le
            refine hK _ _ (noT_no (by kernel_rfl)) ?_
            clear hK
            (try simp only [Act.put, List.setIfInBounds_toArray, List.set_cons_zero, List.set_cons_succ])
            obtain ⟨v6, hv6⟩ : ∃ z : World, z = ((v5.setCell ⟨bB, 0, none⟩ (.int .i64 0)).setCell ⟨bB, 1, none⟩ (.int .i64 0)) := ⟨_, rfl⟩
            obtain ⟨p1, p2, p3⟩ := pq
            rw [← hv6] at p1 p2 p3 pb ⊢
            have Q1 := Lib.hid p1
            have Q2 := Lib.hid p2
            have Q3 := Lib.hid (below_next hzd.out p3)
            have QA := Lib.hid pb
            clear hv6 p1 p2 p3 pb P1 P2 P3 PA
            refine doneT (by kernel_rfl) ?_ _
            try go_wp2_with fail
            go_meet
            case rel => exact ⟨bA, bB, st9, hb9, hn9, hc9, S9, ns9, cs9, K9, nk9, ck9, used9, rfl, rfl, Q3, Q1, Q2, QA⟩
          · go_simp
            obtain ⟨v21_, h21⟩ : ∃ z : World, z = v18_.alloc (.cells #[.int .i64 0, .int .i64 0] 28) := ⟨_, rfl⟩
            have bw21 : Below v18_.heap.size v18_ v21_ := by rw [h21]; exact below_new _ _
            have KB21 : Hid (Blk v21_ v18_.heap.size 28 #[.int .i64 0, .int .i64 0]) := by rw [h21]; exact Blk.new _ _ _
            rw [← h21]
            obtain ⟨bB, hbB⟩ : ∃ z : Nat, v18_.heap.size = z := ⟨_, rfl⟩
            have hg21 : wz.heap.size ≤ bB := by rw [← hbB]; exact HZ18.out.size
            rw [hbB] at KB21 ⊢
            have hne : bA ≠ bB := by have := KA18.out.lt; omega
            have KA21 := Lib.hid (KA18.out.keep bw21)
            have HZ21 := Lib.hid (below_next HZ18.out bw21)
            have hS : v21_.cell? ⟨b18, 0, none⟩ = some (.int .i64 (V : Int)) ∧ v21_.cell? ⟨b18, 1, none⟩ = some (.slice CK nk ck) := ⟨keepBox HZ21.out kz0, keepBox HZ21.out kz1⟩
            clear h21 hbB
            clear bw21
            refine hK _ _ (fun _ => hS) ?_
            clear hK
            (try simp only [Act.put, List.setIfInBounds_toArray, List.set_cons_zero, List.set_cons_succ])
            refine oneT (i := 3) (by kernel_rfl) rfl (by rfl) (fun K hK => ?_)
            go_simp
            have hlw := HZ21.out.size
            refine (cdcl_any CK none nk ck 0 0 (stepsF n al f0 g) [] (V : Int) v21_ (HOz.out.grid.keep HZ21.out) HNN.out (fun a ha => Nat.lt_of_lt_of_le (HLL.out a ha) hlw) ⟨Sl_nilT v21_, by simp⟩ HBES.out so ro ko po hs1 hs2 hs3 hs4 2000 (Nat.le_refl _) core_none).mono ?_
            rintro e v22_ ⟨st9, hb9, hn9, hc9, S9, ns9, cs9, K9, nk9, ck9, used9, rfl, bw22, ha9⟩
            have AN22 := Lib.hid ha9
            clear ha9 hlw
            have KA22 := Lib.hid (KA21.out.keep bw22)
            have KB22 := Lib.hid (KB21.out.keep bw22)
            have HZ22 := Lib.hid (below_next HZ21.out bw22)
            have hS : v22_.cell? ⟨b18, 0, none⟩ = some (.int .i64 (V : Int)) ∧ v22_.cell? ⟨b18, 1, none⟩ = some (.slice CK nk ck) := ⟨keepBox HZ22.out kz0, keepBox HZ22.out kz1⟩
            clear bw22
            refine hK _ _ (fun _ => hS) ?_
            clear hK
            (try simp only [Act.put, List.setIfInBounds_toArray, List.set_cons_zero, List.set_cons_succ])
            refine take0 (i := 4) (oi := _) (v := ?_) rfl (by kernel_rfl) (by kernel_rfl) (by kernel_rfl) (fun _ _ _ h => h) rfl (Or.inl ⟨by rfl, ?_⟩) (fun _ => hS) ?_
            rotate_left
            · intro w0; go_simp; with_reducible rfl
            (try simp only [Act.put, List.setIfInBounds_toArray, List.set_cons_zero, List.set_cons_succ])
            refine take0 (i := 5) (oi := _) (v := ?_) rfl (by kernel_rfl) (by kernel_rfl) (by kernel_rfl) (fun _ _ _ h => h) rfl (Or.inl ⟨by rfl, ?_⟩) (fun _ => hS) ?_
            rotate_left
            · intro w0; go_simp; with_reducible rfl
            (try simp only [Act.put, List.setIfInBounds_toArray, List.set_cons_zero, List.set_cons_succ])
            refine take0 (i := 6) (oi := _) (v := ?_) rfl (by kernel_rfl) (by kernel_rfl) (by kernel_rfl) (fun _ _ _ h => h) rfl (Or.inl ⟨by rfl, ?_⟩) (fun _ => hS) ?_
            rotate_left
            · intro w0; go_simp; with_reducible rfl
            (try simp only [Act.put, List.setIfInBounds_toArray, List.set_cons_zero, List.set_cons_succ])
            refine oneT (i := 9) (by kernel_rfl) rfl (by rfl) (fun K hK => ?_)
            have e0 := KA22.out.cell 0
            have e1 := KA22.out.cell 1
            have e2 := KA22.out.cell 2
            have e3 := KA22.out.cell 3
            have e4 := KA22.out.cell 4
            have f0 := KA22.out.frozen 0
            have f1 := KA22.out.frozen 1
            have f2 := KA22.out.frozen 2
            have f3 := KA22.out.frozen 3
            have f4 := KA22.out.frozen 4
            simp at e0 e1 e2 e3 e4
            have le := KA22.out.lt
            have pp := put5 KA22.out KB22.out hne HZ22.out hg17 (.int .i64 st9) (.slice hb9 hn9 hc9) (.slice S9 ns9 cs9) (.slice K9 nk9 ck9) (.int .i64 used9)
            have pa := answ5 AN22.out KA22.out st9 used9 hb9 S9 K9 hn9 hc9 ns9 cs9 nk9 ck9
            go_simp
            clear e0 e1 e2 e3 e4 f0 f1 f2 f3 f4 le
            refine hK _ _ (noT_no (by kernel_rfl)) ?_
            clear hK
            (try simp only [Act.put, List.setIfInBounds_toArray, List.set_cons_zero, List.set_cons_succ])
            obtain ⟨v5, hv5⟩ : ∃ z : World, z = (((((v22_.setCell ⟨bA, 0, none⟩ (.int .i64 st9)).setCell ⟨bA, 1, none⟩ (.slice hb9 hn9 hc9)).setCell ⟨bA, 2, none⟩ (.slice S9 ns9 cs9)).setCell ⟨bA, 3, none⟩ (.slice K9 nk9 ck9)).setCell ⟨bA, 4, none⟩ (.int .i64 used9)) := ⟨_, rfl⟩
            obtain ⟨p1, p2, p3⟩ := pp
            rw [← hv5] at p1 p2 p3 pa ⊢
            have P1 := Lib.hid p1
            have P2 := Lib.hid p2
            have P3 := Lib.hid p3
            have PA := Lib.hid pa
            clear hv5 p1 p2 p3 pa
            refine oneT (i := 10) (by kernel_rfl) rfl (by rfl) (fun K hK => ?_)
            have e0 := P2.out.cell 0
            have e1 := P2.out.cell 1
            have f0 := P2.out.frozen 0
            have f1 := P2.out.frozen 1
            simp at e0 e1
            have le := P2.out.lt
            have pq := put2_ P1.out P2.out hne P3.out hg21
            have pb := answ2 PA.out P2.out
            go_simp
            clear e0 e1 f0 f1 le
            refine hK _ _ (noT_no (by kernel_rfl)) ?_
            clear hK
            (try simp only [Act.put, List.setIfInBounds_toArray, List.set_cons_zero, List.set_cons_succ])
            obtain ⟨v6, hv6⟩ : ∃ z : World, z = ((v5.setCell ⟨bB, 0, none⟩ (.int .i64 0)).setCell ⟨bB, 1, none⟩ (.int .i64 0)) := ⟨_, rfl⟩
            obtain ⟨p1, p2, p3⟩ := pq
            rw [← hv6] at p1 p2 p3 pb ⊢
            have Q1 := Lib.hid p1
            have Q2 := Lib.hid p2
            have Q3 := Lib.hid (below_next hzd.out p3)
            have QA := Lib.hid pb
            clear hv6 p1 p2 p3 pb P1 P2 P3 PA
            refine doneT (by kernel_rfl) ?_ _
            try go_wp2_with fail
            go_meet
            case rel => exact ⟨bA, bB, st9, hb9, hn9, hc9, S9, ns9, cs9, K9, nk9, ck9, used9, rfl, rfl, Q3, Q1, Q2, QA⟩
        · go_simp
          obtain ⟨v23_, h23⟩ : ∃ z : World, z = v17_.alloc (.cells #[.int .i64 0, .int .i64 0] 28) := ⟨_, rfl⟩
          have bw23 : Below v17_.heap.size v17_ v23_ := by rw [h23]; exact below_new _ _
          have KB23 : Hid (Blk v23_ v17_.heap.size 28 #[.int .i64 0, .int .i64 0]) := by rw [h23]; exact Blk.new _ _ _
          rw [← h23]
          obtain ⟨bB, hbB⟩ : ∃ z : Nat, v17_.heap.size = z := ⟨_, rfl⟩
          have hg23 : wz.heap.size ≤ bB := by rw [← hbB]; exact HZ17.out.size
          rw [hbB] at KB23 ⊢
          have hne : bA ≠ bB := by have := KA17.out.lt; omega
          have KA23 := Lib.hid (KA17.out.keep bw23)
          have HZ23 := Lib.hid (below_next HZ17.out bw23)
          have hS : v23_.cell? ⟨b18, 0, none⟩ = some (.int .i64 (V : Int)) ∧ v23_.cell? ⟨b18, 1, none⟩ = some (.slice CK nk ck) := ⟨keepBox HZ23.out kz0, keepBox HZ23.out kz1⟩
          clear h23 hbB
          clear bw23
          refine hK _ _ (fun _ => hS) ?_
          clear hK
          (try simp only [Act.put, List.setIfInBounds_toArray, List.set_cons_zero, List.set_cons_succ])
          refine oneT (i := 2) (by kernel_rfl) rfl (by rfl) (fun K hK => ?_)
          go_simp
          refine (optionsOf_any o v23_ HOP.out).mono ?_
          rintro e v24_ ⟨so, ro, ko, po, rfl, hs1, hs2, hs3, hs4, bw24⟩
          have KA24 := Lib.hid (KA23.out.keep bw24)
          have KB24 := Lib.hid (KB23.out.keep bw24)
          have HZ24 := Lib.hid (below_next HZ23.out bw24)
          have hS : v24_.cell? ⟨b18, 0, none⟩ = some (.int .i64 (V : Int)) ∧ v24_.cell? ⟨b18, 1, none⟩ = some (.slice CK nk ck) := ⟨keepBox HZ24.out kz0, keepBox HZ24.out kz1⟩
          clear bw24
          refine hK _ _ (fun _ => hS) ?_
          clear hK
          (try simp only [Act.put, List.setIfInBounds_toArray, List.set_cons_zero, List.set_cons_succ])
          refine oneT (i := 3) (by kernel_rfl) rfl (by rfl) (fun K hK => ?_)
          go_simp
          have hlw := HZ24.out.size
          refine (cdcl_any CK none nk ck 0 0 (stepsF n al f0 g) [] (V : Int) v24_ (HOz.out.grid.keep HZ24.out) HNN.out (fun a ha => Nat.lt_of_lt_of_le (HLL.out a ha) hlw) ⟨Sl_nilT v24_, by simp⟩ HBES.out so ro ko po hs1 hs2 hs3 hs4 2000 (Nat.le_refl _) core_none).mono ?_
          rintro e v25_ ⟨st9, hb9, hn9, hc9, S9, ns9, cs9, K9, nk9, ck9, used9, rfl, bw25, ha9⟩
          have AN25 := Lib.hid ha9
          clear ha9 hlw
          have KA25 := Lib.hid (KA24.out.keep bw25)
          have KB25 := Lib.hid (KB24.out.keep bw25)
          have HZ25 := Lib.hid (below_next HZ24.out bw25)
          have hS : v25_.cell? ⟨b18, 0, none⟩ = some (.int .i64 (V : Int)) ∧ v25_.cell? ⟨b18, 1, none⟩ = some (.slice CK nk ck) := ⟨keepBox HZ25.out kz0, keepBox HZ25.out kz1⟩
          clear bw25
          refine hK _ _ (fun _ => hS) ?_
          clear hK
          (try simp only [Act.put, List.setIfInBounds_toArray, List.set_cons_zero, List.set_cons_succ])
          refine take0 (i := 4) (oi := _) (v := ?_) rfl (by kernel_rfl) (by kernel_rfl) (by kernel_rfl) (fun _ _ _ h => h) rfl (Or.inl ⟨by rfl, ?_⟩) (fun _ => hS) ?_
          rotate_left
          · intro w0; go_simp; with_reducible rfl
          (try simp only [Act.put, List.setIfInBounds_toArray, List.set_cons_zero, List.set_cons_succ])
          refine take0 (i := 5) (oi := _) (v := ?_) rfl (by kernel_rfl) (by kernel_rfl) (by kernel_rfl) (fun _ _ _ h => h) rfl (Or.inl ⟨by rfl, ?_⟩) (fun _ => hS) ?_
          rotate_left
          · intro w0; go_simp; with_reducible rfl
          (try simp only [Act.put, List.setIfInBounds_toArray, List.set_cons_zero, List.set_cons_succ])
          refine take0 (i := 6) (oi := _) (v := ?_) rfl (by kernel_rfl) (by kernel_rfl) (by kernel_rfl) (fun _ _ _ h => h) rfl (Or.inl ⟨by rfl, ?_⟩) (fun _ => hS) ?_
          rotate_left
          · intro w0; go_simp; with_reducible rfl
          (try simp only [Act.put, List.setIfInBounds_toArray, List.set_cons_zero, List.set_cons_succ])
          refine oneT (i := 9) (by kernel_rfl) rfl (by rfl) (fun K hK => ?_)
          have e0 := KA25.out.cell 0
          have e1 := KA25.out.cell 1
          have e2 := KA25.out.cell 2
          have e3 := KA25.out.cell 3
          have e4 := KA25.out.cell 4
          have f0 := KA25.out.frozen 0
          have f1 := KA25.out.frozen 1
          have f2 := KA25.out.frozen 2
          have f3 := KA25.out.frozen 3
          have f4 := KA25.out.frozen 4
          simp at e0 e1 e2 e3 e4
          have le := KA25.out.lt
          have pp := put5 KA25.out KB25.out hne HZ25.out hg17 (.int .i64 st9) (.slice hb9 hn9 hc9) (.slice S9 ns9 cs9) (.slice K9 nk9 ck9) (.int .i64 used9)
          have pa := answ5 AN25.out KA25.out st9 used9 hb9 S9 K9 hn9 hc9 ns9 cs9 nk9 ck9
          go_simp
          clear e0 e1 e2 e3 e4 f0 f1 f2 f3 f4 le
          refine hK _ _ (noT_no (by kernel_rfl)) ?_
          clear hK
          (try simp only [Act.put, List.setIfInBounds_toArray, List.set_cons_zero, List.set_cons_succ])
          obtain ⟨v5, hv5⟩ : ∃ z : World, z = (((((v25_.setCell ⟨bA, 0, none⟩ (.int .i64 st9)).setCell ⟨bA, 1, none⟩ (.slice hb9 hn9 hc9)).setCell ⟨bA, 2, none⟩ (.slice S9 ns9 cs9)).setCell ⟨bA, 3, none⟩ (.slice K9 nk9 ck9)).setCell ⟨bA, 4, none⟩ (.int .i64 used9)) := ⟨_, rfl⟩
          obtain ⟨p1, p2, p3⟩ := pp
          rw [← hv5] at p1 p2 p3 pa ⊢
          have P1 := Lib.hid p1
          have P2 := Lib.hid p2
          have P3 := Lib.hid p3
          have PA := Lib.hid pa
          clear hv5 p1 p2 p3 pa
          refine oneT (i := 10) (by kernel_rfl) rfl (by rfl) (fun K hK => ?_)
          have e0 := P2.out.cell 0
          have e1 := P2.out.cell 1
          have f0 := P2.out.frozen 0
          have f1 := P2.out.frozen 1
          simp at e0 e1
          have le := P2.out.lt
          have pq := put2_ P1.out P2.out hne P3.out hg23
          have pb := answ2 PA.out P2.out
          go_simp
          clear e0 e1 f0 f1 le
          refine hK _ _ (noT_no (by kernel_rfl)) ?_
          clear hK
          (try simp only [Act.put, List.setIfInBounds_toArray, List.set_cons_zero, List.set_cons_succ])
          obtain ⟨v6, hv6⟩ : ∃ z : World, z = ((v5.setCell ⟨bB, 0, none⟩ (.int .i64 0)).setCell ⟨bB, 1, none⟩ (.int .i64 0)) := ⟨_, rfl⟩
          obtain ⟨p1, p2, p3⟩ := pq
          rw [← hv6] at p1 p2 p3 pb ⊢
          have Q1 := Lib.hid p1
          have Q2 := Lib.hid p2
          have Q3 := Lib.hid (below_next hzd.out p3)
          have QA := Lib.hid pb
          clear hv6 p1 p2 p3 pb P1 P2 P3 PA
          refine doneT (by kernel_rfl) ?_ _
          try go_wp2_with fail
          go_meet
          case rel => exact ⟨bA, bB, st9, hb9, hn9, hc9, S9, ns9, cs9, K9, nk9, ck9, used9, rfl, rfl, Q3, Q1, Q2, QA⟩
      · go_simp
        obtain ⟨v26_, h26⟩ : ∃ z : World, z = wz.alloc (.cells #[.int .i64 0, .int .i64 0] 28) := ⟨_, rfl⟩
        have bw26 : Below wz.heap.size wz v26_ := by rw [h26]; exact below_new _ _
        have KB26 : Hid (Blk v26_ wz.heap.size 28 #[.int .i64 0, .int .i64 0]) := by rw [h26]; exact Blk.new _ _ _
        rw [← h26]
        obtain ⟨bB, hbB⟩ : ∃ z : Nat, wz.heap.size = z := ⟨_, rfl⟩
        have hg26 : wz.heap.size ≤ bB := by rw [← hbB]; exact HZ0.out.size
        rw [hbB] at KB26 ⊢
        have HZ26 := Lib.hid (below_next HZ0.out bw26)
        have hS : v26_.cell? ⟨b18, 0, none⟩ = some (.int .i64 (V : Int)) ∧ v26_.cell? ⟨b18, 1, none⟩ = some (.slice CK nk ck) := ⟨keepBox HZ26.out kz0, keepBox HZ26.out kz1⟩
        clear h26 hbB
        clear bw26
        refine hK _ _ (fun _ => hS) ?_
        clear hK
        (try simp only [Act.put, List.setIfInBounds_toArray, List.set_cons_zero, List.set_cons_succ])
        refine twoT (i := 2) (j := 7) (by kernel_rfl) rfl (by rfl) rfl (by rfl) (fun K hK => ?_) (fun K hK => ?_)
        · go_simp
          refine (optionsOf_any o v26_ HOP.out).mono ?_
          rintro e v27_ ⟨so, ro, ko, po, rfl, hs1, hs2, hs3, hs4, bw27⟩
          have KB27 := Lib.hid (KB26.out.keep bw27)
          have HZ27 := Lib.hid (below_next HZ26.out bw27)
          have hS : v27_.cell? ⟨b18, 0, none⟩ = some (.int .i64 (V : Int)) ∧ v27_.cell? ⟨b18, 1, none⟩ = some (.slice CK nk ck) := ⟨keepBox HZ27.out kz0, keepBox HZ27.out kz1⟩
          clear bw27
          refine hK _ _ (fun _ => hS) ?_
          clear hK
          (try simp only [Act.put, List.setIfInBounds_toArray, List.set_cons_zero, List.set_cons_succ])
          refine twoT (i := 3) (j := 7) (by kernel_rfl) rfl (by rfl) rfl (by rfl) (fun K hK => ?_) (fun K hK => ?_)
          · go_simp
            have hlw := HZ27.out.size
            refine (cdcl_any CK none nk ck 0 0 (stepsF n al f0 g) [] (V : Int) v27_ (HOz.out.grid.keep HZ27.out) HNN.out (fun a ha => Nat.lt_of_lt_of_le (HLL.out a ha) hlw) ⟨Sl_nilT v27_, by simp⟩ HBES.out so ro ko po hs1 hs2 hs3 hs4 2000 (Nat.le_refl _) core_none).mono ?_
            rintro e v28_ ⟨st9, hb9, hn9, hc9, S9, ns9, cs9, K9, nk9, ck9, used9, rfl, bw28, ha9⟩
            have AN28 := Lib.hid ha9
            clear ha9 hlw
            have KB28 := Lib.hid (KB27.out.keep bw28)
            have HZ28 := Lib.hid (below_next HZ27.out bw28)
            have hS : v28_.cell? ⟨b18, 0, none⟩ = some (.int .i64 (V : Int)) ∧ v28_.cell? ⟨b18, 1, none⟩ = some (.slice CK nk ck) := ⟨keepBox HZ28.out kz0, keepBox HZ28.out kz1⟩
            clear bw28
            refine hK _ _ (fun _ => hS) ?_
            clear hK
            (try simp only [Act.put, List.setIfInBounds_toArray, List.set_cons_zero, List.set_cons_succ])
            refine take0 (i := 4) (oi := _) (v := ?_) rfl (by kernel_rfl) (by kernel_rfl) (by kernel_rfl) (fun _ _ _ h => h) rfl (Or.inl ⟨by rfl, ?_⟩) (fun _ => hS) ?_
            rotate_left
            · intro w0; go_simp; with_reducible rfl
            (try simp only [Act.put, List.setIfInBounds_toArray, List.set_cons_zero, List.set_cons_succ])
            refine take0 (i := 5) (oi := _) (v := ?_) rfl (by kernel_rfl) (by kernel_rfl) (by kernel_rfl) (fun _ _ _ h => h) rfl (Or.inl ⟨by rfl, ?_⟩) (fun _ => hS) ?_
            rotate_left
            · intro w0; go_simp; with_reducible rfl
            (try simp only [Act.put, List.setIfInBounds_toArray, List.set_cons_zero, List.set_cons_succ])
            refine take0 (i := 6) (oi := _) (v := ?_) rfl (by kernel_rfl) (by kernel_rfl) (by kernel_rfl) (fun _ _ _ h => h) rfl (Or.inl ⟨by rfl, ?_⟩) (fun _ => hS) ?_
            rotate_left
            · intro w0; go_simp; with_reducible rfl
            (try simp only [Act.put, List.setIfInBounds_toArray, List.set_cons_zero, List.set_cons_succ])
            refine oneT (i := 7) (by kernel_rfl) rfl (by rfl) (fun K hK => ?_)
            go_simp
            obtain ⟨v29_, h29⟩ : ∃ z : World, z = v28_.alloc (.cells #[.int .i64 0, .slice none 0 0, .slice none 0 0, .slice none 0 0, .int .i64 0] 45) := ⟨_, rfl⟩
            have bw29 : Below v28_.heap.size v28_ v29_ := by rw [h29]; exact below_new _ _
            have KA29 : Hid (Blk v29_ v28_.heap.size 45 #[.int .i64 0, .slice none 0 0, .slice none 0 0, .slice none 0 0, .int .i64 0]) := by rw [h29]; exact Blk.new _ _ _
            rw [← h29]
            obtain ⟨bA, hbA⟩ : ∃ z : Nat, v28_.heap.size = z := ⟨_, rfl⟩
            have hg29 : wz.heap.size ≤ bA := by rw [← hbA]; exact HZ28.out.size
            rw [hbA] at KA29 ⊢
            have hne : bA ≠ bB := by have := KB28.out.lt; omega
            have KB29 := Lib.hid (KB28.out.keep bw29)
            have AN29 := Lib.hid (answ_keep AN28.out bw29)
            have HZ29 := Lib.hid (below_next HZ28.out bw29)
            have hS : v29_.cell? ⟨b18, 0, none⟩ = some (.int .i64 (V : Int)) ∧ v29_.cell? ⟨b18, 1, none⟩ = some (.slice CK nk ck) := ⟨keepBox HZ29.out kz0, keepBox HZ29.out kz1⟩
            clear h29 hbA
            clear bw29
            refine hK _ _ (fun _ => hS) ?_
            clear hK
            (try simp only [Act.put, List.setIfInBounds_toArray, List.set_cons_zero, List.set_cons_succ])
            refine oneT (i := 9) (by kernel_rfl) rfl (by rfl) (fun K hK => ?_)
            have e0 := KA29.out.cell 0
            have e1 := KA29.out.cell 1
            have e2 := KA29.out.cell 2
            have e3 := KA29.out.cell 3
            have e4 := KA29.out.cell 4
            have f0 := KA29.out.frozen 0
            have f1 := KA29.out.frozen 1
            have f2 := KA29.out.frozen 2
            have f3 := KA29.out.frozen 3
            have f4 := KA29.out.frozen 4
            simp at e0 e1 e2 e3 e4
            have le := KA29.out.lt
            have pp := put5 KA29.out KB29.out hne HZ29.out hg29 (.int .i64 st9) (.slice hb9 hn9 hc9) (.slice S9 ns9 cs9) (.slice K9 nk9 ck9) (.int .i64 used9)
            have pa := answ5 AN29.out KA29.out st9 used9 hb9 S9 K9 hn9 hc9 ns9 cs9 nk9 ck9
            go_simp
            clear e0 e1 e2 e3 e4 f0 f1 f2 f3 f4 le
            refine hK _ _ (noT_no (by kernel_rfl)) ?_
            clear hK
            (try simp only [Act.put, List.setIfInBounds_toArray, List.set_cons_zero, List.set_cons_succ])
            obtain ⟨v5, hv5⟩ : ∃ z : World, z = (((((v29_.setCell ⟨bA, 0, none⟩ (.int .i64 st9)).setCell ⟨bA, 1, none⟩ (.slice hb9 hn9 hc9)).setCell ⟨bA, 2, none⟩ (.slice S9 ns9 cs9)).setCell ⟨bA, 3, none⟩ (.slice K9 nk9 ck9)).setCell ⟨bA, 4, none⟩ (.int .i64 used9)) := ⟨_, rfl⟩
            obtain ⟨p1, p2, p3⟩ := pp
            rw [← hv5] at p1 p2 p3 pa ⊢
            have P1 := Lib.hid p1
            have P2 := Lib.hid p2
            have P3 := Lib.hid p3
            have PA := Lib.hid pa
            clear hv5 p1 p2 p3 pa
            refine oneT (i := 10) (by kernel_rfl) rfl (by rfl) (fun K hK => ?_)
            have e0 := P2.out.cell 0
            have e1 := P2.out.cell 1
            have f0 := P2.out.frozen 0
            have f1 := P2.out.frozen 1
            simp at e0 e1
            have le := P2.out.lt
            have pq := put2_ P1.out P2.out hne P3.out hg26
            have pb := answ2 PA.out P2.out
            go_simp
            clear e0 e1 f0 f1 le
            refine hK _ _ (noT_no (by kernel_rfl)) ?_
            clear hK
            (try simp only [Act.put, List.setIfInBounds_toArray, List.set_cons_zero, List.set_cons_succ])
            obtain ⟨v6, hv6⟩ : ∃ z : World, z = ((v5.setCell ⟨bB, 0, none⟩ (.int .i64 0)).setCell ⟨bB, 1, none⟩ (.int .i64 0)) := ⟨_, rfl⟩
            obtain ⟨p1, p2, p3⟩ := pq
            rw [← hv6] at p1 p2 p3 pb ⊢
            have Q1 := Lib.hid p1
            have Q2 := Lib.hid p2
            have Q3 := Lib.hid (below_next hzd.out p3)
            have QA := Lib.hid pb
            clear hv6 p1 p2 p3 pb P1 P2 P3 PA
            refine doneT (by kernel_rfl) ?_ _
            try go_wp2_with fail
            go_meet
            case rel => exact ⟨bA, bB, st9, hb9, hn9, hc9, S9, ns9, cs9, K9, nk9, ck9, used9, rfl, rfl, Q3, Q1, Q2, QA⟩
          · go_simp
            obtain ⟨v30_, h30⟩ : ∃ z : World, z = v27_.alloc (.cells #[.int .i64 0, .slice none 0 0, .slice none 0 0, .slice none 0 0, .int .i64 0] 45) := ⟨_, rfl⟩
            have bw30 : Below v27_.heap.size v27_ v30_ := by rw [h30]; exact below_new _ _
            have KA30 : Hid (Blk v30_ v27_.heap.size 45 #[.int .i64 0, .slice none 0 0, .slice none 0 0, .slice none 0 0, .int .i64 0]) := by rw [h30]; exact Blk.new _ _ _
            rw [← h30]
            obtain ⟨bA, hbA⟩ : ∃ z : Nat, v27_.heap.size = z := ⟨_, rfl⟩
            have hg30 : wz.heap.size ≤ bA := by rw [← hbA]; exact HZ27.out.size
            rw [hbA] at KA30 ⊢
            have hne : bA ≠ bB := by have := KB27.out.lt; omega
            have KB30 := Lib.hid (KB27.out.keep bw30)
            have HZ30 := Lib.hid (below_next HZ27.out bw30)
            have hS : v30_.cell? ⟨b18, 0, none⟩ = some (.int .i64 (V : Int)) ∧ v30_.cell? ⟨b18, 1, none⟩ = some (.slice CK nk ck) := ⟨keepBox HZ30.out kz0, keepBox HZ30.out kz1⟩
            clear h30 hbA
            clear bw30
            refine hK _ _ (fun _ => hS) ?_
            clear hK
            (try simp only [Act.put, List.setIfInBounds_toArray, List.set_cons_zero, List.set_cons_succ])
            refine oneT (i := 3) (by kernel_rfl) rfl (by rfl) (fun K hK => ?_)
            go_simp
            have hlw := HZ30.out.size
            refine (cdcl_any CK none nk ck 0 0 (stepsF n al f0 g) [] (V : Int) v30_ (HOz.out.grid.keep HZ30.out) HNN.out (fun a ha => Nat.lt_of_lt_of_le (HLL.out a ha) hlw) ⟨Sl_nilT v30_, by simp⟩ HBES.out so ro ko po hs1 hs2 hs3 hs4 2000 (Nat.le_refl _) core_none).mono ?_
            rintro e v31_ ⟨st9, hb9, hn9, hc9, S9, ns9, cs9, K9, nk9, ck9, used9, rfl, bw31, ha9⟩
            have AN31 := Lib.hid ha9
            clear ha9 hlw
            have KA31 := Lib.hid (KA30.out.keep bw31)
            have KB31 := Lib.hid (KB30.out.keep bw31)
            have HZ31 := Lib.hid (below_next HZ30.out bw31)
            have hS : v31_.cell? ⟨b18, 0, none⟩ = some (.int .i64 (V : Int)) ∧ v31_.cell? ⟨b18, 1, none⟩ = some (.slice CK nk ck) := ⟨keepBox HZ31.out kz0, keepBox HZ31.out kz1⟩
            clear bw31
            refine hK _ _ (fun _ => hS) ?_
            clear hK
            (try simp only [Act.put, List.setIfInBounds_toArray, List.set_cons_zero, List.set_cons_succ])
            refine take0 (i := 4) (oi := _) (v := ?_) rfl (by kernel_rfl) (by kernel_rfl) (by kernel_rfl) (fun _ _ _ h => h) rfl (Or.inl ⟨by rfl, ?_⟩) (fun _ => hS) ?_
            rotate_left
            · intro w0; go_simp; with_reducible rfl
            (try simp only [Act.put, List.setIfInBounds_toArray, List.set_cons_zero, List.set_cons_succ])
            refine take0 (i := 5) (oi := _) (v := ?_) rfl (by kernel_rfl) (by kernel_rfl) (by kernel_rfl) (fun _ _ _ h => h) rfl (Or.inl ⟨by rfl, ?_⟩) (fun _ => hS) ?_
            rotate_left
            · intro w0; go_simp; with_reducible rfl
            (try simp only [Act.put, List.setIfInBounds_toArray, List.set_cons_zero, List.set_cons_succ])
            refine take0 (i := 6) (oi := _) (v := ?_) rfl (by kernel_rfl) (by kernel_rfl) (by kernel_rfl) (fun _ _ _ h => h) rfl (Or.inl ⟨by rfl, ?_⟩) (fun _ => hS) ?_
            rotate_left
            · intro w0; go_simp; with_reducible rfl
            (try simp only [Act.put, List.setIfInBounds_toArray, List.set_cons_zero, List.set_cons_succ])
            refine oneT (i := 9) (by kernel_rfl) rfl (by rfl) (fun K hK => ?_)
            have e0 := KA31.out.cell 0
            have e1 := KA31.out.cell 1
            have e2 := KA31.out.cell 2
            have e3 := KA31.out.cell 3
            have e4 := KA31.out.cell 4
            have f0 := KA31.out.frozen 0
            have f1 := KA31.out.frozen 1
            have f2 := KA31.out.frozen 2
            have f3 := KA31.out.frozen 3
            have f4 := KA31.out.frozen 4
            simp at e0 e1 e2 e3 e4
            have le := KA31.out.lt
            have pp := put5 KA31.out KB31.out hne HZ31.out hg30 (.int .i64 st9) (.slice hb9 hn9 hc9) (.slice S9 ns9 cs9) (.slice K9 nk9 ck9) (.int .i64 used9)
            have pa := answ5 AN31.out KA31.out st9 used9 hb9 S9 K9 hn9 hc9 ns9 cs9 nk9 ck9
            go_simp
            clear e0 e1 e2 e3 e4 f0 f1 f2 f3 f4 le
            refine hK _ _ (noT_no (by kernel_rfl)) ?_
            clear hK
            (try simp only [Act.put, List.setIfInBounds_toArray, List.set_cons_zero, List.set_cons_succ])
            obtain ⟨v5, hv5⟩ : ∃ z : World, z = (((((v31_.setCell ⟨bA, 0, none⟩ (.int .i64 st9)).setCell ⟨bA, 1, none⟩ (.slice hb9 hn9 hc9)).setCell ⟨bA, 2, none⟩ (.slice S9 ns9 cs9)).setCell ⟨bA, 3, none⟩ (.slice K9 nk9 ck9)).setCell ⟨bA, 4, none⟩ (.int .i64 used9)) := ⟨_, rfl⟩
            obtain ⟨p1, p2, p3⟩ := pp
            rw [← hv5] at p1 p2 p3 pa ⊢
            have P1 := Lib.hid p1
            have P2 := Lib.hid p2
            have P3 := Lib.hid p3
            have PA := Lib.hid pa
            clear hv5 p1 p2 p3 pa
            refine oneT (i := 10) (by kernel_rfl) rfl (by rfl) (fun K hK => ?_)
            have e0 := P2.out.cell 0
            have e1 := P2.out.cell 1
            have f0 := P2.out.frozen 0
            have f1 := P2.out.frozen 1
            simp at e0 e1
            have le := P2.out.lt
            have pq := put2_ P1.out P2.out hne P3.out hg26
            have pb := answ2 PA.out P2.out
            go_simp
            clear e0 e1 f0 f1 le
            refine hK _ _ (noT_no (by kernel_rfl)) ?_
            clear hK
            (try simp only [Act.put, List.setIfInBounds_toArray, List.set_cons_zero, List.set_cons_succ])
            obtain ⟨v6, hv6⟩ : ∃ z : World, z = ((v5.setCell ⟨bB, 0, none⟩ (.int .i64 0)).setCell ⟨bB, 1, none⟩ (.int .i64 0)) := ⟨_, rfl⟩
            obtain ⟨p1, p2, p3⟩ := pq
            rw [← hv6] at p1 p2 p3 pb ⊢
            have Q1 := Lib.hid p1
            have Q2 := Lib.hid p2
            have Q3 := Lib.hid (below_next hzd.out p3)
            have QA := Lib.hid pb
            clear hv6 p1 p2 p3 pb P1 P2 P3 PA
            refine doneT (by kernel_rfl) ?_ _
            try go_wp2_with fail
            go_meet
            case rel => exact ⟨bA, bB, st9, hb9, hn9, hc9, S9, ns9, cs9, K9, nk9, ck9, used9, rfl, rfl, Q3, Q1, Q2, QA⟩
        · go_simp
          obtain ⟨v32_, h32⟩ : ∃ z : World, z = v26_.alloc (.cells #[.int .i64 0, .slice none 0 0, .slice none 0 0, .slice none 0 0, .int .i64 0] 45) := ⟨_, rfl⟩
          have bw32 : Below v26_.heap.size v26_ v32_ := by rw [h32]; exact below_new _ _
          have KA32 : Hid (Blk v32_ v26_.heap.size 45 #[.int .i64 0, .slice none 0 0, .slice none 0 0, .slice none 0 0, .int .i64 0]) := by rw [h32]; exact Blk.new _ _ _
          rw [← h32]
          obtain ⟨bA, hbA⟩ : ∃ z : Nat, v26_.heap.size = z := ⟨_, rfl⟩
          have hg32 : wz.heap.size ≤ bA := by rw [← hbA]; exact HZ26.out.size
          rw [hbA] at KA32 ⊢
          have hne : bA ≠ bB := by have := KB26.out.lt; omega
          have KB32 := Lib.hid (KB26.out.keep bw32)
          have HZ32 := Lib.hid (below_next HZ26.out bw32)
          have hS : v32_.cell? ⟨b18, 0, none⟩ = some (.int .i64 (V : Int)) ∧ v32_.cell? ⟨b18, 1, none⟩ = some (.slice CK nk ck) := ⟨keepBox HZ32.out kz0, keepBox HZ32.out kz1⟩
          clear h32 hbA
          clear bw32
          refine hK _ _ (fun _ => hS) ?_
          clear hK
          (try simp only [Act.put, List.setIfInBounds_toArray, List.set_cons_zero, List.set_cons_succ])
          refine oneT (i := 2) (by kernel_rfl) rfl (by rfl) (fun K hK => ?_)
          go_simp
          refine (optionsOf_any o v32_ HOP.out).mono ?_
          rintro e v33_ ⟨so, ro, ko, po, rfl, hs1, hs2, hs3, hs4, bw33⟩
          have KA33 := Lib.hid (KA32.out.keep bw33)
          have KB33 := Lib.hid (KB32.out.keep bw33)
          have HZ33 := Lib.hid (below_next HZ32.out bw33)
          have hS : v33_.cell? ⟨b18, 0, none⟩ = some (.int .i64 (V : Int)) ∧ v33_.cell? ⟨b18, 1, none⟩ = some (.slice CK nk ck) := ⟨keepBox HZ33.out kz0, keepBox HZ33.out kz1⟩
          clear bw33
          refine hK _ _ (fun _ => hS) ?_
          clear hK
          (try simp only [Act.put, List.setIfInBounds_toArray, List.set_cons_zero, List.set_cons_succ])
          refine oneT (i := 3) (by kernel_rfl) rfl (by rfl) (fun K hK => ?_)
          go_simp
          have hlw := HZ33.out.size
          refine (cdcl_any CK none nk ck 0 0 (stepsF n al f0 g) [] (V : Int) v33_ (HOz.out.grid.keep HZ33.out) HNN.out (fun a ha => Nat.lt_of_lt_of_le (HLL.out a ha) hlw) ⟨Sl_nilT v33_, by simp⟩ HBES.out so ro ko po hs1 hs2 hs3 hs4 2000 (Nat.le_refl _) core_none).mono ?_
          rintro e v34_ ⟨st9, hb9, hn9, hc9, S9, ns9, cs9, K9, nk9, ck9, used9, rfl, bw34, ha9⟩
          have AN34 := Lib.hid ha9
          clear ha9 hlw
          have KA34 := Lib.hid (KA33.out.keep bw34)
          have KB34 := Lib.hid (KB33.out.keep bw34)
          have HZ34 := Lib.hid (below_next HZ33.out bw34)
          have hS : v34_.cell? ⟨b18, 0, none⟩ = some (.int .i64 (V : Int)) ∧ v34_.cell? ⟨b18, 1, none⟩ = some (.slice CK nk ck) := ⟨keepBox HZ34.out kz0, keepBox HZ34.out kz1⟩
          clear bw34
          refine hK _ _ (fun _ => hS) ?_
          clear hK
          (try simp only [Act.put, List.setIfInBounds_toArray, List.set_cons_zero, List.set_cons_succ])
          refine take0 (i := 4) (oi := _) (v := ?_) rfl (by kernel_rfl) (by kernel_rfl) (by kernel_rfl) (fun _ _ _ h => h) rfl (Or.inl ⟨by rfl, ?_⟩) (fun _ => hS) ?_
          rotate_left
          · intro w0; go_simp; with_reducible rfl
          (try simp only [Act.put, List.setIfInBounds_toArray, List.set_cons_zero, List.set_cons_succ])
          refine take0 (i := 5) (oi := _) (v := ?_) rfl (by kernel_rfl) (by kernel_rfl) (by kernel_rfl) (fun _ _ _ h => h) rfl (Or.inl ⟨by rfl, ?_⟩) (fun _ => hS) ?_
          rotate_left
          · intro w0; go_simp; with_reducible rfl
          (try simp only [Act.put, List.setIfInBounds_toArray, List.set_cons_zero, List.set_cons_succ])
          refine take0 (i := 6) (oi := _) (v := ?_) rfl (by kernel_rfl) (by kernel_rfl) (by kernel_rfl) (fun _ _ _ h => h) rfl (Or.inl ⟨by rfl, ?_⟩) (fun _ => hS) ?_
          rotate_left
          · intro w0; go_simp; with_reducible rfl
          (try simp only [Act.put, List.setIfInBounds_toArray, List.set_cons_zero, List.set_cons_succ])
          refine oneT (i := 9) (by kernel_rfl) rfl (by rfl) (fun K hK => ?_)
          have e0 := KA34.out.cell 0
          have e1 := KA34.out.cell 1
          have e2 := KA34.out.cell 2
          have e3 := KA34.out.cell 3
          have e4 := KA34.out.cell 4
          have f0 := KA34.out.frozen 0
          have f1 := KA34.out.frozen 1
          have f2 := KA34.out.frozen 2
          have f3 := KA34.out.frozen 3
          have f4 := KA34.out.frozen 4
          simp at e0 e1 e2 e3 e4
          have le := KA34.out.lt
          have pp := put5 KA34.out KB34.out hne HZ34.out hg32 (.int .i64 st9) (.slice hb9 hn9 hc9) (.slice S9 ns9 cs9) (.slice K9 nk9 ck9) (.int .i64 used9)
          have pa := answ5 AN34.out KA34.out st9 used9 hb9 S9 K9 hn9 hc9 ns9 cs9 nk9 ck9
          go_simp
          clear e0 e1 e2 e3 e4 f0 f1 f2 f3 f4 le
          refine hK _ _ (noT_no (by kernel_rfl)) ?_
          clear hK
          (try simp only [Act.put, List.setIfInBounds_toArray, List.set_cons_zero, List.set_cons_succ])
          obtain ⟨v5, hv5⟩ : ∃ z : World, z = (((((v34_.setCell ⟨bA, 0, none⟩ (.int .i64 st9)).setCell ⟨bA, 1, none⟩ (.slice hb9 hn9 hc9)).setCell ⟨bA, 2, none⟩ (.slice S9 ns9 cs9)).setCell ⟨bA, 3, none⟩ (.slice K9 nk9 ck9)).setCell ⟨bA, 4, none⟩ (.int .i64 used9)) := ⟨_, rfl⟩
          obtain ⟨p1, p2, p3⟩ := pp
          rw [← hv5] at p1 p2 p3 pa ⊢
          have P1 := Lib.hid p1
          have P2 := Lib.hid p2
          have P3 := Lib.hid p3
          have PA := Lib.hid pa
          clear hv5 p1 p2 p3 pa
          refine oneT (i := 10) (by kernel_rfl) rfl (by rfl) (fun K hK => ?_)
          have e0 := P2.out.cell 0
          have e1 := P2.out.cell 1
          have f0 := P2.out.frozen 0
          have f1 := P2.out.frozen 1
          simp at e0 e1
          have le := P2.out.lt
          have pq := put2_ P1.out P2.out hne P3.out hg26
          have pb := answ2 PA.out P2.out
          go_simp
          clear e0 e1 f0 f1 le
          refine hK _ _ (noT_no (by kernel_rfl)) ?_
          clear hK
          (try simp only [Act.put, List.setIfInBounds_toArray, List.set_cons_zero, List.set_cons_succ])
          obtain ⟨v6, hv6⟩ : ∃ z : World, z = ((v5.setCell ⟨bB, 0, none⟩ (.int .i64 0)).setCell ⟨bB, 1, none⟩ (.int .i64 0)) := ⟨_, rfl⟩
          obtain ⟨p1, p2, p3⟩ := pq
          rw [← hv6] at p1 p2 p3 pb ⊢
          have Q1 := Lib.hid p1
          have Q2 := Lib.hid p2
          have Q3 := Lib.hid (below_next hzd.out p3)
          have QA := Lib.hid pb
          clear hv6 p1 p2 p3 pb P1 P2 P3 PA
          refine doneT (by kernel_rfl) ?_ _
          try go_wp2_with fail
          go_meet
          case rel => exact ⟨bA, bB, st9, hb9, hn9, hc9, S9, ns9, cs9, K9, nk9, ck9, used9, rfl, rfl, Q3, Q1, Q2, QA⟩
    case rest =>
      obtain ⟨bA, bB, st9, hb9, hn9, hc9, S9, ns9, cs9, K9, nk9, ck9, used9, rfl, rfl, hcb, HA, HF, HAN⟩ := hcut
      have hcb := hcb.out
      clear HBES HNN hstl
      have HK_10 := Lib.hid (HK_9.out.keep hcb)
      have HQ_10 := Lib.hid (HQ_9.out.keep hcb)
      have HP_10 := Lib.hid (HP_9.out.keep hcb)
      have H10_10 := Lib.hid (H10_9.out.keep hcb)
      have H13_10 := Lib.hid (H13_9.out.keep hcb)
      have H16_10 := Lib.hid (H16_9.out.keep hcb)
      have HO_10 := Lib.hid (HO_9.out.keep hcb)
      have H18_10 := Lib.hid (H18_9.out.keep hcb)
      have HB_10 := Lib.hid (below_next HB_9.out hcb)
      clear hcb HK_9 HQ_9 HP_9 H10_9 H13_9 H16_9 HO_9 H18_9 HB_9 
      have a0 := HA.out.cell 0
      have a1 := HA.out.cell 1
      have al0 := HA.out.lt
      simp at a0 a1
      have g0 := HF.out.cell 0
      have gl := HF.out.lt
      simp at g0
      have hone := HAN.out.one
      have q16_0 := H16_10.out.cell 0
      have q16_l := H16_10.out.lt
      simp at q16_0
      rcases hone with rfl | rfl | rfl
      · obtain ⟨bs, hbs, hbl, hall, _⟩ := HAN.out.yes rfl
        have hsnd := steps_sound HAK.out hf16 hg16 hall
        obtain ⟨hfa, s9, hws, hs9, hgs⟩ := hsnd
        have hmn := HMIN.out _ _ hws hgs
        rw [backF_len] at hmn
        have hnp := hpl.out
        obtain ⟨bv, hbv⟩ : ∃ b : Bool, ((n : Int) == (np : Int)) = b := ⟨_, rfl⟩
        have HNLT : Hid (¬ n < np) := (show ¬ n < np by omega)
        have dlt : decide ((n : Int) < (np : Int)) = false := decide_eq_false (by omega)
        rw [hqn.out] at hfa hws
        have HBS := Lib.hid hbs
        have HFA := Lib.hid hfa
        have HWS := Lib.hid hws
        have HGS := Lib.hid hgs
        have HBL : Hid (bs.length = (n + 1) * 4 + n * q.n) := by
          have h9 := hbs.len
          have h10 := HV2.out
          rw [hqn.out] at h10
          show _ = _
          omega
        clear hbs hbl hall hfa hws hgs hmn
        have k0 := HK_10.out.cell 0
        have k1 := HK_10.out.cell 1
        have k2 := HK_10.out.cell 2
        have k3 := HK_10.out.cell 3
        have kl := HK_10.out.lt
        simp at k0 k1 k2 k3
        cases bv
        · go_wp2_with fail
          all_goals try (rename_i h9; exact absurd h9 HNLT.out)
          refine (backP_any q n HQ_10.out hn hb9 hn9 hc9 bs HBS.out HBL.out HFA.out).mono ?_
          rintro e we ⟨P2, np2, cp2, rfl, hP2, hbe⟩
          have HP2_a := Lib.hid hP2
          clear hP2
          have HK_11 := Lib.hid (HK_10.out.keep hbe)
          have HQ_11 := Lib.hid (HQ_10.out.keep hbe)
          have HP_11 := Lib.hid (HP_10.out.keep hbe)
          have H10_11 := Lib.hid (H10_10.out.keep hbe)
          have H13_11 := Lib.hid (H13_10.out.keep hbe)
          have H16_11 := Lib.hid (H16_10.out.keep hbe)
          have HO_11 := Lib.hid (HO_10.out.keep hbe)
          have H18_11 := Lib.hid (H18_10.out.keep hbe)
          have HB_11 := Lib.hid (below_next HB_10.out hbe)
          clear hbe HK_10 HQ_10 HP_10 H10_10 H13_10 H16_10 HO_10 H18_10 HB_10 q16_0 q16_l k0 k1 k2 k3 kl
          have HP2_11 := HP2_a
          clear HP2_a
          have hnp2 : Hid (np2 = n) := by show np2 = n; have h9 := HP2_11.out.len; unfold natI at h9; rw [List.length_map, backF_len] at h9; exact h9.symm
          have k0 := HK_11.out.cell 0
          have k1 := HK_11.out.cell 1
          have k2 := HK_11.out.cell 2
          have k3 := HK_11.out.cell 3
          have kl := HK_11.out.lt
          simp at k0 k1 k2 k3
          go_wp2_with fail
          obtain ⟨wf, hwwf⟩ : ∃ z : World, z = we.alloc (.cells #[.int .i64 0, .int .i64 0] 28) := ⟨_, rfl⟩
          have hbx : Below we.heap.size we wf := by rw [hwwf]; exact below_new _ _
          obtain ⟨b23, hb23⟩ : ∃ z : Nat, we.heap.size = z := ⟨_, rfl⟩
          have H23_a : Hid (Blk wf b23 28 #[.int .i64 0, .int .i64 0]) := by rw [hwwf, ← hb23]; exact Blk.new _ _ _
          rw [← hwwf]
          try rw [hb23]
          clear hwwf
          have HK_12 := Lib.hid (HK_11.out.keep hbx)
          have HQ_12 := Lib.hid (HQ_11.out.keep hbx)
          have HP_12 := Lib.hid (HP_11.out.keep hbx)
          have H10_12 := Lib.hid (H10_11.out.keep hbx)
          have H13_12 := Lib.hid (H13_11.out.keep hbx)
          have H16_12 := Lib.hid (H16_11.out.keep hbx)
          have HO_12 := Lib.hid (HO_11.out.keep hbx)
          have H18_12 := Lib.hid (H18_11.out.keep hbx)
          have HP2_12 := Lib.hid (HP2_11.out.keep hbx)
          have HB_12 := Lib.hid (below_next HB_11.out hbx)
          clear hbx HK_11 HQ_11 HP_11 H10_11 H13_11 H16_11 HO_11 H18_11 HP2_11 HB_11 k0 k1 k2 k3 kl
          have H23_12 := H23_a
          clear H23_a
          clear hb23
          refine (walk_goal q f0 g s9 al P2 np2 cp2 _ wf HQ_12.out HP2_12.out (by rw [hnp2.out]; omega) HWS.out HGS.out).mono ?_
          rintro e wg ⟨X2, nx2, cx2, rfl, hbg⟩
          have HK_13 := Lib.hid (HK_12.out.keep hbg)
          have HQ_13 := Lib.hid (HQ_12.out.keep hbg)
          have HP_13 := Lib.hid (HP_12.out.keep hbg)
          have H10_13 := Lib.hid (H10_12.out.keep hbg)
          have H13_13 := Lib.hid (H13_12.out.keep hbg)
          have H16_13 := Lib.hid (H16_12.out.keep hbg)
          have HO_13 := Lib.hid (HO_12.out.keep hbg)
          have H18_13 := Lib.hid (H18_12.out.keep hbg)
          have HP2_13 := Lib.hid (HP2_12.out.keep hbg)
          have H23_13 := Lib.hid (H23_12.out.keep hbg)
          have HB_13 := Lib.hid (below_next HB_12.out hbg)
          clear hbg HK_12 HQ_12 HP_12 H10_12 H13_12 H16_12 HO_12 H18_12 HP2_12 H23_12 HB_12 
          have q23_0 := H23_13.out.cell 0
          have q23_l := H23_13.out.lt
          simp at q23_0
          have d9 : ((np2 : Int) == (n : Int)) = true := by rw [hnp2.out]; simp
          go_wp2_with fail
          try go_ret
          exact ⟨rfl, below_next HB_13.out (by first | exact below_new _ _ | exact below_alloc (below_new _ _) _)⟩
        · go_wp2_with fail
          all_goals try (rename_i h9; exact absurd h9 HNLT.out)
          refine (backP_any q n HQ_10.out hn hb9 hn9 hc9 bs HBS.out HBL.out HFA.out).mono ?_
          rintro e we ⟨P2, np2, cp2, rfl, hP2, hbe⟩
          have HP2_a := Lib.hid hP2
          clear hP2
          have HK_11 := Lib.hid (HK_10.out.keep hbe)
          have HQ_11 := Lib.hid (HQ_10.out.keep hbe)
          have HP_11 := Lib.hid (HP_10.out.keep hbe)
          have H10_11 := Lib.hid (H10_10.out.keep hbe)
          have H13_11 := Lib.hid (H13_10.out.keep hbe)
          have H16_11 := Lib.hid (H16_10.out.keep hbe)
          have HO_11 := Lib.hid (HO_10.out.keep hbe)
          have H18_11 := Lib.hid (H18_10.out.keep hbe)
          have HB_11 := Lib.hid (below_next HB_10.out hbe)
          clear hbe HK_10 HQ_10 HP_10 H10_10 H13_10 H16_10 HO_10 H18_10 HB_10 q16_0 q16_l k0 k1 k2 k3 kl
          have HP2_11 := HP2_a
          clear HP2_a
          have hnp2 : Hid (np2 = n) := by show np2 = n; have h9 := HP2_11.out.len; unfold natI at h9; rw [List.length_map, backF_len] at h9; exact h9.symm
          have k0 := HK_11.out.cell 0
          have k1 := HK_11.out.cell 1
          have k2 := HK_11.out.cell 2
          have k3 := HK_11.out.cell 3
          have kl := HK_11.out.lt
          simp at k0 k1 k2 k3
          go_wp2_with fail
          obtain ⟨wf, hwwf⟩ : ∃ z : World, z = we.alloc (.cells #[.int .i64 0, .int .i64 0] 28) := ⟨_, rfl⟩
          have hbx : Below we.heap.size we wf := by rw [hwwf]; exact below_new _ _
          obtain ⟨b23, hb23⟩ : ∃ z : Nat, we.heap.size = z := ⟨_, rfl⟩
          have H23_a : Hid (Blk wf b23 28 #[.int .i64 0, .int .i64 0]) := by rw [hwwf, ← hb23]; exact Blk.new _ _ _
          rw [← hwwf]
          try rw [hb23]
          clear hwwf
          have HK_12 := Lib.hid (HK_11.out.keep hbx)
          have HQ_12 := Lib.hid (HQ_11.out.keep hbx)
          have HP_12 := Lib.hid (HP_11.out.keep hbx)
          have H10_12 := Lib.hid (H10_11.out.keep hbx)
          have H13_12 := Lib.hid (H13_11.out.keep hbx)
          have H16_12 := Lib.hid (H16_11.out.keep hbx)
          have HO_12 := Lib.hid (HO_11.out.keep hbx)
          have H18_12 := Lib.hid (H18_11.out.keep hbx)
          have HP2_12 := Lib.hid (HP2_11.out.keep hbx)
          have HB_12 := Lib.hid (below_next HB_11.out hbx)
          clear hbx HK_11 HQ_11 HP_11 H10_11 H13_11 H16_11 HO_11 H18_11 HP2_11 HB_11 k0 k1 k2 k3 kl
          have H23_12 := H23_a
          clear H23_a
          clear hb23
          refine (walk_goal q f0 g s9 al P2 np2 cp2 _ wf HQ_12.out HP2_12.out (by rw [hnp2.out]; omega) HWS.out HGS.out).mono ?_
          rintro e wg ⟨X2, nx2, cx2, rfl, hbg⟩
          have HK_13 := Lib.hid (HK_12.out.keep hbg)
          have HQ_13 := Lib.hid (HQ_12.out.keep hbg)
          have HP_13 := Lib.hid (HP_12.out.keep hbg)
          have H10_13 := Lib.hid (H10_12.out.keep hbg)
          have H13_13 := Lib.hid (H13_12.out.keep hbg)
          have H16_13 := Lib.hid (H16_12.out.keep hbg)
          have HO_13 := Lib.hid (HO_12.out.keep hbg)
          have H18_13 := Lib.hid (H18_12.out.keep hbg)
          have HP2_13 := Lib.hid (HP2_12.out.keep hbg)
          have H23_13 := Lib.hid (H23_12.out.keep hbg)
          have HB_13 := Lib.hid (below_next HB_12.out hbg)
          clear hbg HK_12 HQ_12 HP_12 H10_12 H13_12 H16_12 HO_12 H18_12 HP2_12 H23_12 HB_12 
          have q23_0 := H23_13.out.cell 0
          have q23_l := H23_13.out.lt
          simp at q23_0
          have d9 : ((np2 : Int) == (n : Int)) = true := by rw [hnp2.out]; simp
          go_wp2_with fail
          try go_ret
          exact ⟨rfl, below_next HB_13.out (by first | exact below_new _ _ | exact below_alloc (below_new _ _) _)⟩
      · have hnn : ((n : Int) == (np : Int)) = false := by
          rw [beq_eq_false_iff_ne]
          intro e9
          obtain ⟨mm, _, hm⟩ := steps_complete (n := n) HAK.out hf16 hg16 HW.out (by have := hpl.out; omega) HG.out
          exact HAN.out.no rfl mm hm (by simp)
        obtain ⟨cv, hcv⟩ : ∃ b : Bool, decide ((n : Int) < (np : Int)) = b := ⟨_, rfl⟩
        cases cv
        all_goals (go_wp2_with fail)
        all_goals
          go_ret
          exact ⟨rfl, HB_10.out⟩
      · obtain ⟨bv, hbv⟩ : ∃ b : Bool, ((n : Int) == (np : Int)) = b := ⟨_, rfl⟩
        obtain ⟨cv, hcv⟩ : ∃ b : Bool, decide ((n : Int) < (np : Int)) = b := ⟨_, rfl⟩
        cases bv <;> cases cv
        all_goals (go_wp2_with fail)
        all_goals
          go_ret
          exact ⟨rfl, HB_10.out⟩
  · have HNO := Lib.hid hno
    clear hno
    have HK_0 := Lib.hid (HK.out.keep hb3)
    have HQ_0 := Lib.hid (HQ.out.keep hb3)
    have HB_0 := Lib.hid (below_next HB.out hb3)
    clear hb3 HK HQ HB 
    have k0 := HK_0.out.cell 0
    have k1 := HK_0.out.cell 1
    have k2 := HK_0.out.cell 2
    have k3 := HK_0.out.cell 3
    have kl := HK_0.out.lt
    simp at k0 k1 k2 k3
    go_wp2_with fail
    obtain ⟨w4, hww4⟩ : ∃ z : World, z = w3.alloc (.cells #[.int .i64 0, .int .i64 0] 28) := ⟨_, rfl⟩
    have hbx : Below w3.heap.size w3 w4 := by rw [hww4]; exact below_new _ _
    obtain ⟨b10, hb10⟩ : ∃ z : Nat, w3.heap.size = z := ⟨_, rfl⟩
    have H10_a : Hid (Blk w4 b10 28 #[.int .i64 0, .int .i64 0]) := by rw [hww4, ← hb10]; exact Blk.new _ _ _
    rw [← hww4]
    try rw [hb10]
    clear hww4
    have HK_1 := Lib.hid (HK_0.out.keep hbx)
    have HQ_1 := Lib.hid (HQ_0.out.keep hbx)
    have HB_1 := Lib.hid (below_next HB_0.out hbx)
    clear hbx HK_0 HQ_0 HB_0 k0 k1 k2 k3 kl
    have H10_1 := H10_a
    clear H10_a
    clear hb10
    refine (far_any q f0 g al w4 HQ_1.out).mono ?_
    rintro e w5 ⟨ofar, bfar, lfar, rfl, hb5, hLE, hbt, hbf⟩
    clear hLE hbt hbf
    have HK_2 := Lib.hid (HK_1.out.keep hb5)
    have HQ_2 := Lib.hid (HQ_1.out.keep hb5)
    have H10_2 := Lib.hid (H10_1.out.keep hb5)
    have HB_2 := Lib.hid (below_next HB_1.out hb5)
    clear hb5 HK_1 HQ_1 H10_1 HB_1 
    have q10_0 := H10_2.out.cell 0
    have q10_l := H10_2.out.lt
    simp at q10_0
    have k0 := HK_2.out.cell 0
    have k1 := HK_2.out.cell 1
    have k2 := HK_2.out.cell 2
    have k3 := HK_2.out.cell 3
    have kl := HK_2.out.lt
    simp at k0 k1 k2 k3
    go_wp2_with fail
    obtain ⟨w6, hww6⟩ : ∃ z : World, z = w5.alloc (.cells #[.int .i64 0, .int .i64 0] 28) := ⟨_, rfl⟩
    have hbx : Below w5.heap.size w5 w6 := by rw [hww6]; exact below_new _ _
    obtain ⟨b13, hb13⟩ : ∃ z : Nat, w5.heap.size = z := ⟨_, rfl⟩
    have H13_a : Hid (Blk w6 b13 28 #[.int .i64 0, .int .i64 0]) := by rw [hww6, ← hb13]; exact Blk.new _ _ _
    rw [← hww6]
    try rw [hb13]
    clear hww6
    have HK_3 := Lib.hid (HK_2.out.keep hbx)
    have HQ_3 := Lib.hid (HQ_2.out.keep hbx)
    have H10_3 := Lib.hid (H10_2.out.keep hbx)
    have HB_3 := Lib.hid (below_next HB_2.out hbx)
    clear hbx HK_2 HQ_2 H10_2 HB_2 q10_0 q10_l k0 k1 k2 k3 kl
    have H13_3 := H13_a
    clear H13_a
    clear hb13
    refine (sure_any w6).mono ?_
    rintro e w7 ⟨rfl, hb7⟩
    have HK_4 := Lib.hid (HK_3.out.keep hb7)
    have HQ_4 := Lib.hid (HQ_3.out.keep hb7)
    have H10_4 := Lib.hid (H10_3.out.keep hb7)
    have H13_4 := Lib.hid (H13_3.out.keep hb7)
    have HB_4 := Lib.hid (below_next HB_3.out hb7)
    clear hb7 HK_3 HQ_3 H10_3 H13_3 HB_3 
    have k0 := HK_4.out.cell 0
    have k1 := HK_4.out.cell 1
    have k2 := HK_4.out.cell 2
    have k3 := HK_4.out.cell 3
    have kl := HK_4.out.lt
    simp at k0 k1 k2 k3
    go_wp2_with fail
    refine (picked_any less 4 w7 HLI.out (by omega) (by omega) (n : Int) hni).mono ?_
    rintro e wa ⟨rfl, mq, hmq⟩
    have hbk : Below w7.heap.size w7 wa := by rw [hmq]; exact below_drewN _ _
    clear hmq
    have HK_5 := Lib.hid (HK_4.out.keep hbk)
    have HQ_5 := Lib.hid (HQ_4.out.keep hbk)
    have H10_5 := Lib.hid (H10_4.out.keep hbk)
    have H13_5 := Lib.hid (H13_4.out.keep hbk)
    have HB_5 := Lib.hid (below_next HB_4.out hbk)
    clear hbk HK_4 HQ_4 H10_4 H13_4 HB_4 k0 k1 k2 k3 kl
    have k0 := HK_5.out.cell 0
    have k1 := HK_5.out.cell 1
    have k2 := HK_5.out.cell 2
    have k3 := HK_5.out.cell 3
    have kl := HK_5.out.lt
    simp at k0 k1 k2 k3
    go_wp2_with fail
    refine (steps_any q n HQ_5.out hn).mono ?_
    rintro e wb ⟨CK, nk, ck, rfl, hO, hnk, hbs⟩
    have HO_a := Lib.hid hO
    clear hO
    have HK_6 := Lib.hid (HK_5.out.keep hbs)
    have HQ_6 := Lib.hid (HQ_5.out.keep hbs)
    have H10_6 := Lib.hid (H10_5.out.keep hbs)
    have H13_6 := Lib.hid (H13_5.out.keep hbs)
    have HB_6 := Lib.hid (below_next HB_5.out hbs)
    clear hbs HK_5 HQ_5 H10_5 H13_5 HB_5 k0 k1 k2 k3 kl
    have HO_6 := HO_a
    clear HO_a
    obtain ⟨V, hV⟩ : ∃ V : Nat, Hid ((n + 1) * 4 + n * al.length = V) := ⟨_, rfl⟩
    rw [hV.out]
    go_upto_region 14 with fail
    obtain ⟨wc, hwc⟩ : ∃ z : World, z = wb.alloc (.cells #[.int .i64 (V : Int), .slice CK nk ck] 40) := ⟨_, rfl⟩
    obtain ⟨wd, hwd⟩ : ∃ z : World, z = wc.alloc (.cells #[.int .i64 0, .int .i64 0] 28) := ⟨_, rfl⟩
    have hbc : Below wb.heap.size wb wc := by rw [hwc]; exact below_new _ _
    have hbd : Below wc.heap.size wc wd := by rw [hwd]; exact below_new _ _
    have hbw : Below wb.heap.size wb wd := below_next hbc hbd
    obtain ⟨b18, h18⟩ : ∃ z : Nat, wb.heap.size = z := ⟨_, rfl⟩
    obtain ⟨b19, h19⟩ : ∃ z : Nat, wb.heap.size + 1 = z := ⟨_, rfl⟩
    have H18_a : Hid (Blk wd b18 40 #[.int .i64 (V : Int), .slice CK nk ck]) := by
      have h9 : Blk wc wb.heap.size 40 #[.int .i64 (V : Int), .slice CK nk ck] := by rw [hwc]; exact Blk.new _ _ _
      rw [h18] at h9
      exact h9.keep hbd
    have HV2 : Hid (V = (n + 1) * 4 + n * al.length) := hV.out.symm
    rw [← hwc, ← hwd]
    try rw [h18]
    try rw [h19]
    clear hwc hwd hbc hbd h18 h19
    have HK_7 := Lib.hid (HK_6.out.keep hbw)
    have HQ_7 := Lib.hid (HQ_6.out.keep hbw)
    have H10_7 := Lib.hid (H10_6.out.keep hbw)
    have H13_7 := Lib.hid (H13_6.out.keep hbw)
    have HO_7 := Lib.hid (HO_6.out.keep hbw)
    have HB_7 := Lib.hid (below_next HB_6.out hbw)
    clear hbw HK_6 HQ_6 H10_6 H13_6 HO_6 HB_6 
    have H18_7 := H18_a
    clear H18_a
    have hstl : (stepsF n al f0 g).length ≤ 200 := by have := HO_7.out.len; omega
    have HBES : Hid (besideR (V : Int) (stepsF n al f0 g) [] = (0, 0)) := by show _ = _; rw [HV2.out]; exact besides hal3 hn hstl
    have HNN : Hid (CK = none → ck = 0) := ownP_nil_ HO_7.out
    go_cut [20, 21] from 90 (fun s20 s21 w9 => ∃ (bA bB : Nat) (st9 : Int) (hb9 : Option Addr) (hn9 hc9 : Nat) (S9 : Option Addr) (ns9 cs9 : Nat) (K9 : Option Addr) (nk9 ck9 : Nat) (used9 : Int), s20 = .pointer (some ⟨bA, 0, none⟩) ∧ s21 = .pointer (some ⟨bB, 0, none⟩) ∧ Hid (Below wd.heap.size wd w9) ∧ Hid (Blk w9 bA 45 #[.int .i64 st9, .slice hb9 hn9 hc9, .slice S9 ns9 cs9, .slice K9 nk9 ck9, .int .i64 used9]) ∧ Hid (Blk w9 bB 28 #[.int .i64 0, .int .i64 0]) ∧ Hid (Answ (V : Int) (stepsF n al f0 g) [] 2000 w9 st9 hb9 hn9 hc9))
    case first =>
      obtain ⟨wz, hwz⟩ : ∃ z : World, z = wd.drew := ⟨_, rfl⟩
      have hbz : Below wd.heap.size wd wz := by rw [hwz]; exact below_drewN _ 1
      have hzd := Lib.hid hbz
      have HOz := Lib.hid (HO_7.out.keep hbz)
      have H18z := Lib.hid (H18_7.out.keep hbz)
      have kz0 := H18z.out.cell 0
      have kz1 := H18z.out.cell 1
      have kz4 := H18z.out.lt
      simp at kz0 kz1
      have hS : wz.cell? ⟨b18, 0, none⟩ = some (.int .i64 (V : Int)) ∧ wz.cell? ⟨b18, 1, none⟩ = some (.slice CK nk ck) := ⟨kz0, kz1⟩
      have HZ0 := Lib.hid (Below.refl wz.heap.size wz)
      have HLL : Hid (∀ a, CK = some a → a.block < wz.heap.size) := ownP_lt_ HOz.out
      clear hbz
      refine wp_region_tail (fun w' => w'.cell? ⟨b18, 0, none⟩ = some (.int .i64 (V : Int)) ∧ w'.cell? ⟨b18, 1, none⟩ = some (.slice CK nk ck)) [9, 10] (by kernel_rfl) ?_
      change wpAnyT _ _ _ _ _ _ _ _ _ wd.drew
      rw [← hwz]
      clear hwz
      refine takeS (i := 0) (oi := _) (v := ?_) rfl (by kernel_rfl) (by kernel_rfl) (by kernel_rfl) (fun _ _ _ h => h) rfl (by kernel_rfl) (by kernel_rfl) (Or.inl ⟨by rfl, ?_⟩) hS ?_
      rotate_left
      · intro w0 hSw; (try dsimp only at hSw); go_simp; with_reducible rfl
      (try simp only [Act.put, List.setIfInBounds_toArray, List.set_cons_zero, List.set_cons_succ])
      refine take0 (i := 1) (oi := _) (v := ?_) rfl (by kernel_rfl) (by kernel_rfl) (by kernel_rfl) (fun _ _ _ h => h) rfl (Or.inl ⟨by rfl, ?_⟩) (fun _ => hS) ?_
      rotate_left
      · intro w0; go_simp; with_reducible rfl
      (try simp only [Act.put, List.setIfInBounds_toArray, List.set_cons_zero, List.set_cons_succ])
      refine threeT_ (i := 2) (j := 7) (k := 8) (by kernel_rfl) rfl (by rfl) rfl (by rfl) rfl (by rfl) (fun K hK => ?_) (fun K hK => ?_) (fun K hK => ?_)
      · go_simp
        refine (optionsOf_any o wz HOP.out).mono ?_
        rintro e v1_ ⟨so, ro, ko, po, rfl, hs1, hs2, hs3, hs4, bw1⟩
        have HZ1 := Lib.hid (below_next HZ0.out bw1)
        have hS : v1_.cell? ⟨b18, 0, none⟩ = some (.int .i64 (V : Int)) ∧ v1_.cell? ⟨b18, 1, none⟩ = some (.slice CK nk ck) := ⟨keepBox HZ1.out kz0, keepBox HZ1.out kz1⟩
        clear bw1
        refine hK _ _ (fun _ => hS) ?_
        clear hK
        (try simp only [Act.put, List.setIfInBounds_toArray, List.set_cons_zero, List.set_cons_succ])
        refine threeT_ (i := 3) (j := 7) (k := 8) (by kernel_rfl) rfl (by rfl) rfl (by rfl) rfl (by rfl) (fun K hK => ?_) (fun K hK => ?_) (fun K hK => ?_)
        · go_simp
          have hlw := HZ1.out.size
          refine (cdcl_any CK none nk ck 0 0 (stepsF n al f0 g) [] (V : Int) v1_ (HOz.out.grid.keep HZ1.out) HNN.out (fun a ha => Nat.lt_of_lt_of_le (HLL.out a ha) hlw) ⟨Sl_nilT v1_, by simp⟩ HBES.out so ro ko po hs1 hs2 hs3 hs4 2000 (Nat.le_refl _) core_none).mono ?_
          rintro e v2_ ⟨st9, hb9, hn9, hc9, S9, ns9, cs9, K9, nk9, ck9, used9, rfl, bw2, ha9⟩
          have AN2 := Lib.hid ha9
          clear ha9 hlw
          have HZ2 := Lib.hid (below_next HZ1.out bw2)
          have hS : v2_.cell? ⟨b18, 0, none⟩ = some (.int .i64 (V : Int)) ∧ v2_.cell? ⟨b18, 1, none⟩ = some (.slice CK nk ck) := ⟨keepBox HZ2.out kz0, keepBox HZ2.out kz1⟩
          clear bw2
          refine hK _ _ (fun _ => hS) ?_
          clear hK
          (try simp only [Act.put, List.setIfInBounds_toArray, List.set_cons_zero, List.set_cons_succ])
          refine take0 (i := 4) (oi := _) (v := ?_) rfl (by kernel_rfl) (by kernel_rfl) (by kernel_rfl) (fun _ _ _ h => h) rfl (Or.inl ⟨by rfl, ?_⟩) (fun _ => hS) ?_
          rotate_left
          · intro w0; go_simp; with_reducible rfl
          (try simp only [Act.put, List.setIfInBounds_toArray, List.set_cons_zero, List.set_cons_succ])
          refine take0 (i := 5) (oi := _) (v := ?_) rfl (by kernel_rfl) (by kernel_rfl) (by kernel_rfl) (fun _ _ _ h => h) rfl (Or.inl ⟨by rfl, ?_⟩) (fun _ => hS) ?_
          rotate_left
          · intro w0; go_simp; with_reducible rfl
          (try simp only [Act.put, List.setIfInBounds_toArray, List.set_cons_zero, List.set_cons_succ])
          refine take0 (i := 6) (oi := _) (v := ?_) rfl (by kernel_rfl) (by kernel_rfl) (by kernel_rfl) (fun _ _ _ h => h) rfl (Or.inl ⟨by rfl, ?_⟩) (fun _ => hS) ?_
          rotate_left
          · intro w0; go_simp; with_reducible rfl
          (try simp only [Act.put, List.setIfInBounds_toArray, List.set_cons_zero, List.set_cons_succ])
          refine twoT (i := 7) (j := 8) (by kernel_rfl) rfl (by rfl) rfl (by rfl) (fun K hK => ?_) (fun K hK => ?_)
          · go_simp
            obtain ⟨v3_, h3⟩ : ∃ z : World, z = v2_.alloc (.cells #[.int .i64 0, .slice none 0 0, .slice none 0 0, .slice none 0 0, .int .i64 0] 45) := ⟨_, rfl⟩
            have bw3 : Below v2_.heap.size v2_ v3_ := by rw [h3]; exact below_new _ _
            have KA3 : Hid (Blk v3_ v2_.heap.size 45 #[.int .i64 0, .slice none 0 0, .slice none 0 0, .slice none 0 0, .int .i64 0]) := by rw [h3]; exact Blk.new _ _ _
            rw [← h3]
            obtain ⟨bA, hbA⟩ : ∃ z : Nat, v2_.heap.size = z := ⟨_, rfl⟩
            have hg3 : wz.heap.size ≤ bA := by rw [← hbA]; exact HZ2.out.size
            rw [hbA] at KA3 ⊢
            have AN3 := Lib.hid (answ_keep AN2.out bw3)
            have HZ3 := Lib.hid (below_next HZ2.out bw3)
            have hS : v3_.cell? ⟨b18, 0, none⟩ = some (.int .i64 (V : Int)) ∧ v3_.cell? ⟨b18, 1, none⟩ = some (.slice CK nk ck) := ⟨keepBox HZ3.out kz0, keepBox HZ3.out kz1⟩
            clear h3 hbA
            clear bw3
            refine hK _ _ (fun _ => hS) ?_
            clear hK
            (try simp only [Act.put, List.setIfInBounds_toArray, List.set_cons_zero, List.set_cons_succ])
            refine oneT (i := 8) (by kernel_rfl) rfl (by rfl) (fun K hK => ?_)
            go_simp
            obtain ⟨v4_, h4⟩ : ∃ z : World, z = v3_.alloc (.cells #[.int .i64 0, .int .i64 0] 28) := ⟨_, rfl⟩
            have bw4 : Below v3_.heap.size v3_ v4_ := by rw [h4]; exact below_new _ _
            have KB4 : Hid (Blk v4_ v3_.heap.size 28 #[.int .i64 0, .int .i64 0]) := by rw [h4]; exact Blk.new _ _ _
            rw [← h4]
            obtain ⟨bB, hbB⟩ : ∃ z : Nat, v3_.heap.size = z := ⟨_, rfl⟩
            have hg4 : wz.heap.size ≤ bB := by rw [← hbB]; exact HZ3.out.size
            rw [hbB] at KB4 ⊢
            have hne : bA ≠ bB := by have := KA3.out.lt; omega
            have KA4 := Lib.hid (KA3.out.keep bw4)
            have AN4 := Lib.hid (answ_keep AN3.out bw4)
            have HZ4 := Lib.hid (below_next HZ3.out bw4)
            have hS : v4_.cell? ⟨b18, 0, none⟩ = some (.int .i64 (V : Int)) ∧ v4_.cell? ⟨b18, 1, none⟩ = some (.slice CK nk ck) := ⟨keepBox HZ4.out kz0, keepBox HZ4.out kz1⟩
            clear h4 hbB
            clear bw4
            refine hK _ _ (fun _ => hS) ?_
            clear hK
            (try simp only [Act.put, List.setIfInBounds_toArray, List.set_cons_zero, List.set_cons_succ])
            refine oneT (i := 9) (by kernel_rfl) rfl (by rfl) (fun K hK => ?_)
            have e0 := KA4.out.cell 0
            have e1 := KA4.out.cell 1
            have e2 := KA4.out.cell 2
            have e3 := KA4.out.cell 3
            have e4 := KA4.out.cell 4
            have f0 := KA4.out.frozen 0
            have f1 := KA4.out.frozen 1
            have f2 := KA4.out.frozen 2
            have f3 := KA4.out.frozen 3
            have f4 := KA4.out.frozen 4
            simp at e0 e1 e2 e3 e4
            have le := KA4.out.lt
            have pp := put5 KA4.out KB4.out hne HZ4.out hg3 (.int .i64 st9) (.slice hb9 hn9 hc9) (.slice S9 ns9 cs9) (.slice K9 nk9 ck9) (.int .i64 used9)
            have pa := answ5 AN4.out KA4.out st9 used9 hb9 S9 K9 hn9 hc9 ns9 cs9 nk9 ck9
            go_simp
            clear e0 e1 e2 e3 e4 f0 f1 f2 f3 f4 le
            refine hK _ _ (noT_no (by kernel_rfl)) ?_
            clear hK
            (try simp only [Act.put, List.setIfInBounds_toArray, List.set_cons_zero, List.set_cons_succ])
            obtain ⟨v5, hv5⟩ : ∃ z : World, z = (((((v4_.setCell ⟨bA, 0, none⟩ (.int .i64 st9)).setCell ⟨bA, 1, none⟩ (.slice hb9 hn9 hc9)).setCell ⟨bA, 2, none⟩ (.slice S9 ns9 cs9)).setCell ⟨bA, 3, none⟩ (.slice K9 nk9 ck9)).setCell ⟨bA, 4, none⟩ (.int .i64 used9)) := ⟨_, rfl⟩
            obtain ⟨p1, p2, p3⟩ := pp
            rw [← hv5] at p1 p2 p3 pa ⊢
            have P1 := Lib.hid p1
            have P2 := Lib.hid p2
            have P3 := Lib.hid p3
            have PA := Lib.hid pa
            clear hv5 p1 p2 p3 pa
            refine oneT (i := 10) (by kernel_rfl) rfl (by rfl) (fun K hK => ?_)
            have e0 := P2.out.cell 0
            have e1 := P2.out.cell 1
            have f0 := P2.out.frozen 0
            have f1 := P2.out.frozen 1
            simp at e0 e1
            have le := P2.out.lt
            have pq := put2_ P1.out P2.out hne P3.out hg4
            have pb := answ2 PA.out P2.out
            go_simp
            clear e0 e1 f0 f1 le
            refine hK _ _ (noT_no (by kernel_rfl)) ?_
            clear hK
            (try simp only [Act.put, List.setIfInBounds_toArray, List.set_cons_zero, List.set_cons_succ])
            obtain ⟨v6, hv6⟩ : ∃ z : World, z = ((v5.setCell ⟨bB, 0, none⟩ (.int .i64 0)).setCell ⟨bB, 1, none⟩ (.int .i64 0)) := ⟨_, rfl⟩
            obtain ⟨p1, p2, p3⟩ := pq
            rw [← hv6] at p1 p2 p3 pb ⊢
            have Q1 := Lib.hid p1
            have Q2 := Lib.hid p2
            have Q3 := Lib.hid (below_next hzd.out p3)
            have QA := Lib.hid pb
            clear hv6 p1 p2 p3 pb P1 P2 P3 PA
            refine doneT (by kernel_rfl) ?_ _
            try go_wp2_with fail
            go_meet
            case rel => exact ⟨bA, bB, st9, hb9, hn9, hc9, S9, ns9, cs9, K9, nk9, ck9, used9, rfl, rfl, Q3, Q1, Q2, QA⟩
          · go_simp
            obtain ⟨v5_, h5⟩ : ∃ z : World, z = v2_.alloc (.cells #[.int .i64 0, .int .i64 0] 28) := ⟨_, rfl⟩
            have bw5 : Below v2_.heap.size v2_ v5_ := by rw [h5]; exact below_new _ _
            have KB5 : Hid (Blk v5_ v2_.heap.size 28 #[.int .i64 0, .int .i64 0]) := by rw [h5]; exact Blk.new _ _ _
            rw [← h5]
            obtain ⟨bB, hbB⟩ : ∃ z : Nat, v2_.heap.size = z := ⟨_, rfl⟩
            have hg5 : wz.heap.size ≤ bB := by rw [← hbB]; exact HZ2.out.size
            rw [hbB] at KB5 ⊢
            have AN5 := Lib.hid (answ_keep AN2.out bw5)
            have HZ5 := Lib.hid (below_next HZ2.out bw5)
            have hS : v5_.cell? ⟨b18, 0, none⟩ = some (.int .i64 (V : Int)) ∧ v5_.cell? ⟨b18, 1, none⟩ = some (.slice CK nk ck) := ⟨keepBox HZ5.out kz0, keepBox HZ5.out kz1⟩
            clear h5 hbB
            clear bw5
            refine hK _ _ (fun _ => hS) ?_
            clear hK
            (try simp only [Act.put, List.setIfInBounds_toArray, List.set_cons_zero, List.set_cons_succ])
            refine oneT (i := 7) (by kernel_rfl) rfl (by rfl) (fun K hK => ?_)
            go_simp
            obtain ⟨v6_, h6⟩ : ∃ z : World, z = v5_.alloc (.cells #[.int .i64 0, .slice none 0 0, .slice none 0 0, .slice none 0 0, .int .i64 0] 45) := ⟨_, rfl⟩
            have bw6 : Below v5_.heap.size v5_ v6_ := by rw [h6]; exact below_new _ _
            have KA6 : Hid (Blk v6_ v5_.heap.size 45 #[.int .i64 0, .slice none 0 0, .slice none 0 0, .slice none 0 0, .int .i64 0]) := by rw [h6]; exact Blk.new _ _ _
            rw [← h6]
            obtain ⟨bA, hbA⟩ : ∃ z : Nat, v5_.heap.size = z := ⟨_, rfl⟩
            have hg6 : wz.heap.size ≤ bA := by rw [← hbA]; exact HZ5.out.size
            rw [hbA] at KA6 ⊢
            have hne : bA ≠ bB := by have := KB5.out.lt; omega
            have KB6 := Lib.hid (KB5.out.keep bw6)
            have AN6 := Lib.hid (answ_keep AN5.out bw6)
            have HZ6 := Lib.hid (below_next HZ5.out bw6)
            have hS : v6_.cell? ⟨b18, 0, none⟩ = some (.int .i64 (V : Int)) ∧ v6_.cell? ⟨b18, 1, none⟩ = some (.slice CK nk ck) := ⟨keepBox HZ6.out kz0, keepBox HZ6.out kz1⟩
            clear h6 hbA
            clear bw6
            refine hK _ _ (fun _ => hS) ?_
            clear hK
            (try simp only [Act.put, List.setIfInBounds_toArray, List.set_cons_zero, List.set_cons_succ])
            refine oneT (i := 9) (by kernel_rfl) rfl (by rfl) (fun K hK => ?_)
            have e0 := KA6.out.cell 0
            have e1 := KA6.out.cell 1
            have e2 := KA6.out.cell 2
            have e3 := KA6.out.cell 3
            have e4 := KA6.out.cell 4
            have f0 := KA6.out.frozen 0
            have f1 := KA6.out.frozen 1
            have f2 := KA6.out.frozen 2
            have f3 := KA6.out.frozen 3
            have f4 := KA6.out.frozen 4
            simp at e0 e1 e2 e3 e4
            have le := KA6.out.lt
            have pp := put5 KA6.out KB6.out hne HZ6.out hg6 (.int .i64 st9) (.slice hb9 hn9 hc9) (.slice S9 ns9 cs9) (.slice K9 nk9 ck9) (.int .i64 used9)
            have pa := answ5 AN6.out KA6.out st9 used9 hb9 S9 K9 hn9 hc9 ns9 cs9 nk9 ck9
            go_simp
            clear e0 e1 e2 e3 e4 f0 f1 f2 f3 f4 le
            refine hK _ _ (noT_no (by kernel_rfl)) ?_
            clear hK
            (try simp only [Act.put, List.setIfInBounds_toArray, List.set_cons_zero, List.set_cons_succ])
            obtain ⟨v5, hv5⟩ : ∃ z : World, z = (((((v6_.setCell ⟨bA, 0, none⟩ (.int .i64 st9)).setCell ⟨bA, 1, none⟩ (.slice hb9 hn9 hc9)).setCell ⟨bA, 2, none⟩ (.slice S9 ns9 cs9)).setCell ⟨bA, 3, none⟩ (.slice K9 nk9 ck9)).setCell ⟨bA, 4, none⟩ (.int .i64 used9)) := ⟨_, rfl⟩
            obtain ⟨p1, p2, p3⟩ := pp
            rw [← hv5] at p1 p2 p3 pa ⊢
            have P1 := Lib.hid p1
            have P2 := Lib.hid p2
            have P3 := Lib.hid p3
            have PA := Lib.hid pa
            clear hv5 p1 p2 p3 pa
            refine oneT (i := 10) (by kernel_rfl) rfl (by rfl) (fun K hK => ?_)
            have e0 := P2.out.cell 0
            have e1 := P2.out.cell 1
            have f0 := P2.out.frozen 0
            have f1 := P2.out.frozen 1
            simp at e0 e1
            have le := P2.out.lt
            have pq := put2_ P1.out P2.out hne P3.out hg5
            have pb := answ2 PA.out P2.out
            go_simp
            clear e0 e1 f0 f1 le
            refine hK _ _ (noT_no (by kernel_rfl)) ?_
            clear hK
            (try simp only [Act.put, List.setIfInBounds_toArray, List.set_cons_zero, List.set_cons_succ])
            obtain ⟨v6, hv6⟩ : ∃ z : World, z = ((v5.setCell ⟨bB, 0, none⟩ (.int .i64 0)).setCell ⟨bB, 1, none⟩ (.int .i64 0)) := ⟨_, rfl⟩
            obtain ⟨p1, p2, p3⟩ := pq
            rw [← hv6] at p1 p2 p3 pb ⊢
            have Q1 := Lib.hid p1
            have Q2 := Lib.hid p2
            have Q3 := Lib.hid (below_next hzd.out p3)
            have QA := Lib.hid pb
            clear hv6 p1 p2 p3 pb P1 P2 P3 PA
            refine doneT (by kernel_rfl) ?_ _
            try go_wp2_with fail
            go_meet
            case rel => exact ⟨bA, bB, st9, hb9, hn9, hc9, S9, ns9, cs9, K9, nk9, ck9, used9, rfl, rfl, Q3, Q1, Q2, QA⟩
        · go_simp
          obtain ⟨v7_, h7⟩ : ∃ z : World, z = v1_.alloc (.cells #[.int .i64 0, .slice none 0 0, .slice none 0 0, .slice none 0 0, .int .i64 0] 45) := ⟨_, rfl⟩
          have bw7 : Below v1_.heap.size v1_ v7_ := by rw [h7]; exact below_new _ _
          have KA7 : Hid (Blk v7_ v1_.heap.size 45 #[.int .i64 0, .slice none 0 0, .slice none 0 0, .slice none 0 0, .int .i64 0]) := by rw [h7]; exact Blk.new _ _ _
          rw [← h7]
          obtain ⟨bA, hbA⟩ : ∃ z : Nat, v1_.heap.size = z := ⟨_, rfl⟩
          have hg7 : wz.heap.size ≤ bA := by rw [← hbA]; exact HZ1.out.size
          rw [hbA] at KA7 ⊢
          have HZ7 := Lib.hid (below_next HZ1.out bw7)
          have hS : v7_.cell? ⟨b18, 0, none⟩ = some (.int .i64 (V : Int)) ∧ v7_.cell? ⟨b18, 1, none⟩ = some (.slice CK nk ck) := ⟨keepBox HZ7.out kz0, keepBox HZ7.out kz1⟩
          clear h7 hbA
          clear bw7
          refine hK _ _ (fun _ => hS) ?_
          clear hK
          (try simp only [Act.put, List.setIfInBounds_toArray, List.set_cons_zero, List.set_cons_succ])
          refine twoT (i := 3) (j := 8) (by kernel_rfl) rfl (by rfl) rfl (by rfl) (fun K hK => ?_) (fun K hK => ?_)
          · go_simp
            have hlw := HZ7.out.size
            refine (cdcl_any CK none nk ck 0 0 (stepsF n al f0 g) [] (V : Int) v7_ (HOz.out.grid.keep HZ7.out) HNN.out (fun a ha => Nat.lt_of_lt_of_le (HLL.out a ha) hlw) ⟨Sl_nilT v7_, by simp⟩ HBES.out so ro ko po hs1 hs2 hs3 hs4 2000 (Nat.le_refl _) core_none).mono ?_
            rintro e v8_ ⟨st9, hb9, hn9, hc9, S9, ns9, cs9, K9, nk9, ck9, used9, rfl, bw8, ha9⟩
            have AN8 := Lib.hid ha9
            clear ha9 hlw
            have KA8 := Lib.hid (KA7.out.keep bw8)
            have HZ8 := Lib.hid (below_next HZ7.out bw8)
            have hS : v8_.cell? ⟨b18, 0, none⟩ = some (.int .i64 (V : Int)) ∧ v8_.cell? ⟨b18, 1, none⟩ = some (.slice CK nk ck) := ⟨keepBox HZ8.out kz0, keepBox HZ8.out kz1⟩
            clear bw8
            refine hK _ _ (fun _ => hS) ?_
            clear hK
            (try simp only [Act.put, List.setIfInBounds_toArray, List.set_cons_zero, List.set_cons_succ])
            refine take0 (i := 4) (oi := _) (v := ?_) rfl (by kernel_rfl) (by kernel_rfl) (by kernel_rfl) (fun _ _ _ h => h) rfl (Or.inl ⟨by rfl, ?_⟩) (fun _ => hS) ?_
            rotate_left
            · intro w0; go_simp; with_reducible rfl
            (try simp only [Act.put, List.setIfInBounds_toArray, List.set_cons_zero, List.set_cons_succ])
            refine take0 (i := 5) (oi := _) (v := ?_) rfl (by kernel_rfl) (by kernel_rfl) (by kernel_rfl) (fun _ _ _ h => h) rfl (Or.inl ⟨by rfl, ?_⟩) (fun _ => hS) ?_
            rotate_left
            · intro w0; go_simp; with_reducible rfl
            (try simp only [Act.put, List.setIfInBounds_toArray, List.set_cons_zero, List.set_cons_succ])
            refine take0 (i := 6) (oi := _) (v := ?_) rfl (by kernel_rfl) (by kernel_rfl) (by kernel_rfl) (fun _ _ _ h => h) rfl (Or.inl ⟨by rfl, ?_⟩) (fun _ => hS) ?_
            rotate_left
            · intro w0; go_simp; with_reducible rfl
            (try simp only [Act.put, List.setIfInBounds_toArray, List.set_cons_zero, List.set_cons_succ])
            refine oneT (i := 8) (by kernel_rfl) rfl (by rfl) (fun K hK => ?_)
            go_simp
            obtain ⟨v9_, h9⟩ : ∃ z : World, z = v8_.alloc (.cells #[.int .i64 0, .int .i64 0] 28) := ⟨_, rfl⟩
            have bw9 : Below v8_.heap.size v8_ v9_ := by rw [h9]; exact below_new _ _
            have KB9 : Hid (Blk v9_ v8_.heap.size 28 #[.int .i64 0, .int .i64 0]) := by rw [h9]; exact Blk.new _ _ _
            rw [← h9]
            obtain ⟨bB, hbB⟩ : ∃ z : Nat, v8_.heap.size = z := ⟨_, rfl⟩
            have hg9 : wz.heap.size ≤ bB := by rw [← hbB]; exact HZ8.out.size
            rw [hbB] at KB9 ⊢
            have hne : bA ≠ bB := by have := KA8.out.lt; omega
            have KA9 := Lib.hid (KA8.out.keep bw9)
            have AN9 := Lib.hid (answ_keep AN8.out bw9)
            have HZ9 := Lib.hid (below_next HZ8.out bw9)
            have hS : v9_.cell? ⟨b18, 0, none⟩ = some (.int .i64 (V : Int)) ∧ v9_.cell? ⟨b18, 1, none⟩ = some (.slice CK nk ck) := ⟨keepBox HZ9.out kz0, keepBox HZ9.out kz1⟩
            clear h9 hbB
            clear bw9
            refine hK _ _ (fun _ => hS) ?_
            clear hK
            (try simp only [Act.put, List.setIfInBounds_toArray, List.set_cons_zero, List.set_cons_succ])
            refine oneT (i := 9) (by kernel_rfl) rfl (by rfl) (fun K hK => ?_)
            have e0 := KA9.out.cell 0
            have e1 := KA9.out.cell 1
            have e2 := KA9.out.cell 2
            have e3 := KA9.out.cell 3
            have e4 := KA9.out.cell 4
            have f0 := KA9.out.frozen 0
            have f1 := KA9.out.frozen 1
            have f2 := KA9.out.frozen 2
            have f3 := KA9.out.frozen 3
            have f4 := KA9.out.frozen 4
            simp at e0 e1 e2 e3 e4
            have le := KA9.out.lt
            have pp := put5 KA9.out KB9.out hne HZ9.out hg7 (.int .i64 st9) (.slice hb9 hn9 hc9) (.slice S9 ns9 cs9) (.slice K9 nk9 ck9) (.int .i64 used9)
            have pa := answ5 AN9.out KA9.out st9 used9 hb9 S9 K9 hn9 hc9 ns9 cs9 nk9 ck9
            go_simp
            clear e0 e1 e2 e3 e4 f0 f1 f2 f3 f4 le
            refine hK _ _ (noT_no (by kernel_rfl)) ?_
            clear hK
            (try simp only [Act.put, List.setIfInBounds_toArray, List.set_cons_zero, List.set_cons_succ])
            obtain ⟨v5, hv5⟩ : ∃ z : World, z = (((((v9_.setCell ⟨bA, 0, none⟩ (.int .i64 st9)).setCell ⟨bA, 1, none⟩ (.slice hb9 hn9 hc9)).setCell ⟨bA, 2, none⟩ (.slice S9 ns9 cs9)).setCell ⟨bA, 3, none⟩ (.slice K9 nk9 ck9)).setCell ⟨bA, 4, none⟩ (.int .i64 used9)) := ⟨_, rfl⟩
            obtain ⟨p1, p2, p3⟩ := pp
            rw [← hv5] at p1 p2 p3 pa ⊢
            have P1 := Lib.hid p1
            have P2 := Lib.hid p2
            have P3 := Lib.hid p3
            have PA := Lib.hid pa
            clear hv5 p1 p2 p3 pa
            refine oneT (i := 10) (by kernel_rfl) rfl (by rfl) (fun K hK => ?_)
            have e0 := P2.out.cell 0
            have e1 := P2.out.cell 1
            have f0 := P2.out.frozen 0
            have f1 := P2.out.frozen 1
            simp at e0 e1
            have le := P2.out.lt
            have pq := put2_ P1.out P2.out hne P3.out hg9
            have pb := answ2 PA.out P2.out
            go_simp
            clear e0 e1 f0 f1 le
            refine hK _ _ (noT_no (by kernel_rfl)) ?_
            clear hK
            (try simp only [Act.put, List.setIfInBounds_toArray, List.set_cons_zero, List.set_cons_succ])
            obtain ⟨v6, hv6⟩ : ∃ z : World, z = ((v5.setCell ⟨bB, 0, none⟩ (.int .i64 0)).setCell ⟨bB, 1, none⟩ (.int .i64 0)) := ⟨_, rfl⟩
            obtain ⟨p1, p2, p3⟩ := pq
            rw [← hv6] at p1 p2 p3 pb ⊢
            have Q1 := Lib.hid p1
            have Q2 := Lib.hid p2
            have Q3 := Lib.hid (below_next hzd.out p3)
            have QA := Lib.hid pb
            clear hv6 p1 p2 p3 pb P1 P2 P3 PA
            refine doneT (by kernel_rfl) ?_ _
            try go_wp2_with fail
            go_meet
            case rel => exact ⟨bA, bB, st9, hb9, hn9, hc9, S9, ns9, cs9, K9, nk9, ck9, used9, rfl, rfl, Q3, Q1, Q2, QA⟩
          · go_simp
            obtain ⟨v10_, h10⟩ : ∃ z : World, z = v7_.alloc (.cells #[.int .i64 0, .int .i64 0] 28) := ⟨_, rfl⟩
            have bw10 : Below v7_.heap.size v7_ v10_ := by rw [h10]; exact below_new _ _
            have KB10 : Hid (Blk v10_ v7_.heap.size 28 #[.int .i64 0, .int .i64 0]) := by rw [h10]; exact Blk.new _ _ _
            rw [← h10]
            obtain ⟨bB, hbB⟩ : ∃ z : Nat, v7_.heap.size = z := ⟨_, rfl⟩
            have hg10 : wz.heap.size ≤ bB := by rw [← hbB]; exact HZ7.out.size
            rw [hbB] at KB10 ⊢
            have hne : bA ≠ bB := by have := KA7.out.lt; omega
            have KA10 := Lib.hid (KA7.out.keep bw10)
            have HZ10 := Lib.hid (below_next HZ7.out bw10)
            have hS : v10_.cell? ⟨b18, 0, none⟩ = some (.int .i64 (V : Int)) ∧ v10_.cell? ⟨b18, 1, none⟩ = some (.slice CK nk ck) := ⟨keepBox HZ10.out kz0, keepBox HZ10.out kz1⟩
            clear h10 hbB
            clear bw10
            refine hK _ _ (fun _ => hS) ?_
            clear hK
            (try simp only [Act.put, List.setIfInBounds_toArray, List.set_cons_zero, List.set_cons_succ])
            refine oneT (i := 3) (by kernel_rfl) rfl (by rfl) (fun K hK => ?_)
            go_simp
            have hlw := HZ10.out.size
            refine (cdcl_any CK none nk ck 0 0 (stepsF n al f0 g) [] (V : Int) v10_ (HOz.out.grid.keep HZ10.out) HNN.out (fun a ha => Nat.lt_of_lt_of_le (HLL.out a ha) hlw) ⟨Sl_nilT v10_, by simp⟩ HBES.out so ro ko po hs1 hs2 hs3 hs4 2000 (Nat.le_refl _) core_none).mono ?_
            rintro e v11_ ⟨st9, hb9, hn9, hc9, S9, ns9, cs9, K9, nk9, ck9, used9, rfl, bw11, ha9⟩
            have AN11 := Lib.hid ha9
            clear ha9 hlw
            have KA11 := Lib.hid (KA10.out.keep bw11)
            have KB11 := Lib.hid (KB10.out.keep bw11)
            have HZ11 := Lib.hid (below_next HZ10.out bw11)
            have hS : v11_.cell? ⟨b18, 0, none⟩ = some (.int .i64 (V : Int)) ∧ v11_.cell? ⟨b18, 1, none⟩ = some (.slice CK nk ck) := ⟨keepBox HZ11.out kz0, keepBox HZ11.out kz1⟩
            clear bw11
            refine hK _ _ (fun _ => hS) ?_
            clear hK
            (try simp only [Act.put, List.setIfInBounds_toArray, List.set_cons_zero, List.set_cons_succ])
            refine take0 (i := 4) (oi := _) (v := ?_) rfl (by kernel_rfl) (by kernel_rfl) (by kernel_rfl) (fun _ _ _ h => h) rfl (Or.inl ⟨by rfl, ?_⟩) (fun _ => hS) ?_
            rotate_left
            · intro w0; go_simp; with_reducible rfl
            (try simp only [Act.put, List.setIfInBounds_toArray, List.set_cons_zero, List.set_cons_succ])
            refine take0 (i := 5) (oi := _) (v := ?_) rfl (by kernel_rfl) (by kernel_rfl) (by kernel_rfl) (fun _ _ _ h => h) rfl (Or.inl ⟨by rfl, ?_⟩) (fun _ => hS) ?_
            rotate_left
            · intro w0; go_simp; with_reducible rfl
            (try simp only [Act.put, List.setIfInBounds_toArray, List.set_cons_zero, List.set_cons_succ])
            refine take0 (i := 6) (oi := _) (v := ?_) rfl (by kernel_rfl) (by kernel_rfl) (by kernel_rfl) (fun _ _ _ h => h) rfl (Or.inl ⟨by rfl, ?_⟩) (fun _ => hS) ?_
            rotate_left
            · intro w0; go_simp; with_reducible rfl
            (try simp only [Act.put, List.setIfInBounds_toArray, List.set_cons_zero, List.set_cons_succ])
            refine oneT (i := 9) (by kernel_rfl) rfl (by rfl) (fun K hK => ?_)
            have e0 := KA11.out.cell 0
            have e1 := KA11.out.cell 1
            have e2 := KA11.out.cell 2
            have e3 := KA11.out.cell 3
            have e4 := KA11.out.cell 4
            have f0 := KA11.out.frozen 0
            have f1 := KA11.out.frozen 1
            have f2 := KA11.out.frozen 2
            have f3 := KA11.out.frozen 3
            have f4 := KA11.out.frozen 4
            simp at e0 e1 e2 e3 e4
            have le := KA11.out.lt
            have pp := put5 KA11.out KB11.out hne HZ11.out hg7 (.int .i64 st9) (.slice hb9 hn9 hc9) (.slice S9 ns9 cs9) (.slice K9 nk9 ck9) (.int .i64 used9)
            have pa := answ5 AN11.out KA11.out st9 used9 hb9 S9 K9 hn9 hc9 ns9 cs9 nk9 ck9
            go_simp
            clear e0 e1 e2 e3 e4 f0 f1 f2 f3 f4 le
            refine hK _ _ (noT_no (by kernel_rfl)) ?_
            clear hK
            (try simp only [Act.put, List.setIfInBounds_toArray, List.set_cons_zero, List.set_cons_succ])
            obtain ⟨v5, hv5⟩ : ∃ z : World, z = (((((v11_.setCell ⟨bA, 0, none⟩ (.int .i64 st9)).setCell ⟨bA, 1, none⟩ (.slice hb9 hn9 hc9)).setCell ⟨bA, 2, none⟩ (.slice S9 ns9 cs9)).setCell ⟨bA, 3, none⟩ (.slice K9 nk9 ck9)).setCell ⟨bA, 4, none⟩ (.int .i64 used9)) := ⟨_, rfl⟩
            obtain ⟨p1, p2, p3⟩ := pp
            rw [← hv5] at p1 p2 p3 pa ⊢
            have P1 := Lib.hid p1
            have P2 := Lib.hid p2
            have P3 := Lib.hid p3
            have PA := Lib.hid pa
            clear hv5 p1 p2 p3 pa
            refine oneT (i := 10) (by kernel_rfl) rfl (by rfl) (fun K hK => ?_)
            have e0 := P2.out.cell 0
            have e1 := P2.out.cell 1
            have f0 := P2.out.frozen 0
            have f1 := P2.out.frozen 1
            simp at e0 e1
            have le := P2.out.lt
            have pq := put2_ P1.out P2.out hne P3.out hg10
            have pb := answ2 PA.out P2.out
            go_simp
            clear e0 e1 f0 f1 le
            refine hK _ _ (noT_no (by kernel_rfl)) ?_
            clear hK
            (try simp only [Act.put, List.setIfInBounds_toArray, List.set_cons_zero, List.set_cons_succ])
            obtain ⟨v6, hv6⟩ : ∃ z : World, z = ((v5.setCell ⟨bB, 0, none⟩ (.int .i64 0)).setCell ⟨bB, 1, none⟩ (.int .i64 0)) := ⟨_, rfl⟩
            obtain ⟨p1, p2, p3⟩ := pq
            rw [← hv6] at p1 p2 p3 pb ⊢
            have Q1 := Lib.hid p1
            have Q2 := Lib.hid p2
            have Q3 := Lib.hid (below_next hzd.out p3)
            have QA := Lib.hid pb
            clear hv6 p1 p2 p3 pb P1 P2 P3 PA
            refine doneT (by kernel_rfl) ?_ _
            try go_wp2_with fail
            go_meet
            case rel => exact ⟨bA, bB, st9, hb9, hn9, hc9, S9, ns9, cs9, K9, nk9, ck9, used9, rfl, rfl, Q3, Q1, Q2, QA⟩
        · go_simp
          obtain ⟨v12_, h12⟩ : ∃ z : World, z = v1_.alloc (.cells #[.int .i64 0, .int .i64 0] 28) := ⟨_, rfl⟩
          have bw12 : Below v1_.heap.size v1_ v12_ := by rw [h12]; exact below_new _ _
          have KB12 : Hid (Blk v12_ v1_.heap.size 28 #[.int .i64 0, .int .i64 0]) := by rw [h12]; exact Blk.new _ _ _
          rw [← h12]
          obtain ⟨bB, hbB⟩ : ∃ z : Nat, v1_.heap.size = z := ⟨_, rfl⟩
          have hg12 : wz.heap.size ≤ bB := by rw [← hbB]; exact HZ1.out.size
          rw [hbB] at KB12 ⊢
          have HZ12 := Lib.hid (below_next HZ1.out bw12)
          have hS : v12_.cell? ⟨b18, 0, none⟩ = some (.int .i64 (V : Int)) ∧ v12_.cell? ⟨b18, 1, none⟩ = some (.slice CK nk ck) := ⟨keepBox HZ12.out kz0, keepBox HZ12.out kz1⟩
          clear h12 hbB
          clear bw12
          refine hK _ _ (fun _ => hS) ?_
          clear hK
          (try simp only [Act.put, List.setIfInBounds_toArray, List.set_cons_zero, List.set_cons_succ])
          refine twoT (i := 3) (j := 7) (by kernel_rfl) rfl (by rfl) rfl (by rfl) (fun K hK => ?_) (fun K hK => ?_)
          · go_simp
            have hlw := HZ12.out.size
            refine (cdcl_any CK none nk ck 0 0 (stepsF n al f0 g) [] (V : Int) v12_ (HOz.out.grid.keep HZ12.out) HNN.out (fun a ha => Nat.lt_of_lt_of_le (HLL.out a ha) hlw) ⟨Sl_nilT v12_, by simp⟩ HBES.out so ro ko po hs1 hs2 hs3 hs4 2000 (Nat.le_refl _) core_none).mono ?_
            rintro e v13_ ⟨st9, hb9, hn9, hc9, S9, ns9, cs9, K9, nk9, ck9, used9, rfl, bw13, ha9⟩
            have AN13 := Lib.hid ha9
            clear ha9 hlw
            have KB13 := Lib.hid (KB12.out.keep bw13)
            have HZ13 := Lib.hid (below_next HZ12.out bw13)
            have hS : v13_.cell? ⟨b18, 0, none⟩ = some (.int .i64 (V : Int)) ∧ v13_.cell? ⟨b18, 1, none⟩ = some (.slice CK nk ck) := ⟨keepBox HZ13.out kz0, keepBox HZ13.out kz1⟩
            clear bw13
            refine hK _ _ (fun _ => hS) ?_
            clear hK
            (try simp only [Act.put, List.setIfInBounds_toArray, List.set_cons_zero, List.set_cons_succ])
            refine take0 (i := 4) (oi := _) (v := ?_) rfl (by kernel_rfl) (by kernel_rfl) (by kernel_rfl) (fun _ _ _ h => h) rfl (Or.inl ⟨by rfl, ?_⟩) (fun _ => hS) ?_
            rotate_left
            · intro w0; go_simp; with_reducible rfl
            (try simp only [Act.put, List.setIfInBounds_toArray, List.set_cons_zero, List.set_cons_succ])
            refine take0 (i := 5) (oi := _) (v := ?_) rfl (by kernel_rfl) (by kernel_rfl) (by kernel_rfl) (fun _ _ _ h => h) rfl (Or.inl ⟨by rfl, ?_⟩) (fun _ => hS) ?_
            rotate_left
            · intro w0; go_simp; with_reducible rfl
            (try simp only [Act.put, List.setIfInBounds_toArray, List.set_cons_zero, List.set_cons_succ])
            refine take0 (i := 6) (oi := _) (v := ?_) rfl (by kernel_rfl) (by kernel_rfl) (by kernel_rfl) (fun _ _ _ h => h) rfl (Or.inl ⟨by rfl, ?_⟩) (fun _ => hS) ?_
            rotate_left
            · intro w0; go_simp; with_reducible rfl
            (try simp only [Act.put, List.setIfInBounds_toArray, List.set_cons_zero, List.set_cons_succ])
            refine oneT (i := 7) (by kernel_rfl) rfl (by rfl) (fun K hK => ?_)
            go_simp
            obtain ⟨v14_, h14⟩ : ∃ z : World, z = v13_.alloc (.cells #[.int .i64 0, .slice none 0 0, .slice none 0 0, .slice none 0 0, .int .i64 0] 45) := ⟨_, rfl⟩
            have bw14 : Below v13_.heap.size v13_ v14_ := by rw [h14]; exact below_new _ _
            have KA14 : Hid (Blk v14_ v13_.heap.size 45 #[.int .i64 0, .slice none 0 0, .slice none 0 0, .slice none 0 0, .int .i64 0]) := by rw [h14]; exact Blk.new _ _ _
            rw [← h14]
            obtain ⟨bA, hbA⟩ : ∃ z : Nat, v13_.heap.size = z := ⟨_, rfl⟩
            have hg14 : wz.heap.size ≤ bA := by rw [← hbA]; exact HZ13.out.size
            rw [hbA] at KA14 ⊢
            have hne : bA ≠ bB := by have := KB13.out.lt; omega
            have KB14 := Lib.hid (KB13.out.keep bw14)
            have AN14 := Lib.hid (answ_keep AN13.out bw14)
            have HZ14 := Lib.hid (below_next HZ13.out bw14)
            have hS : v14_.cell? ⟨b18, 0, none⟩ = some (.int .i64 (V : Int)) ∧ v14_.cell? ⟨b18, 1, none⟩ = some (.slice CK nk ck) := ⟨keepBox HZ14.out kz0, keepBox HZ14.out kz1⟩
            clear h14 hbA
            clear bw14
            refine hK _ _ (fun _ => hS) ?_
            clear hK
            (try simp only [Act.put, List.setIfInBounds_toArray, List.set_cons_zero, List.set_cons_succ])
            refine oneT (i := 9) (by kernel_rfl) rfl (by rfl) (fun K hK => ?_)
            have e0 := KA14.out.cell 0
            have e1 := KA14.out.cell 1
            have e2 := KA14.out.cell 2
            have e3 := KA14.out.cell 3
            have e4 := KA14.out.cell 4
            have f0 := KA14.out.frozen 0
            have f1 := KA14.out.frozen 1
            have f2 := KA14.out.frozen 2
            have f3 := KA14.out.frozen 3
            have f4 := KA14.out.frozen 4
            simp at e0 e1 e2 e3 e4
            have le := KA14.out.lt
            have pp := put5 KA14.out KB14.out hne HZ14.out hg14 (.int .i64 st9) (.slice hb9 hn9 hc9) (.slice S9 ns9 cs9) (.slice K9 nk9 ck9) (.int .i64 used9)
            have pa := answ5 AN14.out KA14.out st9 used9 hb9 S9 K9 hn9 hc9 ns9 cs9 nk9 ck9
            go_simp
            clear e0 e1 e2 e3 e4 f0 f1 f2 f3 f4 le
            refine hK _ _ (noT_no (by kernel_rfl)) ?_
            clear hK
            (try simp only [Act.put, List.setIfInBounds_toArray, List.set_cons_zero, List.set_cons_succ])
            obtain ⟨v5, hv5⟩ : ∃ z : World, z = (((((v14_.setCell ⟨bA, 0, none⟩ (.int .i64 st9)).setCell ⟨bA, 1, none⟩ (.slice hb9 hn9 hc9)).setCell ⟨bA, 2, none⟩ (.slice S9 ns9 cs9)).setCell ⟨bA, 3, none⟩ (.slice K9 nk9 ck9)).setCell ⟨bA, 4, none⟩ (.int .i64 used9)) := ⟨_, rfl⟩
            obtain ⟨p1, p2, p3⟩ := pp
            rw [← hv5] at p1 p2 p3 pa ⊢
            have P1 := Lib.hid p1
            have P2 := Lib.hid p2
            have P3 := Lib.hid p3
            have PA := Lib.hid pa
            clear hv5 p1 p2 p3 pa
            refine oneT (i := 10) (by kernel_rfl) rfl (by rfl) (fun K hK => ?_)
            have e0 := P2.out.cell 0
            have e1 := P2.out.cell 1
            have f0 := P2.out.frozen 0
            have f1 := P2.out.frozen 1
            simp at e0 e1
            have le := P2.out.lt
            have pq := put2_ P1.out P2.out hne P3.out hg12
            have pb := answ2 PA.out P2.out
            go_simp
            clear e0 e1 f0 f1 le
            refine hK _ _ (noT_no (by kernel_rfl)) ?_
            clear hK
            (try simp only [Act.put, List.setIfInBounds_toArray, List.set_cons_zero, List.set_cons_succ])
            obtain ⟨v6, hv6⟩ : ∃ z : World, z = ((v5.setCell ⟨bB, 0, none⟩ (.int .i64 0)).setCell ⟨bB, 1, none⟩ (.int .i64 0)) := ⟨_, rfl⟩
            obtain ⟨p1, p2, p3⟩ := pq
            rw [← hv6] at p1 p2 p3 pb ⊢
            have Q1 := Lib.hid p1
            have Q2 := Lib.hid p2
            have Q3 := Lib.hid (below_next hzd.out p3)
            have QA := Lib.hid pb
            clear hv6 p1 p2 p3 pb P1 P2 P3 PA
            refine doneT (by kernel_rfl) ?_ _
            try go_wp2_with fail
            go_meet
            case rel => exact ⟨bA, bB, st9, hb9, hn9, hc9, S9, ns9, cs9, K9, nk9, ck9, used9, rfl, rfl, Q3, Q1, Q2, QA⟩
          · go_simp
            obtain ⟨v15_, h15⟩ : ∃ z : World, z = v12_.alloc (.cells #[.int .i64 0, .slice none 0 0, .slice none 0 0, .slice none 0 0, .int .i64 0] 45) := ⟨_, rfl⟩
            have bw15 : Below v12_.heap.size v12_ v15_ := by rw [h15]; exact below_new _ _
            have KA15 : Hid (Blk v15_ v12_.heap.size 45 #[.int .i64 0, .slice none 0 0, .slice none 0 0, .slice none 0 0, .int .i64 0]) := by rw [h15]; exact Blk.new _ _ _
            rw [← h15]
            obtain ⟨bA, hbA⟩ : ∃ z : Nat, v12_.heap.size = z := ⟨_, rfl⟩
            have hg15 : wz.heap.size ≤ bA := by rw [← hbA]; exact HZ12.out.size
            rw [hbA] at KA15 ⊢
            have hne : bA ≠ bB := by have := KB12.out.lt; omega
            have KB15 := Lib.hid (KB12.out.keep bw15)
            have HZ15 := Lib.hid (below_next HZ12.out bw15)
            have hS : v15_.cell? ⟨b18, 0, none⟩ = some (.int .i64 (V : Int)) ∧ v15_.cell? ⟨b18, 1, none⟩ = some (.slice CK nk ck) := ⟨keepBox HZ15.out kz0, keepBox HZ15.out kz1⟩
            clear h15 hbA
            clear bw15
            refine hK _ _ (fun _ => hS) ?_
            clear hK
            (try simp only [Act.put, List.setIfInBounds_toArray, List.set_cons_zero, List.set_cons_succ])
            refine oneT (i := 3) (by kernel_rfl) rfl (by rfl) (fun K hK => ?_)
            go_simp
            have hlw := HZ15.out.size
            refine (cdcl_any CK none nk ck 0 0 (stepsF n al f0 g) [] (V : Int) v15_ (HOz.out.grid.keep HZ15.out) HNN.out (fun a ha => Nat.lt_of_lt_of_le (HLL.out a ha) hlw) ⟨Sl_nilT v15_, by simp⟩ HBES.out so ro ko po hs1 hs2 hs3 hs4 2000 (Nat.le_refl _) core_none).mono ?_
            rintro e v16_ ⟨st9, hb9, hn9, hc9, S9, ns9, cs9, K9, nk9, ck9, used9, rfl, bw16, ha9⟩
            have AN16 := Lib.hid ha9
            clear ha9 hlw
            have KA16 := Lib.hid (KA15.out.keep bw16)
            have KB16 := Lib.hid (KB15.out.keep bw16)
            have HZ16 := Lib.hid (below_next HZ15.out bw16)
            have hS : v16_.cell? ⟨b18, 0, none⟩ = some (.int .i64 (V : Int)) ∧ v16_.cell? ⟨b18, 1, none⟩ = some (.slice CK nk ck) := ⟨keepBox HZ16.out kz0, keepBox HZ16.out kz1⟩
            clear bw16
            refine hK _ _ (fun _ => hS) ?_
            clear hK
            (try simp only [Act.put, List.setIfInBounds_toArray, List.set_cons_zero, List.set_cons_succ])
            refine take0 (i := 4) (oi := _) (v := ?_) rfl (by kernel_rfl) (by kernel_rfl) (by kernel_rfl) (fun _ _ _ h => h) rfl (Or.inl ⟨by rfl, ?_⟩) (fun _ => hS) ?_
            rotate_left
            · intro w0; go_simp; with_reducible rfl
            (try simp only [Act.put, List.setIfInBounds_toArray, List.set_cons_zero, List.set_cons_succ])
            refine take0 (i := 5) (oi := _) (v := ?_) rfl (by kernel_rfl) (by kernel_rfl) (by kernel_rfl) (fun _ _ _ h => h) rfl (Or.inl ⟨by rfl, ?_⟩) (fun _ => hS) ?_
            rotate_left
            · intro w0; go_simp; with_reducible rfl
            (try simp only [Act.put, List.setIfInBounds_toArray, List.set_cons_zero, List.set_cons_succ])
            refine take0 (i := 6) (oi := _) (v := ?_) rfl (by kernel_rfl) (by kernel_rfl) (by kernel_rfl) (fun _ _ _ h => h) rfl (Or.inl ⟨by rfl, ?_⟩) (fun _ => hS) ?_
            rotate_left
            · intro w0; go_simp; with_reducible rfl
            (try simp only [Act.put, List.setIfInBounds_toArray, List.set_cons_zero, List.set_cons_succ])
            refine oneT (i := 9) (by kernel_rfl) rfl (by rfl) (fun K hK => ?_)
            have e0 := KA16.out.cell 0
            have e1 := KA16.out.cell 1
            have e2 := KA16.out.cell 2
            have e3 := KA16.out.cell 3
            have e4 := KA16.out.cell 4
            have f0 := KA16.out.frozen 0
            have f1 := KA16.out.frozen 1
            have f2 := KA16.out.frozen 2
            have f3 := KA16.out.frozen 3
            have f4 := KA16.out.frozen 4
            simp at e0 e1 e2 e3 e4
            have le := KA16.out.lt
            have pp := put5 KA16.out KB16.out hne HZ16.out hg15 (.int .i64 st9) (.slice hb9 hn9 hc9) (.slice S9 ns9 cs9) (.slice K9 nk9 ck9) (.int .i64 used9)
            have pa := answ5 AN16.out KA16.out st9 used9 hb9 S9 K9 hn9 hc9 ns9 cs9 nk9 ck9
            go_simp
            clear e0 e1 e2 e3 e4 f0 f1 f2 f3 f4 le
            refine hK _ _ (noT_no (by kernel_rfl)) ?_
            clear hK
            (try simp only [Act.put, List.setIfInBounds_toArray, List.set_cons_zero, List.set_cons_succ])
            obtain ⟨v5, hv5⟩ : ∃ z : World, z = (((((v16_.setCell ⟨bA, 0, none⟩ (.int .i64 st9)).setCell ⟨bA, 1, none⟩ (.slice hb9 hn9 hc9)).setCell ⟨bA, 2, none⟩ (.slice S9 ns9 cs9)).setCell ⟨bA, 3, none⟩ (.slice K9 nk9 ck9)).setCell ⟨bA, 4, none⟩ (.int .i64 used9)) := ⟨_, rfl⟩
            obtain ⟨p1, p2, p3⟩ := pp
            rw [← hv5] at p1 p2 p3 pa ⊢
            have P1 := Lib.hid p1
            have P2 := Lib.hid p2
            have P3 := Lib.hid p3
            have PA := Lib.hid pa
            clear hv5 p1 p2 p3 pa
            refine oneT (i := 10) (by kernel_rfl) rfl (by rfl) (fun K hK => ?_)
            have e0 := P2.out.cell 0
            have e1 := P2.out.cell 1
            have f0 := P2.out.frozen 0
            have f1 := P2.out.frozen 1
            simp at e0 e1
            have le := P2.out.lt
            have pq := put2_ P1.out P2.out hne P3.out hg12
            have pb := answ2 PA.out P2.out
            go_simp
            clear e0 e1 f0 f1 le
            refine hK _ _ (noT_no (by kernel_rfl)) ?_
            clear hK
            (try simp only [Act.put, List.setIfInBounds_toArray, List.set_cons_zero, List.set_cons_succ])
            obtain ⟨v6, hv6⟩ : ∃ z : World, z = ((v5.setCell ⟨bB, 0, none⟩ (.int .i64 0)).setCell ⟨bB, 1, none⟩ (.int .i64 0)) := ⟨_, rfl⟩
            obtain ⟨p1, p2, p3⟩ := pq
            rw [← hv6] at p1 p2 p3 pb ⊢
            have Q1 := Lib.hid p1
            have Q2 := Lib.hid p2
            have Q3 := Lib.hid (below_next hzd.out p3)
            have QA := Lib.hid pb
            clear hv6 p1 p2 p3 pb P1 P2 P3 PA
            refine doneT (by kernel_rfl) ?_ _
            try go_wp2_with fail
            go_meet
            case rel => exact ⟨bA, bB, st9, hb9, hn9, hc9, S9, ns9, cs9, K9, nk9, ck9, used9, rfl, rfl, Q3, Q1, Q2, QA⟩
      · go_simp
        obtain ⟨v17_, h17⟩ : ∃ z : World, z = wz.alloc (.cells #[.int .i64 0, .slice none 0 0, .slice none 0 0, .slice none 0 0, .int .i64 0] 45) := ⟨_, rfl⟩
        have bw17 : Below wz.heap.size wz v17_ := by rw [h17]; exact below_new _ _
        have KA17 : Hid (Blk v17_ wz.heap.size 45 #[.int .i64 0, .slice none 0 0, .slice none 0 0, .slice none 0 0, .int .i64 0]) := by rw [h17]; exact Blk.new _ _ _
        rw [← h17]
        obtain ⟨bA, hbA⟩ : ∃ z : Nat, wz.heap.size = z := ⟨_, rfl⟩
        have hg17 : wz.heap.size ≤ bA := by rw [← hbA]; exact HZ0.out.size
        rw [hbA] at KA17 ⊢
        have HZ17 := Lib.hid (below_next HZ0.out bw17)
        have hS : v17_.cell? ⟨b18, 0, none⟩ = some (.int .i64 (V : Int)) ∧ v17_.cell? ⟨b18, 1, none⟩ = some (.slice CK nk ck) := ⟨keepBox HZ17.out kz0, keepBox HZ17.out kz1⟩
        clear h17 hbA
        clear bw17
        refine hK _ _ (fun _ => hS) ?_
        clear hK
        (try simp only [Act.put, List.setIfInBounds_toArray, List.set_cons_zero, List.set_cons_succ])
        refine twoT (i := 2) (j := 8) (by kernel_rfl) rfl (by rfl) rfl (by rfl) (fun K hK => ?_) (fun K hK => ?_)
        · go_simp
          refine (optionsOf_any o v17_ HOP.out).mono ?_
          rintro e v18_ ⟨so, ro, ko, po, rfl, hs1, hs2, hs3, hs4, bw18⟩
          have KA18 := Lib.hid (KA17.out.keep bw18)
          have HZ18 := Lib.hid (below_next HZ17.out bw18)
          have hS : v18_.cell? ⟨b18, 0, none⟩ = some (.int .i64 (V : Int)) ∧ v18_.cell? ⟨b18, 1, none⟩ = some (.slice CK nk ck) := ⟨keepBox HZ18.out kz0, keepBox HZ18.out kz1⟩
          clear bw18
          refine hK _ _ (fun _ => hS) ?_
          clear hK
          (try simp only [Act.put, List.setIfInBounds_toArray, List.set_cons_zero, List.set_cons_succ])
          refine twoT (i := 3) (j := 8) (by kernel_rfl) rfl (by rfl) rfl (by rfl) (fun K hK => ?_) (fun K hK => ?_)
          · go_simp
            have hlw := HZ18.out.size
            refine (cdcl_any CK none nk ck 0 0 (stepsF n al f0 g) [] (V : Int) v18_ (HOz.out.grid.keep HZ18.out) HNN.out (fun a ha => Nat.lt_of_lt_of_le (HLL.out a ha) hlw) ⟨Sl_nilT v18_, by simp⟩ HBES.out so ro ko po hs1 hs2 hs3 hs4 2000 (Nat.le_refl _) core_none).mono ?_
            rintro e v19_ ⟨st9, hb9, hn9, hc9, S9, ns9, cs9, K9, nk9, ck9, used9, rfl, bw19, ha9⟩
            have AN19 := Lib.hid ha9
            clear ha9 hlw
            have KA19 := Lib.hid (KA18.out.keep bw19)
            have HZ19 := Lib.hid (below_next HZ18.out bw19)
            have hS : v19_.cell? ⟨b18, 0, none⟩ = some (.int .i64 (V : Int)) ∧ v19_.cell? ⟨b18, 1, none⟩ = some (.slice CK nk ck) := ⟨keepBox HZ19.out kz0, keepBox HZ19.out kz1⟩
            clear bw19
            refine hK _ _ (fun _ => hS) ?_
            clear hK
            (try simp only [Act.put, List.setIfInBounds_toArray, List.set_cons_zero, List.set_cons_succ])
            refine take0 (i := 4) (oi := _) (v := ?_) rfl (by kernel_rfl) (by kernel_rfl) (by kernel_rfl) (fun _ _ _ h => h) rfl (Or.inl ⟨by rfl, ?_⟩) (fun _ => hS) ?_
            rotate_left
            · intro w0; go_simp; with_reducible rfl
            (try simp only [Act.put, List.setIfInBounds_toArray, List.set_cons_zero, List.set_cons_succ])
            refine take0 (i := 5) (oi := _) (v := ?_) rfl (by kernel_rfl) (by kernel_rfl) (by kernel_rfl) (fun _ _ _ h => h) rfl (Or.inl ⟨by rfl, ?_⟩) (fun _ => hS) ?_
            rotate_left
            · intro w0; go_simp; with_reducible rfl
            (try simp only [Act.put, List.setIfInBounds_toArray, List.set_cons_zero, List.set_cons_succ])
            refine take0 (i := 6) (oi := _) (v := ?_) rfl (by kernel_rfl) (by kernel_rfl) (by kernel_rfl) (fun _ _ _ h => h) rfl (Or.inl ⟨by rfl, ?_⟩) (fun _ => hS) ?_
            rotate_left
            · intro w0; go_simp; with_reducible rfl
            (try simp only [Act.put, List.setIfInBounds_toArray, List.set_cons_zero, List.set_cons_succ])
            refine oneT (i := 8) (by kernel_rfl) rfl (by rfl) (fun K hK => ?_)
            go_simp
            obtain ⟨v20_, h20⟩ : ∃ z : World, z = v19_.alloc (.cells #[.int .i64 0, .int .i64 0] 28) := ⟨_, rfl⟩
            have bw20 : Below v19_.heap.size v19_ v20_ := by rw [h20]; exact below_new _ _
            have KB20 : Hid (Blk v20_ v19_.heap.size 28 #[.int .i64 0, .int .i64 0]) := by rw [h20]; exact Blk.new _ _ _
            rw [← h20]
            obtain ⟨bB, hbB⟩ : ∃ z : Nat, v19_.heap.size = z := ⟨_, rfl⟩
            have hg20 : wz.heap.size ≤ bB := by rw [← hbB]; exact HZ19.out.size
            rw [hbB] at KB20 ⊢
            have hne : bA ≠ bB := by have := KA19.out.lt; omega
            have KA20 := Lib.hid (KA19.out.keep bw20)
            have AN20 := Lib.hid (answ_keep AN19.out bw20)
            have HZ20 := Lib.hid (below_next HZ19.out bw20)
            have hS : v20_.cell? ⟨b18, 0, none⟩ = some (.int .i64 (V : Int)) ∧ v20_.cell? ⟨b18, 1, none⟩ = some (.slice CK nk ck) := ⟨keepBox HZ20.out kz0, keepBox HZ20.out kz1⟩
            clear h20 hbB
            clear bw20
            refine hK _ _ (fun _ => hS) ?_
            clear hK
            (try simp only [Act.put, List.setIfInBounds_toArray, List.set_cons_zero, List.set_cons_succ])
            refine oneT (i := 9) (by kernel_rfl) rfl (by rfl) (fun K hK => ?_)
            have e0 := KA20.out.cell 0
            have e1 := KA20.out.cell 1
            have e2 := KA20.out.cell 2
            have e3 := KA20.out.cell 3
            have e4 := KA20.out.cell 4
            have f0 := KA20.out.frozen 0
            have f1 := KA20.out.frozen 1
            have f2 := KA20.out.frozen 2
            have f3 := KA20.out.frozen 3
            have f4 := KA20.out.frozen 4
            simp at e0 e1 e2 e3 e4
            have le := KA20.out.lt
            have pp := put5 KA20.out KB20.out hne HZ20.out hg17 (.int .i64 st9) (.slice hb9 hn9 hc9) (.slice S9 ns9 cs9) (.slice K9 nk9 ck9) (.int .i64 used9)
            have pa := answ5 AN20.out KA20.out st9 used9 hb9 S9 K9 hn9 hc9 ns9 cs9 nk9 ck9
            go_simp
            clear e0 e1 e2 e3 e4 f0 f1 f2 f3 f4 le
            refine hK _ _ (noT_no (by kernel_rfl)) ?_
            clear hK
            (try simp only [Act.put, List.setIfInBounds_toArray, List.set_cons_zero, List.set_cons_succ])
            obtain ⟨v5, hv5⟩ : ∃ z : World, z = (((((v20_.setCell ⟨bA, 0, none⟩ (.int .i64 st9)).setCell ⟨bA, 1, none⟩ (.slice hb9 hn9 hc9)).setCell ⟨bA, 2, none⟩ (.slice S9 ns9 cs9)).setCell ⟨bA, 3, none⟩ (.slice K9 nk9 ck9)).setCell ⟨bA, 4, none⟩ (.int .i64 used9)) := ⟨_, rfl⟩
            obtain ⟨p1, p2, p3⟩ := pp
            rw [← hv5] at p1 p2 p3 pa ⊢
            have P1 := Lib.hid p1
            have P2 := Lib.hid p2
            have P3 := Lib.hid p3
            have PA := Lib.hid pa
            clear hv5 p1 p2 p3 pa
            refine oneT (i := 10) (by kernel_rfl) rfl (by rfl) (fun K hK => ?_)
            have e0 := P2.out.cell 0
            have e1 := P2.out.cell 1
            have f0 := P2.out.frozen 0
            have f1 := P2.out.frozen 1
            simp at e0 e1
            have le := P2.out.lt
            have pq := put2_ P1.out P2.out hne P3.out hg20
            have pb := answ2 PA.out P2.out
            go_simp
            clear e0 e1 f0 f1 le
            refine hK _ _ (noT_no (by kernel_rfl)) ?_
            clear hK
            (try simp only [Act.put, List.setIfInBounds_toArray, List.set_cons_zero, List.set_cons_succ])
            obtain ⟨v6, hv6⟩ : ∃ z : World, z = ((v5.setCell ⟨bB, 0, none⟩ (.int .i64 0)).setCell ⟨bB, 1, none⟩ (.int .i64 0)) := ⟨_, rfl⟩
            obtain ⟨p1, p2, p3⟩ := pq
            rw [← hv6] at p1 p2 p3 pb ⊢
            have Q1 := Lib.hid p1
            have Q2 := Lib.hid p2
            have Q3 := Lib.hid (below_next hzd.out p3)
            have QA := Lib.hid pb
            clear hv6 p1 p2 p3 pb P1 P2 P3 PA
            refine doneT (by kernel_rfl) ?_ _
            try go_wp2_with fail
            go_meet
            case rel => exact ⟨bA, bB, st9, hb9, hn9, hc9, S9, ns9, cs9, K9, nk9, ck9, used9, rfl, rfl, Q3, Q1, Q2, QA⟩
          · go_simp
            obtain ⟨v21_, h21⟩ : ∃ z : World, z = v18_.alloc (.cells #[.int .i64 0, .int .i64 0] 28) := ⟨_, rfl⟩
            have bw21 : Below v18_.heap.size v18_ v21_ := by rw [h21]; exact below_new _ _
            have KB21 : Hid (Blk v21_ v18_.heap.size 28 #[.int .i64 0, .int .i64 0]) := by rw [h21]; exact Blk.new _ _ _
            rw [← h21]
            obtain ⟨bB, hbB⟩ : ∃ z : Nat, v18_.heap.size = z := ⟨_, rfl⟩
            have hg21 : wz.heap.size ≤ bB := by rw [← hbB]; exact HZ18.out.size
            rw [hbB] at KB21 ⊢
            have hne : bA ≠ bB := by have := KA18.out.lt; omega
            have KA21 := Lib.hid (KA18.out.keep bw21)
            have HZ21 := Lib.hid (below_next HZ18.out bw21)
            have hS : v21_.cell? ⟨b18, 0, none⟩ = some (.int .i64 (V : Int)) ∧ v21_.cell? ⟨b18, 1, none⟩ = some (.slice CK nk ck) := ⟨keepBox HZ21.out kz0, keepBox HZ21.out kz1⟩
            clear h21 hbB
            clear bw21
            refine hK _ _ (fun _ => hS) ?_
            clear hK
            (try simp only [Act.put, List.setIfInBounds_toArray, List.set_cons_zero, List.set_cons_succ])
            refine oneT (i := 3) (by kernel_rfl) rfl (by rfl) (fun K hK => ?_)
            go_simp
            have hlw := HZ21.out.size
            refine (cdcl_any CK none nk ck 0 0 (stepsF n al f0 g) [] (V : Int) v21_ (HOz.out.grid.keep HZ21.out) HNN.out (fun a ha => Nat.lt_of_lt_of_le (HLL.out a ha) hlw) ⟨Sl_nilT v21_, by simp⟩ HBES.out so ro ko po hs1 hs2 hs3 hs4 2000 (Nat.le_refl _) core_none).mono ?_
            rintro e v22_ ⟨st9, hb9, hn9, hc9, S9, ns9, cs9, K9, nk9, ck9, used9, rfl, bw22, ha9⟩
            have AN22 := Lib.hid ha9
            clear ha9 hlw
            have KA22 := Lib.hid (KA21.out.keep bw22)
            have KB22 := Lib.hid (KB21.out.keep bw22)
            have HZ22 := Lib.hid (below_next HZ21.out bw22)
            have hS : v22_.cell? ⟨b18, 0, none⟩ = some (.int .i64 (V : Int)) ∧ v22_.cell? ⟨b18, 1, none⟩ = some (.slice CK nk ck) := ⟨keepBox HZ22.out kz0, keepBox HZ22.out kz1⟩
            clear bw22
            refine hK _ _ (fun _ => hS) ?_
            clear hK
            (try simp only [Act.put, List.setIfInBounds_toArray, List.set_cons_zero, List.set_cons_succ])
            refine take0 (i := 4) (oi := _) (v := ?_) rfl (by kernel_rfl) (by kernel_rfl) (by kernel_rfl) (fun _ _ _ h => h) rfl (Or.inl ⟨by rfl, ?_⟩) (fun _ => hS) ?_
            rotate_left
            · intro w0; go_simp; with_reducible rfl
            (try simp only [Act.put, List.setIfInBounds_toArray, List.set_cons_zero, List.set_cons_succ])
            refine take0 (i := 5) (oi := _) (v := ?_) rfl (by kernel_rfl) (by kernel_rfl) (by kernel_rfl) (fun _ _ _ h => h) rfl (Or.inl ⟨by rfl, ?_⟩) (fun _ => hS) ?_
            rotate_left
            · intro w0; go_simp; with_reducible rfl
            (try simp only [Act.put, List.setIfInBounds_toArray, List.set_cons_zero, List.set_cons_succ])
            refine take0 (i := 6) (oi := _) (v := ?_) rfl (by kernel_rfl) (by kernel_rfl) (by kernel_rfl) (fun _ _ _ h => h) rfl (Or.inl ⟨by rfl, ?_⟩) (fun _ => hS) ?_
            rotate_left
            · intro w0; go_simp; with_reducible rfl
            (try simp only [Act.put, List.setIfInBounds_toArray, List.set_cons_zero, List.set_cons_succ])
            refine oneT (i := 9) (by kernel_rfl) rfl (by rfl) (fun K hK => ?_)
            have e0 := KA22.out.cell 0
            have e1 := KA22.out.cell 1
            have e2 := KA22.out.cell 2
            have e3 := KA22.out.cell 3
            have e4 := KA22.out.cell 4
            have f0 := KA22.out.frozen 0
            have f1 := KA22.out.frozen 1
            have f2 := KA22.out.frozen 2
            have f3 := KA22.out.frozen 3
            have f4 := KA22.out.frozen 4
            simp at e0 e1 e2 e3 e4
            have le := KA22.out.lt
            have pp := put5 KA22.out KB22.out hne HZ22.out hg17 (.int .i64 st9) (.slice hb9 hn9 hc9) (.slice S9 ns9 cs9) (.slice K9 nk9 ck9) (.int .i64 used9)
            have pa := answ5 AN22.out KA22.out st9 used9 hb9 S9 K9 hn9 hc9 ns9 cs9 nk9 ck9
            go_simp
            clear e0 e1 e2 e3 e4 f0 f1 f2 f3 f4 le
            refine hK _ _ (noT_no (by kernel_rfl)) ?_
            clear hK
            (try simp only [Act.put, List.setIfInBounds_toArray, List.set_cons_zero, List.set_cons_succ])
            obtain ⟨v5, hv5⟩ : ∃ z : World, z = (((((v22_.setCell ⟨bA, 0, none⟩ (.int .i64 st9)).setCell ⟨bA, 1, none⟩ (.slice hb9 hn9 hc9)).setCell ⟨bA, 2, none⟩ (.slice S9 ns9 cs9)).setCell ⟨bA, 3, none⟩ (.slice K9 nk9 ck9)).setCell ⟨bA, 4, none⟩ (.int .i64 used9)) := ⟨_, rfl⟩
            obtain ⟨p1, p2, p3⟩ := pp
            rw [← hv5] at p1 p2 p3 pa ⊢
            have P1 := Lib.hid p1
            have P2 := Lib.hid p2
            have P3 := Lib.hid p3
            have PA := Lib.hid pa
            clear hv5 p1 p2 p3 pa
            refine oneT (i := 10) (by kernel_rfl) rfl (by rfl) (fun K hK => ?_)
            have e0 := P2.out.cell 0
            have e1 := P2.out.cell 1
            have f0 := P2.out.frozen 0
            have f1 := P2.out.frozen 1
            simp at e0 e1
            have le := P2.out.lt
            have pq := put2_ P1.out P2.out hne P3.out hg21
            have pb := answ2 PA.out P2.out
            go_simp
            clear e0 e1 f0 f1 le
            refine hK _ _ (noT_no (by kernel_rfl)) ?_
            clear hK
            (try simp only [Act.put, List.setIfInBounds_toArray, List.set_cons_zero, List.set_cons_succ])
            obtain ⟨v6, hv6⟩ : ∃ z : World, z = ((v5.setCell ⟨bB, 0, none⟩ (.int .i64 0)).setCell ⟨bB, 1, none⟩ (.int .i64 0)) := ⟨_, rfl⟩
            obtain ⟨p1, p2, p3⟩ := pq
            rw [← hv6] at p1 p2 p3 pb ⊢
            have Q1 := Lib.hid p1
            have Q2 := Lib.hid p2
            have Q3 := Lib.hid (below_next hzd.out p3)
            have QA := Lib.hid pb
            clear hv6 p1 p2 p3 pb P1 P2 P3 PA
            refine doneT (by kernel_rfl) ?_ _
            try go_wp2_with fail
            go_meet
            case rel => exact ⟨bA, bB, st9, hb9, hn9, hc9, S9, ns9, cs9, K9, nk9, ck9, used9, rfl, rfl, Q3, Q1, Q2, QA⟩
        · go_simp
          obtain ⟨v23_, h23⟩ : ∃ z : World, z = v17_.alloc (.cells #[.int .i64 0, .int .i64 0] 28) := ⟨_, rfl⟩
          have bw23 : Below v17_.heap.size v17_ v23_ := by rw [h23]; exact below_new _ _
          have KB23 : Hid (Blk v23_ v17_.heap.size 28 #[.int .i64 0, .int .i64 0]) := by rw [h23]; exact Blk.new _ _ _
          rw [← h23]
          obtain ⟨bB, hbB⟩ : ∃ z : Nat, v17_.heap.size = z := ⟨_, rfl⟩
          have hg23 : wz.heap.size ≤ bB := by rw [← hbB]; exact HZ17.out.size
          rw [hbB] at KB23 ⊢
          have hne : bA ≠ bB := by have := KA17.out.lt; omega
          have KA23 := Lib.hid (KA17.out.keep bw23)
          have HZ23 := Lib.hid (below_next HZ17.out bw23)
          have hS : v23_.cell? ⟨b18, 0, none⟩ = some (.int .i64 (V : Int)) ∧ v23_.cell? ⟨b18, 1, none⟩ = some (.slice CK nk ck) := ⟨keepBox HZ23.out kz0, keepBox HZ23.out kz1⟩
          clear h23 hbB
          clear bw23
          refine hK _ _ (fun _ => hS) ?_
          clear hK
          (try simp only [Act.put, List.setIfInBounds_toArray, List.set_cons_zero, List.set_cons_succ])
          refine oneT (i := 2) (by kernel_rfl) rfl (by rfl) (fun K hK => ?_)
          go_simp
          refine (optionsOf_any o v23_ HOP.out).mono ?_
          rintro e v24_ ⟨so, ro, ko, po, rfl, hs1, hs2, hs3, hs4, bw24⟩
          have KA24 := Lib.hid (KA23.out.keep bw24)
          have KB24 := Lib.hid (KB23.out.keep bw24)
          have HZ24 := Lib.hid (below_next HZ23.out bw24)
          have hS : v24_.cell? ⟨b18, 0, none⟩ = some (.int .i64 (V : Int)) ∧ v24_.cell? ⟨b18, 1, none⟩ = some (.slice CK nk ck) := ⟨keepBox HZ24.out kz0, keepBox HZ24.out kz1⟩
          clear bw24
          refine hK _ _ (fun _ => hS) ?_
          clear hK
          (try simp only [Act.put, List.setIfInBounds_toArray, List.set_cons_zero, List.set_cons_succ])
          refine oneT (i := 3) (by kernel_rfl) rfl (by rfl) (fun K hK => ?_)
          go_simp
          have hlw := HZ24.out.size
          refine (cdcl_any CK none nk ck 0 0 (stepsF n al f0 g) [] (V : Int) v24_ (HOz.out.grid.keep HZ24.out) HNN.out (fun a ha => Nat.lt_of_lt_of_le (HLL.out a ha) hlw) ⟨Sl_nilT v24_, by simp⟩ HBES.out so ro ko po hs1 hs2 hs3 hs4 2000 (Nat.le_refl _) core_none).mono ?_
          rintro e v25_ ⟨st9, hb9, hn9, hc9, S9, ns9, cs9, K9, nk9, ck9, used9, rfl, bw25, ha9⟩
          have AN25 := Lib.hid ha9
          clear ha9 hlw
          have KA25 := Lib.hid (KA24.out.keep bw25)
          have KB25 := Lib.hid (KB24.out.keep bw25)
          have HZ25 := Lib.hid (below_next HZ24.out bw25)
          have hS : v25_.cell? ⟨b18, 0, none⟩ = some (.int .i64 (V : Int)) ∧ v25_.cell? ⟨b18, 1, none⟩ = some (.slice CK nk ck) := ⟨keepBox HZ25.out kz0, keepBox HZ25.out kz1⟩
          clear bw25
          refine hK _ _ (fun _ => hS) ?_
          clear hK
          (try simp only [Act.put, List.setIfInBounds_toArray, List.set_cons_zero, List.set_cons_succ])
          refine take0 (i := 4) (oi := _) (v := ?_) rfl (by kernel_rfl) (by kernel_rfl) (by kernel_rfl) (fun _ _ _ h => h) rfl (Or.inl ⟨by rfl, ?_⟩) (fun _ => hS) ?_
          rotate_left
          · intro w0; go_simp; with_reducible rfl
          (try simp only [Act.put, List.setIfInBounds_toArray, List.set_cons_zero, List.set_cons_succ])
          refine take0 (i := 5) (oi := _) (v := ?_) rfl (by kernel_rfl) (by kernel_rfl) (by kernel_rfl) (fun _ _ _ h => h) rfl (Or.inl ⟨by rfl, ?_⟩) (fun _ => hS) ?_
          rotate_left
          · intro w0; go_simp; with_reducible rfl
          (try simp only [Act.put, List.setIfInBounds_toArray, List.set_cons_zero, List.set_cons_succ])
          refine take0 (i := 6) (oi := _) (v := ?_) rfl (by kernel_rfl) (by kernel_rfl) (by kernel_rfl) (fun _ _ _ h => h) rfl (Or.inl ⟨by rfl, ?_⟩) (fun _ => hS) ?_
          rotate_left
          · intro w0; go_simp; with_reducible rfl
          (try simp only [Act.put, List.setIfInBounds_toArray, List.set_cons_zero, List.set_cons_succ])
          refine oneT (i := 9) (by kernel_rfl) rfl (by rfl) (fun K hK => ?_)
          have e0 := KA25.out.cell 0
          have e1 := KA25.out.cell 1
          have e2 := KA25.out.cell 2
          have e3 := KA25.out.cell 3
          have e4 := KA25.out.cell 4
          have f0 := KA25.out.frozen 0
          have f1 := KA25.out.frozen 1
          have f2 := KA25.out.frozen 2
          have f3 := KA25.out.frozen 3
          have f4 := KA25.out.frozen 4
          simp at e0 e1 e2 e3 e4
          have le := KA25.out.lt
          have pp := put5 KA25.out KB25.out hne HZ25.out hg17 (.int .i64 st9) (.slice hb9 hn9 hc9) (.slice S9 ns9 cs9) (.slice K9 nk9 ck9) (.int .i64 used9)
          have pa := answ5 AN25.out KA25.out st9 used9 hb9 S9 K9 hn9 hc9 ns9 cs9 nk9 ck9
          go_simp
          clear e0 e1 e2 e3 e4 f0 f1 f2 f3 f4 le
          refine hK _ _ (noT_no (by kernel_rfl)) ?_
          clear hK
          (try simp only [Act.put, List.setIfInBounds_toArray, List.set_cons_zero, List.set_cons_succ])
          obtain ⟨v5, hv5⟩ : ∃ z : World, z = (((((v25_.setCell ⟨bA, 0, none⟩ (.int .i64 st9)).setCell ⟨bA, 1, none⟩ (.slice hb9 hn9 hc9)).setCell ⟨bA, 2, none⟩ (.slice S9 ns9 cs9)).setCell ⟨bA, 3, none⟩ (.slice K9 nk9 ck9)).setCell ⟨bA, 4, none⟩ (.int .i64 used9)) := ⟨_, rfl⟩
          obtain ⟨p1, p2, p3⟩ := pp
          rw [← hv5] at p1 p2 p3 pa ⊢
          have P1 := Lib.hid p1
          have P2 := Lib.hid p2
          have P3 := Lib.hid p3
          have PA := Lib.hid pa
          clear hv5 p1 p2 p3 pa
          refine oneT (i := 10) (by kernel_rfl) rfl (by rfl) (fun K hK => ?_)
          have e0 := P2.out.cell 0
          have e1 := P2.out.cell 1
          have f0 := P2.out.frozen 0
          have f1 := P2.out.frozen 1
          simp at e0 e1
          have le := P2.out.lt
          have pq := put2_ P1.out P2.out hne P3.out hg23
          have pb := answ2 PA.out P2.out
          go_simp
          clear e0 e1 f0 f1 le
          refine hK _ _ (noT_no (by kernel_rfl)) ?_
          clear hK
          (try simp only [Act.put, List.setIfInBounds_toArray, List.set_cons_zero, List.set_cons_succ])
          obtain ⟨v6, hv6⟩ : ∃ z : World, z = ((v5.setCell ⟨bB, 0, none⟩ (.int .i64 0)).setCell ⟨bB, 1, none⟩ (.int .i64 0)) := ⟨_, rfl⟩
          obtain ⟨p1, p2, p3⟩ := pq
          rw [← hv6] at p1 p2 p3 pb ⊢
          have Q1 := Lib.hid p1
          have Q2 := Lib.hid p2
          have Q3 := Lib.hid (below_next hzd.out p3)
          have QA := Lib.hid pb
          clear hv6 p1 p2 p3 pb P1 P2 P3 PA
          refine doneT (by kernel_rfl) ?_ _
          try go_wp2_with fail
          go_meet
          case rel => exact ⟨bA, bB, st9, hb9, hn9, hc9, S9, ns9, cs9, K9, nk9, ck9, used9, rfl, rfl, Q3, Q1, Q2, QA⟩
      · go_simp
        obtain ⟨v26_, h26⟩ : ∃ z : World, z = wz.alloc (.cells #[.int .i64 0, .int .i64 0] 28) := ⟨_, rfl⟩
        have bw26 : Below wz.heap.size wz v26_ := by rw [h26]; exact below_new _ _
        have KB26 : Hid (Blk v26_ wz.heap.size 28 #[.int .i64 0, .int .i64 0]) := by rw [h26]; exact Blk.new _ _ _
        rw [← h26]
        obtain ⟨bB, hbB⟩ : ∃ z : Nat, wz.heap.size = z := ⟨_, rfl⟩
        have hg26 : wz.heap.size ≤ bB := by rw [← hbB]; exact HZ0.out.size
        rw [hbB] at KB26 ⊢
        have HZ26 := Lib.hid (below_next HZ0.out bw26)
        have hS : v26_.cell? ⟨b18, 0, none⟩ = some (.int .i64 (V : Int)) ∧ v26_.cell? ⟨b18, 1, none⟩ = some (.slice CK nk ck) := ⟨keepBox HZ26.out kz0, keepBox HZ26.out kz1⟩
        clear h26 hbB
        clear bw26
        refine hK _ _ (fun _ => hS) ?_
        clear hK
        (try simp only [Act.put, List.setIfInBounds_toArray, List.set_cons_zero, List.set_cons_succ])
        refine twoT (i := 2) (j := 7) (by kernel_rfl) rfl (by rfl) rfl (by rfl) (fun K hK => ?_) (fun K hK => ?_)
        · go_simp
          refine (optionsOf_any o v26_ HOP.out).mono ?_
          rintro e v27_ ⟨so, ro, ko, po, rfl, hs1, hs2, hs3, hs4, bw27⟩
          have KB27 := Lib.hid (KB26.out.keep bw27)
          have HZ27 := Lib.hid (below_next HZ26.out bw27)
          have hS : v27_.cell? ⟨b18, 0, none⟩ = some (.int .i64 (V : Int)) ∧ v27_.cell? ⟨b18, 1, none⟩ = some (.slice CK nk ck) := ⟨keepBox HZ27.out kz0, keepBox HZ27.out kz1⟩
          clear bw27
          refine hK _ _ (fun _ => hS) ?_
          clear hK
          (try simp only [Act.put, List.setIfInBounds_toArray, List.set_cons_zero, List.set_cons_succ])
          refine twoT (i := 3) (j := 7) (by kernel_rfl) rfl (by rfl) rfl (by rfl) (fun K hK => ?_) (fun K hK => ?_)
          · go_simp
            have hlw := HZ27.out.size
            refine (cdcl_any CK none nk ck 0 0 (stepsF n al f0 g) [] (V : Int) v27_ (HOz.out.grid.keep HZ27.out) HNN.out (fun a ha => Nat.lt_of_lt_of_le (HLL.out a ha) hlw) ⟨Sl_nilT v27_, by simp⟩ HBES.out so ro ko po hs1 hs2 hs3 hs4 2000 (Nat.le_refl _) core_none).mono ?_
            rintro e v28_ ⟨st9, hb9, hn9, hc9, S9, ns9, cs9, K9, nk9, ck9, used9, rfl, bw28, ha9⟩
            have AN28 := Lib.hid ha9
            clear ha9 hlw
            have KB28 := Lib.hid (KB27.out.keep bw28)
            have HZ28 := Lib.hid (below_next HZ27.out bw28)
            have hS : v28_.cell? ⟨b18, 0, none⟩ = some (.int .i64 (V : Int)) ∧ v28_.cell? ⟨b18, 1, none⟩ = some (.slice CK nk ck) := ⟨keepBox HZ28.out kz0, keepBox HZ28.out kz1⟩
            clear bw28
            refine hK _ _ (fun _ => hS) ?_
            clear hK
            (try simp only [Act.put, List.setIfInBounds_toArray, List.set_cons_zero, List.set_cons_succ])
            refine take0 (i := 4) (oi := _) (v := ?_) rfl (by kernel_rfl) (by kernel_rfl) (by kernel_rfl) (fun _ _ _ h => h) rfl (Or.inl ⟨by rfl, ?_⟩) (fun _ => hS) ?_
            rotate_left
            · intro w0; go_simp; with_reducible rfl
            (try simp only [Act.put, List.setIfInBounds_toArray, List.set_cons_zero, List.set_cons_succ])
            refine take0 (i := 5) (oi := _) (v := ?_) rfl (by kernel_rfl) (by kernel_rfl) (by kernel_rfl) (fun _ _ _ h => h) rfl (Or.inl ⟨by rfl, ?_⟩) (fun _ => hS) ?_
            rotate_left
            · intro w0; go_simp; with_reducible rfl
            (try simp only [Act.put, List.setIfInBounds_toArray, List.set_cons_zero, List.set_cons_succ])
            refine take0 (i := 6) (oi := _) (v := ?_) rfl (by kernel_rfl) (by kernel_rfl) (by kernel_rfl) (fun _ _ _ h => h) rfl (Or.inl ⟨by rfl, ?_⟩) (fun _ => hS) ?_
            rotate_left
            · intro w0; go_simp; with_reducible rfl
            (try simp only [Act.put, List.setIfInBounds_toArray, List.set_cons_zero, List.set_cons_succ])
            refine oneT (i := 7) (by kernel_rfl) rfl (by rfl) (fun K hK => ?_)
            go_simp
            obtain ⟨v29_, h29⟩ : ∃ z : World, z = v28_.alloc (.cells #[.int .i64 0, .slice none 0 0, .slice none 0 0, .slice none 0 0, .int .i64 0] 45) := ⟨_, rfl⟩
            have bw29 : Below v28_.heap.size v28_ v29_ := by rw [h29]; exact below_new _ _
            have KA29 : Hid (Blk v29_ v28_.heap.size 45 #[.int .i64 0, .slice none 0 0, .slice none 0 0, .slice none 0 0, .int .i64 0]) := by rw [h29]; exact Blk.new _ _ _
            rw [← h29]
            obtain ⟨bA, hbA⟩ : ∃ z : Nat, v28_.heap.size = z := ⟨_, rfl⟩
            have hg29 : wz.heap.size ≤ bA := by rw [← hbA]; exact HZ28.out.size
            rw [hbA] at KA29 ⊢
            have hne : bA ≠ bB := by have := KB28.out.lt; omega
            have KB29 := Lib.hid (KB28.out.keep bw29)
            have AN29 := Lib.hid (answ_keep AN28.out bw29)
            have HZ29 := Lib.hid (below_next HZ28.out bw29)
            have hS : v29_.cell? ⟨b18, 0, none⟩ = some (.int .i64 (V : Int)) ∧ v29_.cell? ⟨b18, 1, none⟩ = some (.slice CK nk ck) := ⟨keepBox HZ29.out kz0, keepBox HZ29.out kz1⟩
            clear h29 hbA
            clear bw29
            refine hK _ _ (fun _ => hS) ?_
            clear hK
            (try simp only [Act.put, List.setIfInBounds_toArray, List.set_cons_zero, List.set_cons_succ])
            refine oneT (i := 9) (by kernel_rfl) rfl (by rfl) (fun K hK => ?_)
            have e0 := KA29.out.cell 0
            have e1 := KA29.out.cell 1
            have e2 := KA29.out.cell 2
            have e3 := KA29.out.cell 3
            have e4 := KA29.out.cell 4
            have f0 := KA29.out.frozen 0
            have f1 := KA29.out.frozen 1
            have f2 := KA29.out.frozen 2
            have f3 := KA29.out.frozen 3
            have f4 := KA29.out.frozen 4
            simp at e0 e1 e2 e3 e4
            have le := KA29.out.lt
            have pp := put5 KA29.out KB29.out hne HZ29.out hg29 (.int .i64 st9) (.slice hb9 hn9 hc9) (.slice S9 ns9 cs9) (.slice K9 nk9 ck9) (.int .i64 used9)
            have pa := answ5 AN29.out KA29.out st9 used9 hb9 S9 K9 hn9 hc9 ns9 cs9 nk9 ck9
            go_simp
            clear e0 e1 e2 e3 e4 f0 f1 f2 f3 f4 le
            refine hK _ _ (noT_no (by kernel_rfl)) ?_
            clear hK
            (try simp only [Act.put, List.setIfInBounds_toArray, List.set_cons_zero, List.set_cons_succ])
            obtain ⟨v5, hv5⟩ : ∃ z : World, z = (((((v29_.setCell ⟨bA, 0, none⟩ (.int .i64 st9)).setCell ⟨bA, 1, none⟩ (.slice hb9 hn9 hc9)).setCell ⟨bA, 2, none⟩ (.slice S9 ns9 cs9)).setCell ⟨bA, 3, none⟩ (.slice K9 nk9 ck9)).setCell ⟨bA, 4, none⟩ (.int .i64 used9)) := ⟨_, rfl⟩
            obtain ⟨p1, p2, p3⟩ := pp
            rw [← hv5] at p1 p2 p3 pa ⊢
            have P1 := Lib.hid p1
            have P2 := Lib.hid p2
            have P3 := Lib.hid p3
            have PA := Lib.hid pa
            clear hv5 p1 p2 p3 pa
            refine oneT (i := 10) (by kernel_rfl) rfl (by rfl) (fun K hK => ?_)
            have e0 := P2.out.cell 0
            have e1 := P2.out.cell 1
            have f0 := P2.out.frozen 0
            have f1 := P2.out.frozen 1
            simp at e0 e1
            have le := P2.out.lt
            have pq := put2_ P1.out P2.out hne P3.out hg26
            have pb := answ2 PA.out P2.out
            go_simp
            clear e0 e1 f0 f1 le
            refine hK _ _ (noT_no (by kernel_rfl)) ?_
            clear hK
            (try simp only [Act.put, List.setIfInBounds_toArray, List.set_cons_zero, List.set_cons_succ])
            obtain ⟨v6, hv6⟩ : ∃ z : World, z = ((v5.setCell ⟨bB, 0, none⟩ (.int .i64 0)).setCell ⟨bB, 1, none⟩ (.int .i64 0)) := ⟨_, rfl⟩
            obtain ⟨p1, p2, p3⟩ := pq
            rw [← hv6] at p1 p2 p3 pb ⊢
            have Q1 := Lib.hid p1
            have Q2 := Lib.hid p2
            have Q3 := Lib.hid (below_next hzd.out p3)
            have QA := Lib.hid pb
            clear hv6 p1 p2 p3 pb P1 P2 P3 PA
            refine doneT (by kernel_rfl) ?_ _
            try go_wp2_with fail
            go_meet
            case rel => exact ⟨bA, bB, st9, hb9, hn9, hc9, S9, ns9, cs9, K9, nk9, ck9, used9, rfl, rfl, Q3, Q1, Q2, QA⟩
          · go_simp
            obtain ⟨v30_, h30⟩ : ∃ z : World, z = v27_.alloc (.cells #[.int .i64 0, .slice none 0 0, .slice none 0 0, .slice none 0 0, .int .i64 0] 45) := ⟨_, rfl⟩
            have bw30 : Below v27_.heap.size v27_ v30_ := by rw [h30]; exact below_new _ _
            have KA30 : Hid (Blk v30_ v27_.heap.size 45 #[.int .i64 0, .slice none 0 0, .slice none 0 0, .slice none 0 0, .int .i64 0]) := by rw [h30]; exact Blk.new _ _ _
            rw [← h30]
            obtain ⟨bA, hbA⟩ : ∃ z : Nat, v27_.heap.size = z := ⟨_, rfl⟩
            have hg30 : wz.heap.size ≤ bA := by rw [← hbA]; exact HZ27.out.size
            rw [hbA] at KA30 ⊢
            have hne : bA ≠ bB := by have := KB27.out.lt; omega
            have KB30 := Lib.hid (KB27.out.keep bw30)
            have HZ30 := Lib.hid (below_next HZ27.out bw30)
            have hS : v30_.cell? ⟨b18, 0, none⟩ = some (.int .i64 (V : Int)) ∧ v30_.cell? ⟨b18, 1, none⟩ = some (.slice CK nk ck) := ⟨keepBox HZ30.out kz0, keepBox HZ30.out kz1⟩
            clear h30 hbA
            clear bw30
            refine hK _ _ (fun _ => hS) ?_
            clear hK
            (try simp only [Act.put, List.setIfInBounds_toArray, List.set_cons_zero, List.set_cons_succ])
            refine oneT (i := 3) (by kernel_rfl) rfl (by rfl) (fun K hK => ?_)
            go_simp
            have hlw := HZ30.out.size
            refine (cdcl_any CK none nk ck 0 0 (stepsF n al f0 g) [] (V : Int) v30_ (HOz.out.grid.keep HZ30.out) HNN.out (fun a ha => Nat.lt_of_lt_of_le (HLL.out a ha) hlw) ⟨Sl_nilT v30_, by simp⟩ HBES.out so ro ko po hs1 hs2 hs3 hs4 2000 (Nat.le_refl _) core_none).mono ?_
            rintro e v31_ ⟨st9, hb9, hn9, hc9, S9, ns9, cs9, K9, nk9, ck9, used9, rfl, bw31, ha9⟩
            have AN31 := Lib.hid ha9
            clear ha9 hlw
            have KA31 := Lib.hid (KA30.out.keep bw31)
            have KB31 := Lib.hid (KB30.out.keep bw31)
            have HZ31 := Lib.hid (below_next HZ30.out bw31)
            have hS : v31_.cell? ⟨b18, 0, none⟩ = some (.int .i64 (V : Int)) ∧ v31_.cell? ⟨b18, 1, none⟩ = some (.slice CK nk ck) := ⟨keepBox HZ31.out kz0, keepBox HZ31.out kz1⟩
            clear bw31
            refine hK _ _ (fun _ => hS) ?_
            clear hK
            (try simp only [Act.put, List.setIfInBounds_toArray, List.set_cons_zero, List.set_cons_succ])
            refine take0 (i := 4) (oi := _) (v := ?_) rfl (by kernel_rfl) (by kernel_rfl) (by kernel_rfl) (fun _ _ _ h => h) rfl (Or.inl ⟨by rfl, ?_⟩) (fun _ => hS) ?_
            rotate_left
            · intro w0; go_simp; with_reducible rfl
            (try simp only [Act.put, List.setIfInBounds_toArray, List.set_cons_zero, List.set_cons_succ])
            refine take0 (i := 5) (oi := _) (v := ?_) rfl (by kernel_rfl) (by kernel_rfl) (by kernel_rfl) (fun _ _ _ h => h) rfl (Or.inl ⟨by rfl, ?_⟩) (fun _ => hS) ?_
            rotate_left
            · intro w0; go_simp; with_reducible rfl
            (try simp only [Act.put, List.setIfInBounds_toArray, List.set_cons_zero, List.set_cons_succ])
            refine take0 (i := 6) (oi := _) (v := ?_) rfl (by kernel_rfl) (by kernel_rfl) (by kernel_rfl) (fun _ _ _ h => h) rfl (Or.inl ⟨by rfl, ?_⟩) (fun _ => hS) ?_
            rotate_left
            · intro w0; go_simp; with_reducible rfl
            (try simp only [Act.put, List.setIfInBounds_toArray, List.set_cons_zero, List.set_cons_succ])
            refine oneT (i := 9) (by kernel_rfl) rfl (by rfl) (fun K hK => ?_)
            have e0 := KA31.out.cell 0
            have e1 := KA31.out.cell 1
            have e2 := KA31.out.cell 2
            have e3 := KA31.out.cell 3
            have e4 := KA31.out.cell 4
            have f0 := KA31.out.frozen 0
            have f1 := KA31.out.frozen 1
            have f2 := KA31.out.frozen 2
            have f3 := KA31.out.frozen 3
            have f4 := KA31.out.frozen 4
            simp at e0 e1 e2 e3 e4
            have le := KA31.out.lt
            have pp := put5 KA31.out KB31.out hne HZ31.out hg30 (.int .i64 st9) (.slice hb9 hn9 hc9) (.slice S9 ns9 cs9) (.slice K9 nk9 ck9) (.int .i64 used9)
            have pa := answ5 AN31.out KA31.out st9 used9 hb9 S9 K9 hn9 hc9 ns9 cs9 nk9 ck9
            go_simp
            clear e0 e1 e2 e3 e4 f0 f1 f2 f3 f4 le
            refine hK _ _ (noT_no (by kernel_rfl)) ?_
            clear hK
            (try simp only [Act.put, List.setIfInBounds_toArray, List.set_cons_zero, List.set_cons_succ])
            obtain ⟨v5, hv5⟩ : ∃ z : World, z = (((((v31_.setCell ⟨bA, 0, none⟩ (.int .i64 st9)).setCell ⟨bA, 1, none⟩ (.slice hb9 hn9 hc9)).setCell ⟨bA, 2, none⟩ (.slice S9 ns9 cs9)).setCell ⟨bA, 3, none⟩ (.slice K9 nk9 ck9)).setCell ⟨bA, 4, none⟩ (.int .i64 used9)) := ⟨_, rfl⟩
            obtain ⟨p1, p2, p3⟩ := pp
            rw [← hv5] at p1 p2 p3 pa ⊢
            have P1 := Lib.hid p1
            have P2 := Lib.hid p2
            have P3 := Lib.hid p3
            have PA := Lib.hid pa
            clear hv5 p1 p2 p3 pa
            refine oneT (i := 10) (by kernel_rfl) rfl (by rfl) (fun K hK => ?_)
            have e0 := P2.out.cell 0
            have e1 := P2.out.cell 1
            have f0 := P2.out.frozen 0
            have f1 := P2.out.frozen 1
            simp at e0 e1
            have le := P2.out.lt
            have pq := put2_ P1.out P2.out hne P3.out hg26
            have pb := answ2 PA.out P2.out
            go_simp
            clear e0 e1 f0 f1 le
            refine hK _ _ (noT_no (by kernel_rfl)) ?_
            clear hK
            (try simp only [Act.put, List.setIfInBounds_toArray, List.set_cons_zero, List.set_cons_succ])
            obtain ⟨v6, hv6⟩ : ∃ z : World, z = ((v5.setCell ⟨bB, 0, none⟩ (.int .i64 0)).setCell ⟨bB, 1, none⟩ (.int .i64 0)) := ⟨_, rfl⟩
            obtain ⟨p1, p2, p3⟩ := pq
            rw [← hv6] at p1 p2 p3 pb ⊢
            have Q1 := Lib.hid p1
            have Q2 := Lib.hid p2
            have Q3 := Lib.hid (below_next hzd.out p3)
            have QA := Lib.hid pb
            clear hv6 p1 p2 p3 pb P1 P2 P3 PA
            refine doneT (by kernel_rfl) ?_ _
            try go_wp2_with fail
            go_meet
            case rel => exact ⟨bA, bB, st9, hb9, hn9, hc9, S9, ns9, cs9, K9, nk9, ck9, used9, rfl, rfl, Q3, Q1, Q2, QA⟩
        · go_simp
          obtain ⟨v32_, h32⟩ : ∃ z : World, z = v26_.alloc (.cells #[.int .i64 0, .slice none 0 0, .slice none 0 0, .slice none 0 0, .int .i64 0] 45) := ⟨_, rfl⟩
          have bw32 : Below v26_.heap.size v26_ v32_ := by rw [h32]; exact below_new _ _
          have KA32 : Hid (Blk v32_ v26_.heap.size 45 #[.int .i64 0, .slice none 0 0, .slice none 0 0, .slice none 0 0, .int .i64 0]) := by rw [h32]; exact Blk.new _ _ _
          rw [← h32]
          obtain ⟨bA, hbA⟩ : ∃ z : Nat, v26_.heap.size = z := ⟨_, rfl⟩
          have hg32 : wz.heap.size ≤ bA := by rw [← hbA]; exact HZ26.out.size
          rw [hbA] at KA32 ⊢
          have hne : bA ≠ bB := by have := KB26.out.lt; omega
          have KB32 := Lib.hid (KB26.out.keep bw32)
          have HZ32 := Lib.hid (below_next HZ26.out bw32)
          have hS : v32_.cell? ⟨b18, 0, none⟩ = some (.int .i64 (V : Int)) ∧ v32_.cell? ⟨b18, 1, none⟩ = some (.slice CK nk ck) := ⟨keepBox HZ32.out kz0, keepBox HZ32.out kz1⟩
          clear h32 hbA
          clear bw32
          refine hK _ _ (fun _ => hS) ?_
          clear hK
          (try simp only [Act.put, List.setIfInBounds_toArray, List.set_cons_zero, List.set_cons_succ])
          refine oneT (i := 2) (by kernel_rfl) rfl (by rfl) (fun K hK => ?_)
          go_simp
          refine (optionsOf_any o v32_ HOP.out).mono ?_
          rintro e v33_ ⟨so, ro, ko, po, rfl, hs1, hs2, hs3, hs4, bw33⟩
          have KA33 := Lib.hid (KA32.out.keep bw33)
          have KB33 := Lib.hid (KB32.out.keep bw33)
          have HZ33 := Lib.hid (below_next HZ32.out bw33)
          have hS : v33_.cell? ⟨b18, 0, none⟩ = some (.int .i64 (V : Int)) ∧ v33_.cell? ⟨b18, 1, none⟩ = some (.slice CK nk ck) := ⟨keepBox HZ33.out kz0, keepBox HZ33.out kz1⟩
          clear bw33
          refine hK _ _ (fun _ => hS) ?_
          clear hK
          (try simp only [Act.put, List.setIfInBounds_toArray, List.set_cons_zero, List.set_cons_succ])
          refine oneT (i := 3) (by kernel_rfl) rfl (by rfl) (fun K hK => ?_)
          go_simp
          have hlw := HZ33.out.size
          refine (cdcl_any CK none nk ck 0 0 (stepsF n al f0 g) [] (V : Int) v33_ (HOz.out.grid.keep HZ33.out) HNN.out (fun a ha => Nat.lt_of_lt_of_le (HLL.out a ha) hlw) ⟨Sl_nilT v33_, by simp⟩ HBES.out so ro ko po hs1 hs2 hs3 hs4 2000 (Nat.le_refl _) core_none).mono ?_
          rintro e v34_ ⟨st9, hb9, hn9, hc9, S9, ns9, cs9, K9, nk9, ck9, used9, rfl, bw34, ha9⟩
          have AN34 := Lib.hid ha9
          clear ha9 hlw
          have KA34 := Lib.hid (KA33.out.keep bw34)
          have KB34 := Lib.hid (KB33.out.keep bw34)
          have HZ34 := Lib.hid (below_next HZ33.out bw34)
          have hS : v34_.cell? ⟨b18, 0, none⟩ = some (.int .i64 (V : Int)) ∧ v34_.cell? ⟨b18, 1, none⟩ = some (.slice CK nk ck) := ⟨keepBox HZ34.out kz0, keepBox HZ34.out kz1⟩
          clear bw34
          refine hK _ _ (fun _ => hS) ?_
          clear hK
          (try simp only [Act.put, List.setIfInBounds_toArray, List.set_cons_zero, List.set_cons_succ])
          refine take0 (i := 4) (oi := _) (v := ?_) rfl (by kernel_rfl) (by kernel_rfl) (by kernel_rfl) (fun _ _ _ h => h) rfl (Or.inl ⟨by rfl, ?_⟩) (fun _ => hS) ?_
          rotate_left
          · intro w0; go_simp; with_reducible rfl
          (try simp only [Act.put, List.setIfInBounds_toArray, List.set_cons_zero, List.set_cons_succ])
          refine take0 (i := 5) (oi := _) (v := ?_) rfl (by kernel_rfl) (by kernel_rfl) (by kernel_rfl) (fun _ _ _ h => h) rfl (Or.inl ⟨by rfl, ?_⟩) (fun _ => hS) ?_
          rotate_left
          · intro w0; go_simp; with_reducible rfl
          (try simp only [Act.put, List.setIfInBounds_toArray, List.set_cons_zero, List.set_cons_succ])
          refine take0 (i := 6) (oi := _) (v := ?_) rfl (by kernel_rfl) (by kernel_rfl) (by kernel_rfl) (fun _ _ _ h => h) rfl (Or.inl ⟨by rfl, ?_⟩) (fun _ => hS) ?_
          rotate_left
          · intro w0; go_simp; with_reducible rfl
          (try simp only [Act.put, List.setIfInBounds_toArray, List.set_cons_zero, List.set_cons_succ])
          refine oneT (i := 9) (by kernel_rfl) rfl (by rfl) (fun K hK => ?_)
          have e0 := KA34.out.cell 0
          have e1 := KA34.out.cell 1
          have e2 := KA34.out.cell 2
          have e3 := KA34.out.cell 3
          have e4 := KA34.out.cell 4
          have f0 := KA34.out.frozen 0
          have f1 := KA34.out.frozen 1
          have f2 := KA34.out.frozen 2
          have f3 := KA34.out.frozen 3
          have f4 := KA34.out.frozen 4
          simp at e0 e1 e2 e3 e4
          have le := KA34.out.lt
          have pp := put5 KA34.out KB34.out hne HZ34.out hg32 (.int .i64 st9) (.slice hb9 hn9 hc9) (.slice S9 ns9 cs9) (.slice K9 nk9 ck9) (.int .i64 used9)
          have pa := answ5 AN34.out KA34.out st9 used9 hb9 S9 K9 hn9 hc9 ns9 cs9 nk9 ck9
          go_simp
          clear e0 e1 e2 e3 e4 f0 f1 f2 f3 f4 le
          refine hK _ _ (noT_no (by kernel_rfl)) ?_
          clear hK
          (try simp only [Act.put, List.setIfInBounds_toArray, List.set_cons_zero, List.set_cons_succ])
          obtain ⟨v5, hv5⟩ : ∃ z : World, z = (((((v34_.setCell ⟨bA, 0, none⟩ (.int .i64 st9)).setCell ⟨bA, 1, none⟩ (.slice hb9 hn9 hc9)).setCell ⟨bA, 2, none⟩ (.slice S9 ns9 cs9)).setCell ⟨bA, 3, none⟩ (.slice K9 nk9 ck9)).setCell ⟨bA, 4, none⟩ (.int .i64 used9)) := ⟨_, rfl⟩
          obtain ⟨p1, p2, p3⟩ := pp
          rw [← hv5] at p1 p2 p3 pa ⊢
          have P1 := Lib.hid p1
          have P2 := Lib.hid p2
          have P3 := Lib.hid p3
          have PA := Lib.hid pa
          clear hv5 p1 p2 p3 pa
          refine oneT (i := 10) (by kernel_rfl) rfl (by rfl) (fun K hK => ?_)
          have e0 := P2.out.cell 0
          have e1 := P2.out.cell 1
          have f0 := P2.out.frozen 0
          have f1 := P2.out.frozen 1
          simp at e0 e1
          have le := P2.out.lt
          have pq := put2_ P1.out P2.out hne P3.out hg26
          have pb := answ2 PA.out P2.out
          go_simp
          clear e0 e1 f0 f1 le
          refine hK _ _ (noT_no (by kernel_rfl)) ?_
          clear hK
          (try simp only [Act.put, List.setIfInBounds_toArray, List.set_cons_zero, List.set_cons_succ])
          obtain ⟨v6, hv6⟩ : ∃ z : World, z = ((v5.setCell ⟨bB, 0, none⟩ (.int .i64 0)).setCell ⟨bB, 1, none⟩ (.int .i64 0)) := ⟨_, rfl⟩
          obtain ⟨p1, p2, p3⟩ := pq
          rw [← hv6] at p1 p2 p3 pb ⊢
          have Q1 := Lib.hid p1
          have Q2 := Lib.hid p2
          have Q3 := Lib.hid (below_next hzd.out p3)
          have QA := Lib.hid pb
          clear hv6 p1 p2 p3 pb P1 P2 P3 PA
          refine doneT (by kernel_rfl) ?_ _
          try go_wp2_with fail
          go_meet
          case rel => exact ⟨bA, bB, st9, hb9, hn9, hc9, S9, ns9, cs9, K9, nk9, ck9, used9, rfl, rfl, Q3, Q1, Q2, QA⟩
    case rest =>
      obtain ⟨bA, bB, st9, hb9, hn9, hc9, S9, ns9, cs9, K9, nk9, ck9, used9, rfl, rfl, hcb, HA, HF, HAN⟩ := hcut
      have hcb := hcb.out
      clear HBES HNN hstl
      have HK_8 := Lib.hid (HK_7.out.keep hcb)
      have HQ_8 := Lib.hid (HQ_7.out.keep hcb)
      have H10_8 := Lib.hid (H10_7.out.keep hcb)
      have H13_8 := Lib.hid (H13_7.out.keep hcb)
      have HO_8 := Lib.hid (HO_7.out.keep hcb)
      have H18_8 := Lib.hid (H18_7.out.keep hcb)
      have HB_8 := Lib.hid (below_next HB_7.out hcb)
      clear hcb HK_7 HQ_7 H10_7 H13_7 HO_7 H18_7 HB_7 
      have a0 := HA.out.cell 0
      have a1 := HA.out.cell 1
      have al0 := HA.out.lt
      simp at a0 a1
      have g0 := HF.out.cell 0
      have gl := HF.out.lt
      simp at g0
      have hone := HAN.out.one
      rcases hone with rfl | rfl | rfl
      · obtain ⟨bs, _, _, hall, _⟩ := HAN.out.yes rfl
        obtain ⟨_, s9, hws, _, hgs⟩ := steps_sound HAK.out hf16 hg16 hall
        exact absurd hgs (HNO.out _ _ hws)
      · go_wp2_with fail
        go_ret
        exact ⟨rfl, HB_8.out⟩
      · go_wp2_with fail
        go_ret
        exact ⟨rfl, HB_8.out⟩
end Go.Proofs.Ytlfgcblijfflfaa

/- The law TopPlans holds: for every input it returns true, and each argument reads behind the call as it read before. -/
namespace Go.Proofs.Ytlfgcblijfflfaa
open Go.ChangeShapes Go.WideShapes Go.ChangeAt Go.RowKit Go.Deep Go.Joins
set_option linter.unusedVariables false

theorem topPlans_knob : ownKnob Try.prog.godebug = none := by kernel_rfl
theorem topPlans_laidOut : laidOutB Try.prog = true := by kernel_rfl

set_option maxRecDepth 100000 in
theorem topPlans_lifted (os : Os) (started : os.Started) (H : Type) (enc : TypeId × Value → H) :
    ReturnsInHanded {} Try.checked os 3 .any (Rows.topPlansSpec.pre6 enc Try.prog Try.f3 Rows.topPlansRow.domain false) (Rows.topPlansSpec.post enc Try.prog Try.f3 false true false false) := by
  refine returnsInHanded_of_change (C := Try.checked) topPlans_knob started (by kernel_rfl) Try.func3
    (ChangeSpec.witness6 (enc := enc) (C := Try.checked) false ⟨#[], #[.slice none 0 0, .int .i64 0, .int .i64 0], []⟩ 8 (by kernel_rfl) (by kernel_rfl) (by kernel_rfl) (by kernel_rfl)) ?_
  intro W base args ds gs before hval0 hW hcnd _
  have hval : ∀ (j : Nat) t v, Try.f3.params[j]? = some t → args[j]? = some v → Value.okWide Try.prog W .any base t v := hval0
  have hW' := hW
  obtain ⟨p, q, hA0, hV, rfl, hfz, hnd⟩ := hW
  have hA : DataW.TrodAll enc Try.prog W 0 (fun _ => true) true Try.f3.params.toList args.toList ds p := hA0
  rw [Try.params3] at hA hval
  obtain ⟨v0, vs0, d0, ds0, p0, q0, hargs, rfl, rfl, h0, r0⟩ := trodAll_cons hA
  obtain ⟨v1, vs1, d1, ds1, p1, q1, rfl, rfl, rfl, h1, r1⟩ := trodAll_cons r0
  obtain ⟨v2, vs2, d2, ds2, p2, q2, rfl, rfl, rfl, h2, r2⟩ := trodAll_cons r1
  obtain ⟨rfl, rfl, rfl⟩ := trodAll_nil r2
  obtain rfl : args = #[v0, v1, v2] := by cases args; simp_all
  obtain ⟨rfl, rfl⟩ := trodVars_none hV
  have k0 := h0
  have lt0 : ∀ x ∈ p0, x.block < W.heap.size := by obtain ⟨m, hm⟩ := k0; exact DataW.trod_lt m _ _ _ hm
  obtain ⟨A0, n0, c0, rfl⟩ := okWide_slice Try.underlying22 (hval 0 22 v0 rfl rfl)
  obtain ⟨fuel0, hf0⟩ := h0
  obtain ⟨B0, m0, e0, x0, eq0, w0⟩ := rd_ints Try.underlying22 Try.underlying3 (by kernel_rfl) hf0
  cases eq0
  have k1 := h1
  have lt1 : ∀ x ∈ p1, x.block < W.heap.size := by obtain ⟨m, hm⟩ := k1; exact DataW.trod_lt m _ _ _ hm
  obtain ⟨a1, rfl, _, _, w1⟩ := open_int Try.underlying3 (hval 1 3 v1 rfl rfl) h1
  have k2 := h2
  have lt2 : ∀ x ∈ p2, x.block < W.heap.size := by obtain ⟨m, hm⟩ := k2; exact DataW.trod_lt m _ _ _ hm
  obtain ⟨a2, rfl, _, _, w2⟩ := open_int Try.underlying3 (hval 2 3 v2 rfl rfl) h2
  clear hA0 hval0
  refine (topPlans_walk _ w0 (i64_wf w1) (i64_wf w2)).mono fun e W' ⟨he, bel⟩ => ?_
  subst he
  exact ⟨_, rfl, _, _, _, [], _, [], hW', trodAll_mk1 (shut_bool Try.underlying4 _), (trodAll_cons_mk (Below.trod topPlans_laidOut (by kernel_rfl) (of_decide_eq_true (by kernel_rfl)) k0 bel lt0) (trodAll_cons_mk (Below.trod topPlans_laidOut (by kernel_rfl) (of_decide_eq_true (by kernel_rfl)) k1 bel lt1) (trodAll_cons_mk (Below.trod topPlans_laidOut (by kernel_rfl) (of_decide_eq_true (by kernel_rfl)) k2 bel lt2) trodAll_mk0))), rfl, bel.frame _, fun h => by cases h⟩

/-- THE STATEMENT. -/
theorem topPlans_holds : Rows.TopPlansSaid :=
  OpenClaim.holds_of_wide 3 Try.f3 rfl rfl rfl rfl rfl rfl rfl ⟨rfl, rfl, rfl, rfl, rfl⟩ rfl rfl rfl rfl rfl (by kernel_rfl) Try.func3 (by kernel_rfl)
    (of_decide_eq_true (by kernel_rfl)) (by unfold Func.isWrapper; first | (rw [if_pos (by decide +kernel)]; kernel_rfl) | (rw [if_neg (by decide +kernel)]; exact ⟨rfl, rfl⟩))
    (fun os started H enc _ => topPlans_lifted os started H enc)
end Go.Proofs.Ytlfgcblijfflfaa
