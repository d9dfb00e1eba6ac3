/- A region that draws its order and ends in stores to the cells that it loads: the loads may be taken first if each store waits for them. No program in sight. -/
import Derived.OrdersHeld
namespace Go.Proofs.YtlfgcblijfflfaaGreat
section
variable {P : Program} {ops : Array Oper} {Q : Exit → Act → World → Prop} {md : Region.Mode} {S : World → Prop} {ts : List Nat}

/-- None of the tail has come up. -/
def noT (ts : List Nat) (listed : Array Bool) : Bool := ts.all fun t => !listed.getD t true
theorem noT_set {ts : List Nat} {listed : Array Bool} {j : Nat} (h : noT ts (listed.setIfInBounds j true) = true) (hj : listed.getD j true = false) : noT ts listed = true ∧ ts.contains j = false := by
  have hlt : j < listed.size := by
    rcases Nat.lt_or_ge j listed.size with h' | h'
    · exact h'
    · simp [Array.getElem?_eq_none h'] at hj
  have hno : ts.contains j = false := by
    cases hc : ts.contains j
    · rfl
    · have := List.all_eq_true.1 h j (by simpa using hc)
      simp [hlt] at this
  refine ⟨List.all_eq_true.2 fun t ht => ?_, hno⟩
  have h1 := List.all_eq_true.1 h t ht
  have hne : j ≠ t := fun e => by subst e; simp [ht] at hno
  rw [getD_set_ne true hne] at h1
  exact h1
theorem noT_mk {ts : List Nat} {listed : Array Bool} {j : Nat} (h : noT ts listed = true) (hj : ts.contains j = false) : noT ts (listed.setIfInBounds j true) = true :=
  List.all_eq_true.2 fun t ht => by
    have hne : j ≠ t := fun e => by subst e; simp [ht] at hj
    rw [getD_set_ne true hne]
    exact List.all_eq_true.1 h t ht

/-- Whatever order is picked; S holds behind every operation that is carried out ahead of the tail ts. -/
def wpAnyT (P : Program) (md : Region.Mode) (ops : Array Oper) (Q : Exit → Act → World → Prop) (S : World → Prop) (ts : List Nat) : Nat → Array Bool → Act → World → Prop
  | 0, listed, a, w => Region.ready md ops listed = [] ∧ Q .normal a w
  | fuel + 1, listed, a, w =>
    (Region.ready md ops listed = [] → Q .normal a w) ∧
    ∀ i ∈ Region.ready md ops listed, wpOp P ops Q i (fun a' w' => (noT ts (listed.setIfInBounds i true) = true → S w') ∧ wpAnyT P md ops Q S ts fuel (listed.setIfInBounds i true) a' w') a w

theorem wpAny_of_tail : ∀ (fuel : Nat) (listed : Array Bool) (a : Act) (w : World), wpAnyT P md ops Q S ts fuel listed a w → wpAny P md ops Q fuel listed a w
  | 0, _, _, _, h => h
  | fuel + 1, _, _, _, h => ⟨h.1, fun i hi => wpOp_mono (fun a' w' h' => wpAny_of_tail fuel _ a' w' h'.2) (h.2 i hi)⟩

theorem wpAnyT_firstS {i : Nat} {oi : Oper} {v : Value} (hi : ops[i]? = some oi) (hsel : ∀ (j : Nat) (o : Oper) cs b, ops[j]? = some o → o.op ≠ .select cs b)
    (hQ : ∀ c a w, Q (.panic c) (a.put oi.dst v) w → Q (.panic c) a w) (hiT : ts.contains i = false) (hT : ∀ (j : Nat) oj, ops[j]? = some oj → ts.contains j = true → ∃ e ∈ oj.after, Region.binds md e = true ∧ e.on = i) :
    ∀ (fuel : Nat) (listed : Array Bool) (a : Act) (w : World),
      (∀ j oj, ops[j]? = some oj → j ≠ i → listed.getD j true = false → (∀ e ∈ oj.after, Region.binds md e = true → e.on ≠ i) → oi.apart ops oj = true) →
      i ∈ Region.ready md ops listed → YieldsIf P ops S oi v a → noT ts listed = true → S w →
      wpAnyT P md ops Q S ts fuel (listed.setIfInBounds i true) (a.put oi.dst v) w → wpAnyT P md ops Q S ts (fuel + 1) listed a w := by
  intro fuel
  induction fuel with
  | zero =>
    intro listed a w _ hr hy hN hS H
    refine ⟨fun h => (by rw [h] at hr; cases hr), fun j hj => ?_⟩
    by_cases hji : j = i
    · subst hji; exact hy.wpOp hi hS ⟨fun _ => hS, H⟩
    · have := ready_mono hj hji
      rw [H.1] at this
      cases this
  | succ fuel ih =>
    intro listed a w hfree hr hy hN hS H
    refine ⟨fun h => (by rw [h] at hr; cases hr), fun j hj => ?_⟩
    by_cases hji : j = i
    · subst hji; exact hy.wpOp hi hS ⟨fun _ => hS, H⟩
    · have h1 := H.2 j (ready_mono hj hji)
      obtain ⟨hjun, oj, hoj, hall⟩ := mem_ready.1 hj
      have hnot : ∀ e ∈ oj.after, Region.binds md e = true → e.on ≠ i := fun e he hb heq => by
        have h1 := hall e he hb
        have h0 := (mem_ready.1 hr).1
        rw [heq] at h1
        rcases Nat.lt_or_ge i listed.size with h' | h'
        · simp [h'] at h0 h1; rw [h0] at h1; cases h1
        · simp [Array.getElem?_eq_none h'] at h1
      have hTj : ts.contains j = false := by
        cases hc : ts.contains j
        · rfl
        · obtain ⟨e, he, hb, heq⟩ := hT j oj hoj hc
          exact absurd heq (hnot e he hb)
      have h2 := wpOp_putIf hoj (hfree j oj hoj hji hjun hnot) (fun cs b => hsel i oi cs b hi) (fun cs b => hsel j oj cs b hoj) hQ hy h1
      have hfree' : ∀ k ok, ops[k]? = some ok → k ≠ i → (listed.setIfInBounds j true).getD k true = false →
          (∀ e ∈ ok.after, Region.binds md e = true → e.on ≠ i) → oi.apart ops ok = true := fun k ok hk hki hun hno => by
        refine hfree k ok hk hki ?_ hno
        by_cases hjk : j = k
        · subst hjk; exact hjun
        · rw [getD_set_ne true hjk] at hun; exact hun
      refine wpOp_mono (fun a' w' h3 => ⟨fun hn => h3.2.1 (by rw [Array.setIfInBounds_comm _ _ (Ne.symm hji)]; exact noT_mk hn hiT), ih (listed.setIfInBounds j true) a' w' hfree' (ready_mono hr (Ne.symm hji)) h3.1 (noT_mk hN hTj) (h3.2.1 (by rw [Array.setIfInBounds_comm _ _ (Ne.symm hji)]; exact noT_mk (noT_mk hN hTj) hiT)) ?_⟩) h2
      rw [Array.setIfInBounds_comm _ _ hji]
      exact h3.2.2

theorem wpAnyT_first0 {i : Nat} {oi : Oper} {v : Value} (hi : ops[i]? = some oi) (hsel : ∀ (j : Nat) (o : Oper) cs b, ops[j]? = some o → o.op ≠ .select cs b)
    (hQ : ∀ c a w, Q (.panic c) (a.put oi.dst v) w → Q (.panic c) a w) (hiT : ts.contains i = false) :
    ∀ (fuel : Nat) (listed : Array Bool) (a : Act) (w : World),
      (∀ j oj, ops[j]? = some oj → j ≠ i → listed.getD j true = false → (∀ e ∈ oj.after, Region.binds md e = true → e.on ≠ i) → oi.apart ops oj = true) →
      i ∈ Region.ready md ops listed → Yields P ops oi v a → (noT ts listed = true → S w) →
      wpAnyT P md ops Q S ts fuel (listed.setIfInBounds i true) (a.put oi.dst v) w → wpAnyT P md ops Q S ts (fuel + 1) listed a w := by
  intro fuel
  induction fuel with
  | zero =>
    intro listed a w _ hr hy hS H
    refine ⟨fun h => (by rw [h] at hr; cases hr), fun j hj => ?_⟩
    by_cases hji : j = i
    · subst hji; exact hy.wpOp hi ⟨fun hn => hS (noT_set hn (mem_ready.1 hr).1).1, H⟩
    · have := ready_mono hj hji
      rw [H.1] at this
      cases this
  | succ fuel ih =>
    intro listed a w hfree hr hy hS H
    refine ⟨fun h => (by rw [h] at hr; cases hr), fun j hj => ?_⟩
    by_cases hji : j = i
    · subst hji; exact hy.wpOp hi ⟨fun hn => hS (noT_set hn (mem_ready.1 hr).1).1, H⟩
    · have h1 := H.2 j (ready_mono hj hji)
      obtain ⟨hjun, oj, hoj, hall⟩ := mem_ready.1 hj
      have hnot : ∀ e ∈ oj.after, Region.binds md e = true → e.on ≠ i := fun e he hb heq => by
        have h1 := hall e he hb
        have h0 := (mem_ready.1 hr).1
        rw [heq] at h1
        rcases Nat.lt_or_ge i listed.size with h' | h'
        · simp [h'] at h0 h1; rw [h0] at h1; cases h1
        · simp [Array.getElem?_eq_none h'] at h1
      have h2 := wpOp_put hoj (hfree j oj hoj hji hjun hnot) (fun cs b => hsel i oi cs b hi) (fun cs b => hsel j oj cs b hoj) hQ hy h1
      have hfree' : ∀ k ok, ops[k]? = some ok → k ≠ i → (listed.setIfInBounds j true).getD k true = false →
          (∀ e ∈ ok.after, Region.binds md e = true → e.on ≠ i) → oi.apart ops ok = true := fun k ok hk hki hun hno => by
        refine hfree k ok hk hki ?_ hno
        by_cases hjk : j = k
        · subst hjk; exact hjun
        · rw [getD_set_ne true hjk] at hun; exact hun
      refine wpOp_mono (fun a' w' h3 => ⟨fun hn => h3.2.1 (by rw [Array.setIfInBounds_comm _ _ (Ne.symm hji)]; exact noT_mk hn hiT), ih (listed.setIfInBounds j true) a' w' hfree' (ready_mono hr (Ne.symm hji)) h3.1 (fun hn => h3.2.1 (by rw [Array.setIfInBounds_comm _ _ (Ne.symm hji)]; exact noT_mk hn hiT)) ?_⟩) h2
      rw [Array.setIfInBounds_comm _ _ hji]
      exact h3.2.2

/-- Does each operation of the tail wait for number i? -/
def tailed (md : Region.Mode) (ops : Array Oper) (ts : List Nat) (i : Nat) : Bool :=
  ts.all fun j => match ops[j]? with
    | some oj => oj.after.any (fun e => Region.binds md e && e.on == i)
    | none => true
theorem tailed_spec {ts : List Nat} {i : Nat} (h : tailed md ops ts i = true) (j : Nat) (oj : Oper) (hj : ops[j]? = some oj) (ht : ts.contains j = true) : ∃ e ∈ oj.after, Region.binds md e = true ∧ e.on = i := by
  have h1 := List.all_eq_true.1 h j (by simpa using ht)
  simp only [hj] at h1
  obtain ⟨e, he, hb⟩ := Array.any_eq_true'.1 h1
  simp only [Bool.and_eq_true, beq_iff_eq] at hb
  exact ⟨e, he, hb.1, hb.2⟩

/-- Take the load number i first (ts: the stores at the end). -/
theorem takeS {i : Nat} {oi : Oper} {v : Value} {fuel : Nat} {listed : Array Bool} {a : Act} {w : World} (hi : ops[i]? = some oi)
    (hs : Region.noSelect ops = true) (hf : Region.free md ops listed i = true) (hr : (Region.ready md ops listed).contains i = true)
    (hQ : ∀ c a w, Q (.panic c) (a.put oi.dst v) w → Q (.panic c) a w) (hiT : ts.contains i = false) (hts : tailed md ops ts i = true) (hN : noT ts listed = true) (hy : YieldsIf P ops S oi v a) (hS : S w)
    (h : wpAnyT P md ops Q S ts fuel (listed.setIfInBounds i true) (a.put oi.dst v) w) : wpAnyT P md ops Q S ts (fuel + 1) listed a w :=
  wpAnyT_firstS hi (Region.noSelect_spec hs) hQ hiT (tailed_spec hts) fuel listed a w (Region.free_spec hi hf) (by simpa using hr) hy hN hS h
/-- Take an operation first that yields in whatever world. -/
theorem take0 {i : Nat} {oi : Oper} {v : Value} {fuel : Nat} {listed : Array Bool} {a : Act} {w : World} (hi : ops[i]? = some oi)
    (hs : Region.noSelect ops = true) (hf : Region.free md ops listed i = true) (hr : (Region.ready md ops listed).contains i = true)
    (hQ : ∀ c a w, Q (.panic c) (a.put oi.dst v) w → Q (.panic c) a w) (hiT : ts.contains i = false) (hy : Yields P ops oi v a) (hS : noT ts listed = true → S w)
    (h : wpAnyT P md ops Q S ts fuel (listed.setIfInBounds i true) (a.put oi.dst v) w) : wpAnyT P md ops Q S ts (fuel + 1) listed a w :=
  wpAnyT_first0 hi (Region.noSelect_spec hs) hQ hiT fuel listed a w (Region.free_spec hi hf) (by simpa using hr) hy hS h
theorem allT {rs : List Nat} {fuel : Nat} {listed : Array Bool} {a : Act} {w : World} (hr : Region.ready md ops listed = rs) (hne : rs ≠ [])
    (h : ∀ i ∈ rs, wpOp P ops Q i (fun a' w' => (noT ts (listed.setIfInBounds i true) = true → S w') ∧ wpAnyT P md ops Q S ts fuel (listed.setIfInBounds i true) a' w') a w) : wpAnyT P md ops Q S ts (fuel + 1) listed a w :=
  ⟨fun h0 => absurd (hr ▸ h0) hne, hr ▸ h⟩
/-- One operation alone may come up. -/
theorem oneT {i : Nat} {o : Oper} {fuel : Nat} {listed : Array Bool} {a : Act} {w : World} (hr : Region.ready md ops listed = [i]) (hi : ops[i]? = some o) (hw : Region.wanted o (yielded ops a.tmps) = true)
    (h : ∀ K : Act → World → Prop, (∀ a' w', (noT ts (listed.setIfInBounds i true) = true → S w') → wpAnyT P md ops Q S ts fuel (listed.setIfInBounds i true) a' w' → K a' w') → o.wp P a w K Q) : wpAnyT P md ops Q S ts (fuel + 1) listed a w :=
  allT hr (by simp) fun j hj => by
    simp at hj
    subst hj
    unfold wpOp
    simp only [hi, hw, if_true]
    exact .inl (h _ fun _ _ h1 h2 => ⟨h1, h2⟩)
/-- One of two may come up. -/
theorem twoT {i j : Nat} {o u : Oper} {fuel : Nat} {listed : Array Bool} {a : Act} {w : World} (hr : Region.ready md ops listed = [i, j]) (hi : ops[i]? = some o) (hw : Region.wanted o (yielded ops a.tmps) = true) (hj : ops[j]? = some u) (hu : Region.wanted u (yielded ops a.tmps) = true)
    (h : ∀ K : Act → World → Prop, (∀ a' w', (noT ts (listed.setIfInBounds i true) = true → S w') → wpAnyT P md ops Q S ts fuel (listed.setIfInBounds i true) a' w' → K a' w') → o.wp P a w K Q)
    (h' : ∀ K : Act → World → Prop, (∀ a' w', (noT ts (listed.setIfInBounds j true) = true → S w') → wpAnyT P md ops Q S ts fuel (listed.setIfInBounds j true) a' w' → K a' w') → u.wp P a w K Q) : wpAnyT P md ops Q S ts (fuel + 1) listed a w :=
  allT hr (by simp) fun k hk => by
    simp at hk
    rcases hk with rfl | rfl
    · unfold wpOp
      simp only [hi, hw, if_true]
      exact .inl (h _ fun _ _ h1 h2 => ⟨h1, h2⟩)
    · unfold wpOp
      simp only [hj, hu, if_true]
      exact .inl (h' _ fun _ _ h1 h2 => ⟨h1, h2⟩)
theorem noT_no {b : Bool} {p : Prop} (h : b = false) : b = true → p := fun h' => by rw [h] at h'; cases h'
theorem doneT {listed : Array Bool} {a : Act} {w : World} (hr : Region.ready md ops listed = []) (h : Q .normal a w) :
    ∀ fuel, wpAnyT P md ops Q S ts fuel listed a w
  | 0 => ⟨hr, h⟩
  | _ + 1 => ⟨fun _ => h, by rw [hr]; simp⟩
theorem wp_region_tail {id : Nat} {a : Act} {w : World} (S : World → Prop) (ts : List Nat) (hm : P.follows .mixedOrders = true)
    (h : wpAnyT P .any ops Q S ts ops.size (Array.replicate ops.size false) a { w with drawn := w.drawn + 1 }) : (Code.region id ops true).wp P Q a w :=
  wp_region_any hm (wpAny_of_tail _ _ _ _ h)
end
end Go.Proofs.YtlfgcblijfflfaaGreat
