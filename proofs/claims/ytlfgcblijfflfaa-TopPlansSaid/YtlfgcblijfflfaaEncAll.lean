/- EncAll: the texts PlanCls, Enc, EncTime, StepsDo, BackP, PlanLits in one. -/
import Derived.Test.YtlfgcblijfflfaaPlanPlain
import Derived.Test.YtlfgcblijfflfaaActChk
import Derived.Test.YtlfgcblijfflfaaPool
import Derived.Test.YtlfgcblijfflfaaCloneR
import Derived.Test.YtlfgcblijfflfaaClone
import Derived.Test.YtlfgcblijfflfaaGrid
import Derived.Test.YtlfgcblijfflfaaTail
import Derived.BigQuiet
import Derived.Test.YtlfgcblijfflfaaSlices
import Derived.Test.YtlfgcblijfflfaaPlanFn
/- The clauses of plans, plainly: a model of them is a plan, and a plan is a model. Of no program. -/
namespace Go.Proofs.Ytlfgcblijfflfaa
set_option linter.unusedSimpArgs false
set_option linter.unusedVariables false

def mb (m : List Bool) (i : Nat) : Bool := m[i]?.getD false
def posL (i : Nat) : Int := (i : Int) + 1
def negL (i : Nat) : Int := -((i : Int) + 1)
theorem litB_pos (m : List Bool) (i : Nat) : litB m (posL i) = mb m i := by
  unfold litB posL mb
  rw [show ((i : Int) + 1).natAbs - 1 = i by omega, show decide ((0 : Int) < (i : Int) + 1) = true from decide_eq_true (by omega)]
  cases m[i]?.getD false <;> rfl
theorem litB_negL (m : List Bool) (i : Nat) : litB m (negL i) = !mb m i := by
  unfold litB negL mb
  rw [show (-((i : Int) + 1)).natAbs - 1 = i by omega, show decide ((0 : Int) < -((i : Int) + 1)) = false from decide_eq_false (by omega)]
  cases m[i]?.getD false <;> rfl
/-- The places of the facts and of the acts at a time. -/
def fI (f t : Nat) : Nat := t * 4 + f
def aI (n A a t : Nat) : Nat := (n + 1) * 4 + t * A + a
def allA (n A t : Nat) : List Int := (List.range A).map (fun a => posL (aI n A a t))
def exA (n A t a : Nat) : List (List Int) := (List.range a).map (fun b => [negL (aI n A b t), negL (aI n A a t)])
def effA (n A t : Nat) (x : Ac) (a : Nat) : List (List Int) :=
  (((List.range 4).filter x.need.testBit).map (fun f => [posL (fI f t), negL (aI n A a t)])) ++ (((List.range 4).filter x.bar.testBit).map (fun f => [negL (fI f t), negL (aI n A a t)])) ++
  (((List.range 4).filter x.add.testBit).map (fun f => [posL (fI f (t + 1)), negL (aI n A a t)])) ++ (((List.range 4).filter x.drop.testBit).map (fun f => [negL (fI f (t + 1)), negL (aI n A a t)]))
def riseA (n : Nat) (al : List Ac) (t f i : Nat) : List Int := [posL (fI f t), negL (fI f (t + 1))] ++ ((List.range i).filter (fun a => (acAt al a).add.testBit f)).map (fun a => posL (aI n al.length a t))
def fallA (n : Nat) (al : List Ac) (t f i : Nat) : List Int := [negL (fI f t), posL (fI f (t + 1))] ++ ((List.range i).filter (fun a => (acAt al a).drop.testBit f)).map (fun a => posL (aI n al.length a t))
def timeF (n : Nat) (al : List Ac) (t : Nat) : List (List Int) :=
  [allA n al.length t] ++ (List.range al.length).flatMap (exA n al.length t) ++ (List.range al.length).flatMap (fun a => effA n al.length t (acAt al a) a) ++
  (List.range 4).flatMap (fun f => [riseA n al t f al.length, fallA n al t f al.length])
def firstF (f0 i : Nat) : List (List Int) := (List.range i).map (fun k => [if f0.testBit k = true then posL (fI k 0) else negL (fI k 0)])
def stepsF (n : Nat) (al : List Ac) (f0 g : Nat) : List (List Int) :=
  firstF f0 4 ++ (List.range n).flatMap (timeF n al) ++ ((List.range 4).filter g.testBit).map (fun k => [posL (fI k n)])

/-- What a model says of the facts at a time. -/
def stM (m : List Bool) (t : Nat) : Nat := (if mb m (fI 0 t) = true then 1 else 0) + (if mb m (fI 1 t) = true then 2 else 0) + (if mb m (fI 2 t) = true then 4 else 0) + (if mb m (fI 3 t) = true then 8 else 0)
theorem stM_lt (m : List Bool) (t : Nat) : stM m t < 16 := by
  unfold stM
  split <;> split <;> split <;> split <;> omega
theorem stM_bit (m : List Bool) (t i : Nat) (hi : i < 4) : (stM m t).testBit i = mb m (fI i t) := by
  unfold stM
  obtain ⟨a, ha⟩ : ∃ a, mb m (fI 0 t) = a := ⟨_, rfl⟩
  obtain ⟨b, hb⟩ : ∃ a, mb m (fI 1 t) = a := ⟨_, rfl⟩
  obtain ⟨c, hc⟩ : ∃ a, mb m (fI 2 t) = a := ⟨_, rfl⟩
  obtain ⟨d, hd⟩ : ∃ a, mb m (fI 3 t) = a := ⟨_, rfl⟩
  rw [ha, hb, hc, hd]
  have hk : i = 0 ∨ i = 1 ∨ i = 2 ∨ i = 3 := by omega
  rcases hk with rfl | rfl | rfl | rfl
  · rw [ha]; cases a <;> cases b <;> cases c <;> cases d <;> rfl
  · rw [hb]; cases a <;> cases b <;> cases c <;> cases d <;> rfl
  · rw [hc]; cases a <;> cases b <;> cases c <;> cases d <;> rfl
  · rw [hd]; cases a <;> cases b <;> cases c <;> cases d <;> rfl
theorem allB_app {xs ys : List (List Int)} {m : List Bool} : allB (xs ++ ys) m = true ↔ allB xs m = true ∧ allB ys m = true := by
  unfold allB
  rw [List.all_append, Bool.and_eq_true]
theorem allB_mem {xs : List (List Int)} {m : List Bool} : allB xs m = true ↔ ∀ c ∈ xs, satB m c = true := by unfold allB; exact List.all_eq_true
theorem allB_flat {α : Type} {l : List α} {f : α → List (List Int)} {m : List Bool} : allB (l.flatMap f) m = true ↔ ∀ a ∈ l, allB (f a) m = true := by
  rw [allB_mem]
  constructor
  · intro h a ha
    rw [allB_mem]
    exact fun c hc => h c (List.mem_flatMap.2 ⟨a, ha, hc⟩)
  · intro h c hc
    obtain ⟨a, ha, hc⟩ := List.mem_flatMap.1 hc
    exact allB_mem.1 (h a ha) c hc
theorem sat_two {m : List Bool} {x y : Int} : satB m [x, y] = true ↔ litB m x = true ∨ litB m y = true := by simp [satB]
theorem sat_mem {m : List Bool} {c : List Int} : satB m c = true ↔ ∃ x ∈ c, litB m x = true := by unfold satB; exact List.any_eq_true

/-- The first act at a time that a model has. -/
def firstA (m : List Bool) (n A t : Nat) : Option Nat := (List.range A).find? (fun a => mb m (aI n A a t))
def backF (m : List Bool) (n A : Nat) : Nat → List Nat
  | 0 => []
  | t + 1 => backF m n A t ++ [(firstA m n A t).getD 0]

theorem time_sound {m : List Bool} {n t : Nat} {al : List Ac} (hok : ∀ a ∈ al, AcOk a) (h : allB (timeF n al t) m = true) :
    ∃ a, firstA m n al.length t = some a ∧ a < al.length ∧ appF (acAt al a) (stM m t) = some (stM m (t + 1)) := by
  unfold timeF at h
  rw [allB_app, allB_app, allB_app, allB_flat, allB_flat, allB_flat] at h
  obtain ⟨⟨⟨h1, h2⟩, h3⟩, h4⟩ := h
  have h5 : satB m (allA n al.length t) = true := by simpa [allB] using h1
  obtain ⟨x, hx, hlx⟩ := sat_mem.1 h5
  obtain ⟨a0, ha0, rfl⟩ := List.mem_map.1 hx
  rw [litB_pos] at hlx
  obtain ⟨a, ha⟩ : ∃ a, firstA m n al.length t = some a := by
    cases e : firstA m n al.length t with
    | some a => exact ⟨a, rfl⟩
    | none => exact absurd hlx (by have := List.find?_eq_none.1 e a0 ha0; simpa using this)
  have hat : mb m (aI n al.length a t) = true := by have := List.find?_some ha; simpa using this
  have hal : a < al.length := List.mem_range.1 (List.mem_of_find?_eq_some ha)
  have honly : ∀ b, b < al.length → b ≠ a → mb m (aI n al.length b t) = false := fun b hb hne => by
    rcases Nat.lt_or_gt_of_ne hne with hlt | hgt
    · have := allB_mem.1 (h2 a (List.mem_range.2 hal)) _ (List.mem_map.2 ⟨b, List.mem_range.2 hlt, rfl⟩)
      rw [sat_two, litB_negL, litB_negL, hat] at this
      simpa using this
    · have := allB_mem.1 (h2 b (List.mem_range.2 hb)) _ (List.mem_map.2 ⟨a, List.mem_range.2 hgt, rfl⟩)
      rw [sat_two, litB_negL, litB_negL, hat] at this
      simpa using this
  have he := h3 a (List.mem_range.2 hal)
  unfold effA at he
  rw [allB_app, allB_app, allB_app, allB_mem, allB_mem, allB_mem, allB_mem] at he
  obtain ⟨⟨⟨e1, e2⟩, e3⟩, e4⟩ := he
  have hmem : ∀ (z : Nat) (f : Nat), f < 4 → z.testBit f = true → f ∈ (List.range 4).filter z.testBit := fun z f hf hz => List.mem_filter.2 ⟨List.mem_range.2 hf, hz⟩
  have ho := acAt_ok hok hal
  have u1 : ∀ f, (acAt al a).need.testBit f = true → (stM m t).testBit f = true := fun f hf => by
    have h4f := bit_hi ho.n hf
    have := e1 _ (List.mem_map.2 ⟨f, hmem _ f h4f hf, rfl⟩)
    rw [sat_two, litB_pos, litB_negL, hat] at this
    rw [stM_bit _ _ _ h4f]
    simpa using this
  have u2 : ∀ f, (acAt al a).bar.testBit f = true → (stM m t).testBit f = false := fun f hf => by
    have h4f := bit_hi ho.b hf
    have := e2 _ (List.mem_map.2 ⟨f, hmem _ f h4f hf, rfl⟩)
    rw [sat_two, litB_negL, litB_negL, hat] at this
    rw [stM_bit _ _ _ h4f]
    simpa using this
  refine ⟨a, ha, hal, (app_some ho (stM_lt _ _)).2 ⟨u1, u2, stM_lt _ _, fun f hf => ?_⟩⟩
  rw [stM_bit _ _ _ hf, stM_bit _ _ _ hf]
  have hr := allB_mem.1 (h4 f (List.mem_range.2 hf))
  have r1 := hr (riseA n al t f al.length) (by simp)
  have r2 := hr (fallA n al t f al.length) (by simp)
  cases ea : (acAt al a).add.testBit f with
  | true =>
    have := e3 _ (List.mem_map.2 ⟨f, hmem _ f hf ea, rfl⟩)
    rw [sat_two, litB_pos, litB_negL, hat] at this
    simpa using this
  | false =>
    cases ed : (acAt al a).drop.testBit f with
    | true =>
      have := e4 _ (List.mem_map.2 ⟨f, hmem _ f hf ed, rfl⟩)
      rw [sat_two, litB_negL, litB_negL, hat] at this
      simpa using this
    | false =>
      obtain ⟨x, hx, hl⟩ := sat_mem.1 r1
      obtain ⟨y, hy, hk⟩ := sat_mem.1 r2
      have k1 : mb m (fI f t) = true ∨ mb m (fI f (t + 1)) = false := by
        unfold riseA at hx
        rcases List.mem_append.1 hx with hx | hx
        · simp at hx
          rcases hx with rfl | rfl
          · rw [litB_pos] at hl; exact .inl hl
          · rw [litB_negL] at hl; exact .inr (by simpa using hl)
        · obtain ⟨b, hb, rfl⟩ := List.mem_map.1 hx
          obtain ⟨hb1, hb2⟩ := List.mem_filter.1 hb
          rw [litB_pos] at hl
          by_cases hba : b = a
          · subst hba; rw [ea] at hb2; cases hb2
          · rw [honly b (List.mem_range.1 hb1) hba] at hl; cases hl
      have k2 : mb m (fI f t) = false ∨ mb m (fI f (t + 1)) = true := by
        unfold fallA at hy
        rcases List.mem_append.1 hy with hx | hx
        · simp at hx
          rcases hx with rfl | rfl
          · rw [litB_negL] at hk; exact .inl (by simpa using hk)
          · rw [litB_pos] at hk; exact .inr hk
        · obtain ⟨b, hb, rfl⟩ := List.mem_map.1 hx
          obtain ⟨hb1, hb2⟩ := List.mem_filter.1 hb
          rw [litB_pos] at hk
          by_cases hba : b = a
          · subst hba; rw [ed] at hb2; cases hb2
          · rw [honly b (List.mem_range.1 hb1) hba] at hk; cases hk
      cases e1 : mb m (fI f t) <;> cases e2 : mb m (fI f (t + 1)) <;> simp_all

theorem backF_len (m : List Bool) (n A : Nat) : ∀ t, (backF m n A t).length = t
  | 0 => rfl
  | t + 1 => by rw [backF, List.length_append, backF_len m n A t]; rfl
theorem back_walk {m : List Bool} {n : Nat} {al : List Ac} (hok : ∀ a ∈ al, AcOk a) : ∀ {k : Nat}, (∀ t, t < k → allB (timeF n al t) m = true) → walkF al (backF m n al.length k) (stM m 0) = some (stM m k)
  | 0, _ => rfl
  | k + 1, h => by
    obtain ⟨a, h1, h2, h3⟩ := time_sound hok (h k (Nat.lt_succ_self k))
    rw [backF, walkF_append, back_walk hok (k := k) (fun t ht => h t (by omega)), h1]
    show (if a < al.length then (appF (acAt al a) (stM m k)).bind (walkF al []) else none) = _
    rw [if_pos h2, h3]
    rfl
/-- A model is a plan. -/
theorem steps_sound {m : List Bool} {n f0 g : Nat} {al : List Ac} (hok : ∀ a ∈ al, AcOk a) (hf : f0 < 16) (hg : g < 16) (h : allB (stepsF n al f0 g) m = true) :
    (∀ t, t < n → ∃ a, firstA m n al.length t = some a ∧ a < al.length) ∧ ∃ s, walkF al (backF m n al.length n) f0 = some s ∧ s < 16 ∧ s &&& g = g := by
  unfold stepsF at h
  rw [allB_app, allB_app, allB_flat] at h
  obtain ⟨⟨h1, h2⟩, h3⟩ := h
  have h0 : stM m 0 = f0 := bit_eq (stM_lt _ _) hf (fun i hi => by
    have := allB_mem.1 h1 _ (List.mem_map.2 ⟨i, List.mem_range.2 hi, rfl⟩)
    rw [stM_bit _ _ _ hi]
    cases e : f0.testBit i with
    | true => rw [e] at this; simpa [satB, litB_pos] using this
    | false => rw [e] at this; simpa [satB, litB_negL] using this)
  have hw := back_walk hok (k := n) (fun t ht => h2 t (List.mem_range.2 ht))
  rw [h0] at hw
  refine ⟨fun t ht => by obtain ⟨a, h4, h5, _⟩ := time_sound hok (h2 t (List.mem_range.2 ht)); exact ⟨a, h4, h5⟩, _, hw, stM_lt _ _, (has_iff (stM_lt _ _) hg).2 fun i hi => ?_⟩
  have h4 := bit_hi hg hi
  have := allB_mem.1 h3 _ (List.mem_map.2 ⟨i, List.mem_filter.2 ⟨List.mem_range.2 h4, hi⟩, rfl⟩)
  rw [stM_bit _ _ _ h4]
  simpa [satB, litB_pos] using this

/-- The model of a plan. -/
def planM (n A : Nat) (p : List Nat) (ss : Nat → Nat) : List Bool :=
  (List.range ((n + 1) * 4 + n * A)).map (fun i => if i < (n + 1) * 4 then (ss (i / 4)).testBit (i % 4) else decide (p.getD ((i - (n + 1) * 4) / A) 0 = (i - (n + 1) * 4) % A))
theorem planM_f {n A : Nat} {p : List Nat} {ss : Nat → Nat} {f t : Nat} (hf : f < 4) (ht : t ≤ n) : mb (planM n A p ss) (fI f t) = (ss t).testBit f := by
  unfold mb planM fI
  have h1 : t * 4 + f < (n + 1) * 4 := by omega
  rw [List.getElem?_map, List.getElem?_range (by omega)]
  simp only [Option.map_some, Option.getD_some, h1, if_true]
  rw [show (t * 4 + f) / 4 = t by omega, show (t * 4 + f) % 4 = f by omega]
theorem planM_a {n A : Nat} {p : List Nat} {ss : Nat → Nat} {a t : Nat} (ha : a < A) (ht : t < n) : mb (planM n A p ss) (aI n A a t) = decide (p.getD t 0 = a) := by
  unfold mb planM aI
  have h0 : t * A + a < n * A := by
    have : (t + 1) * A ≤ n * A := Nat.mul_le_mul_right A ht
    rw [Nat.add_mul] at this
    omega
  have h1 : ¬ (n + 1) * 4 + t * A + a < (n + 1) * 4 := by omega
  rw [List.getElem?_map, List.getElem?_range (by omega)]
  simp only [Option.map_some, Option.getD_some, h1, if_false]
  rw [show (n + 1) * 4 + t * A + a - (n + 1) * 4 = a + t * A by omega, Nat.add_mul_div_right _ _ (by omega), Nat.add_mul_mod_self_right, Nat.div_eq_of_lt ha, Nat.mod_eq_of_lt ha, Nat.zero_add]
/-- The states on a plan's way. -/
def wayF (al : List Ac) (p : List Nat) (s : Nat) (t : Nat) : Nat := (walkF al (p.take t) s).getD 0
theorem way_step {al : List Ac} : ∀ {p : List Nat} {s s' : Nat} {t : Nat}, walkF al p s = some s' → t < p.length → p.getD t 0 < al.length ∧ appF (acAt al (p.getD t 0)) (wayF al p s t) = some (wayF al p s (t + 1)) ∧ ∃ x, walkF al (p.take t) s = some x
  | [], s, s', t, h, ht => by simp at ht
  | k :: r, s, s', t, h, ht => by
    unfold walkF at h
    split at h
    · rename_i hk
      cases e : appF (acAt al k) s with
      | none => rw [e] at h; cases h
      | some x =>
        rw [e] at h
        cases t with
        | zero =>
          refine ⟨hk, ?_, s, rfl⟩
          show appF (acAt al k) s = some ((if k < al.length then (appF (acAt al k) s).bind (walkF al []) else none).getD 0)
          rw [if_pos hk, e]
          rfl
        | succ t =>
          have ih := way_step (t := t) h (by simpa using ht)
          have hw : ∀ j, wayF al (k :: r) s (j + 1) = wayF al r x j := fun j => by
            show (if k < al.length then (appF (acAt al k) s).bind (walkF al (r.take j)) else none).getD 0 = _
            rw [if_pos hk, e]
            rfl
          rw [hw, hw]
          refine ⟨ih.1, ih.2.1, ?_⟩
          obtain ⟨y, hy⟩ := ih.2.2
          refine ⟨y, ?_⟩
          show (if k < al.length then (appF (acAt al k) s).bind (walkF al (r.take t)) else none) = _
          rw [if_pos hk, e]
          exact hy
    · cases h
theorem way_lt {al : List Ac} (hok : ∀ a ∈ al, AcOk a) {p : List Nat} {s : Nat} (hs : s < 16) (t : Nat) : wayF al p s t < 16 := by
  unfold wayF
  cases e : walkF al (p.take t) s with
  | none => decide
  | some x => exact walk_lt hok hs e
theorem plan_time {n t f0 s : Nat} {al : List Ac} {p : List Nat} (hok : ∀ a ∈ al, AcOk a) (hf : f0 < 16) (hw : walkF al p f0 = some s) (hp : p.length = n) (ht : t < n) : allB (timeF n al t) (planM n al.length p (wayF al p f0)) = true := by
  obtain ⟨ha, hst, _⟩ := way_step hw (t := t) (by omega)
  obtain ⟨a, hae⟩ : ∃ a, p.getD t 0 = a := ⟨_, rfl⟩
  rw [hae] at ha hst
  have ho := acAt_ok hok ha
  obtain ⟨k1, k2, k3, k4⟩ := (app_some ho (way_lt hok hf t)).1 hst
  have mf : ∀ f u, f < 4 → u ≤ n → mb (planM n al.length p (wayF al p f0)) (fI f u) = (wayF al p f0 u).testBit f := fun f u h1 h2 => planM_f h1 h2
  have ma : ∀ b, b < al.length → mb (planM n al.length p (wayF al p f0)) (aI n al.length b t) = decide (a = b) := fun b hb => by rw [planM_a hb ht, hae]
  unfold timeF
  rw [allB_app, allB_app, allB_app, allB_flat, allB_flat, allB_flat]
  refine ⟨⟨⟨?_, ?_⟩, ?_⟩, ?_⟩
  · simp only [allB, List.all_cons, List.all_nil, Bool.and_true]
    rw [sat_mem]
    exact ⟨_, List.mem_map.2 ⟨a, List.mem_range.2 ha, rfl⟩, by rw [litB_pos, ma a ha]; simp⟩
  · intro b hb
    rw [allB_mem]
    intro c hc
    obtain ⟨d, hd, rfl⟩ := List.mem_map.1 hc
    have h1 := List.mem_range.1 hb
    have h2 := List.mem_range.1 hd
    rw [sat_two, litB_negL, litB_negL, ma d (by omega), ma b h1]
    by_cases e : a = b
    · left; simp; omega
    · right; simp [e]
  · intro b hb
    have h1 := List.mem_range.1 hb
    by_cases e : a = b
    · subst e
      unfold effA
      rw [allB_app, allB_app, allB_app]
      refine ⟨⟨⟨?_, ?_⟩, ?_⟩, ?_⟩
      all_goals rw [allB_mem]
      all_goals intro c hc
      all_goals obtain ⟨f, hff, rfl⟩ := List.mem_map.1 hc
      all_goals obtain ⟨h4f, hbit⟩ := List.mem_filter.1 hff
      all_goals have h4 := List.mem_range.1 h4f
      all_goals rw [sat_two]
      all_goals left
      · rw [litB_pos, mf f t h4 (by omega), k1 f hbit]
      · rw [litB_negL, mf f t h4 (by omega), k2 f hbit]; rfl
      · rw [litB_pos, mf f (t + 1) h4 (by omega), k4 f h4, hbit]; simp
      · rw [litB_negL, mf f (t + 1) h4 (by omega), k4 f h4, hbit]
        have had : (acAt al a).add.testBit f = false := by
          have h9 : ((acAt al a).add &&& (acAt al a).drop).testBit f = false := by rw [ho.ad]; exact Nat.zero_testBit f
          rw [Nat.testBit_and, hbit] at h9
          simpa using h9
        rw [had]
        simp
    · have hm := ma b h1
      have hneg : litB (planM n al.length p (wayF al p f0)) (negL (aI n al.length b t)) = true := by rw [litB_negL, hm]; simp [e]
      unfold effA
      rw [allB_app, allB_app, allB_app]
      refine ⟨⟨⟨?_, ?_⟩, ?_⟩, ?_⟩
      all_goals rw [allB_mem]
      all_goals intro c hc
      all_goals obtain ⟨f, hff, rfl⟩ := List.mem_map.1 hc
      all_goals rw [sat_two]
      all_goals exact .inr hneg
  · intro f hf4
    have h4 := List.mem_range.1 hf4
    rw [allB_mem]
    intro c hc
    have e1 := mf f t h4 (by omega)
    have e2 := mf f (t + 1) h4 (by omega)
    rw [k4 f h4] at e2
    simp at hc
    rcases hc with rfl | rfl
    · rw [sat_mem]
      cases x1 : (wayF al p f0 t).testBit f with
      | true => exact ⟨posL (fI f t), by simp [riseA], by rw [litB_pos, e1, x1]⟩
      | false =>
        cases x2 : (acAt al a).add.testBit f with
        | true => exact ⟨posL (aI n al.length a t), List.mem_append_right _ (List.mem_map.2 ⟨a, List.mem_filter.2 ⟨List.mem_range.2 ha, x2⟩, rfl⟩), by rw [litB_pos, ma a ha]; simp⟩
        | false => exact ⟨negL (fI f (t + 1)), by simp [riseA], by rw [litB_negL, e2, x1, x2]; rfl⟩
    · rw [sat_mem]
      cases x1 : (wayF al p f0 t).testBit f with
      | false => exact ⟨negL (fI f t), by simp [fallA], by rw [litB_negL, e1, x1]; rfl⟩
      | true =>
        cases x2 : (acAt al a).drop.testBit f with
        | true => exact ⟨posL (aI n al.length a t), List.mem_append_right _ (List.mem_map.2 ⟨a, List.mem_filter.2 ⟨List.mem_range.2 ha, x2⟩, rfl⟩), by rw [litB_pos, ma a ha]; simp⟩
        | false => exact ⟨posL (fI f (t + 1)), by simp [fallA], by rw [litB_pos, e2, x1, x2]; rfl⟩
theorem way_end {al : List Ac} {p : List Nat} {s s' : Nat} (h : walkF al p s = some s') : wayF al p s p.length = s' := by
  unfold wayF
  rw [List.take_length, h]
  rfl
/-- A plan is a model. -/
theorem steps_complete {n f0 g s : Nat} {al : List Ac} {p : List Nat} (hok : ∀ a ∈ al, AcOk a) (hf : f0 < 16) (hg : g < 16) (hw : walkF al p f0 = some s) (hp : p.length = n) (hgo : s &&& g = g) :
    ∃ m : List Bool, m.length = (n + 1) * 4 + n * al.length ∧ allB (stepsF n al f0 g) m = true := by
  refine ⟨planM n al.length p (wayF al p f0), by simp [planM], ?_⟩
  unfold stepsF
  rw [allB_app, allB_app, allB_flat]
  refine ⟨⟨?_, fun t ht => plan_time hok hf hw hp (List.mem_range.1 ht)⟩, ?_⟩
  · rw [allB_mem]
    intro c hc
    obtain ⟨k, hk, rfl⟩ := List.mem_map.1 hc
    have h4 := List.mem_range.1 hk
    have e : mb (planM n al.length p (wayF al p f0)) (fI k 0) = f0.testBit k := by rw [planM_f h4 (Nat.zero_le _)]; rfl
    cases x : f0.testBit k with
    | true => simp [satB, litB_pos, e, x]
    | false => simp [satB, litB_negL, e, x]
  · rw [allB_mem]
    intro c hc
    obtain ⟨k, hk, rfl⟩ := List.mem_map.1 hc
    obtain ⟨h4, hbit⟩ := List.mem_filter.1 hk
    have h4 := List.mem_range.1 h4
    have e : mb (planM n al.length p (wayF al p f0)) (fI k n) = s.testBit k := by rw [planM_f h4 (Nat.le_refl _), ← hp, way_end hw]
    have := (has_iff (walk_lt hok hf hw) hg).1 hgo k hbit
    simp [satB, litB_pos, e, this]
end Go.Proofs.Ytlfgcblijfflfaa

/- The encoder of steps: its state, and the contracts of fact, act, vars, add. (Printed by wip/tools/enc.py.) -/
namespace Go.Proofs.Ytlfgcblijfflfaa
open Go.RowKit
set_option linter.unusedSimpArgs false
set_option linter.unusedVariables false

theorem ownP_kE {e : TypeId} {w w' : World} {base low n c : Nat} {A : Option Addr} {xss : List (List Int)} {row : Option Nat} (h : OwnP 22 3 w base low A n c xss) (hg : w.grownBy w' row) (hr : ∀ k, row = some k → low ≤ k ∧ Typed e w k) (n1 : 22 ≠ e) (n2 : (3 : TypeId) ≠ e) : OwnP 22 3 w' base low A n c xss := by
  obtain ⟨vs, h1, h2⟩ := h
  refine ⟨vs, h1.kept hg ?_, h2.kept hg hr n2⟩
  cases row with
  | none => cases A with
    | none => exact .inl rfl
    | some a => exact .inr (by simp [blockOf])
  | some k => exact h1.ne_typed (hr k rfl).2 n1
/-- What was there is there, but for encoders and rows of rows. -/
def FrT (w w' : World) : Prop := w.heap.size ≤ w'.heap.size ∧ ∀ k, k < w.heap.size → ¬ Typed 74 w k → ¬ Typed 22 w k → w'.heap[k]? = w.heap[k]?
theorem FrT.of {w w' : World} (hb : Below w.heap.size w w') : FrT w w' := ⟨hb.size, fun k hk _ _ => hb.block k hk⟩
theorem FrT.grown {w w' : World} {row : Option Nat} (hg : w.grownBy w' row) (hr : ∀ k, row = some k → Typed 74 w k ∨ Typed 22 w k) : FrT w w' := ⟨hg.size, fun k hk h1 h2 => hg.block k hk (fun e => by rcases hr k e.symm with h | h; exact h1 h; exact h2 h)⟩
theorem FrT.trans {w w1 w2 : World} (h : FrT w w1) (h2 : FrT w1 w2) : FrT w w2 := ⟨Nat.le_trans h.1 h2.1, fun k hk a b => by
  have e1 := h.2 k hk a b
  have tt : ∀ t, Typed t w1 k → Typed t w k := fun t ⟨c, f, hc⟩ => ⟨c, f, by rw [← e1]; exact hc⟩
  rw [h2.2 k (Nat.lt_of_lt_of_le hk h.1) (fun hT => a (tt _ hT)) (fun hT => b (tt _ hT)), e1]⟩
theorem typed_uniq {w : World} {k : Nat} {t u : TypeId} {cs : Array Value} (h : w.heap[k]? = some (.cells cs t (0, 0))) (hT : Typed u w k) : t = u := by
  obtain ⟨c, f, hc⟩ := hT
  rw [h] at hc
  injection hc with hc
  injection hc with _ h3
theorem Blk.fr {w w' : World} {b : Nat} {t : TypeId} {cs : Array Value} (h : Blk w b t cs) (hf : FrT w w') (n1 : t ≠ 74) (n2 : t ≠ 22) : Blk w' b t cs :=
  (hf.2 b h.lt (fun hT => n1 (typed_uniq h hT)) (fun hT => n2 (typed_uniq h hT))).trans h
theorem Own.fr {w w' : World} {base n c : Nat} {A : Option Addr} {xs : List Value} (h : Own 3 w base A n c xs) (hf : FrT w w') : Own 3 w' base A n c xs := by
  refine ⟨h.1, ?_⟩
  rcases h.2 with h2 | ⟨g, cap, cur, hv, hg, hh, r⟩
  · exact .inl h2
  · exact .inr ⟨g, cap, cur, hv, hg, (hf.2 g (Array.getElem?_eq_some_iff.1 hh).1 (fun hT => absurd (typed_uniq hh hT) (by decide)) (fun hT => absurd (typed_uniq hh hT) (by decide))).trans hh, r⟩

/-- The encoder's state. -/
structure EncSt (w0 w : World) (be : Nat) (q : Qv) (n : Nat) (vars : Int) (xss : List (List Int)) : Prop where
  b : Below w0.heap.size w0 w
  lo : w0.heap.size ≤ be
  e : ∃ C nC cC, Blk w be 74 #[.int .i64 4, .slice q.F q.nF q.cF, .slice q.G q.nG q.cG, .slice q.A q.n q.c, .int .i64 (n : Int), .int .i64 vars, .slice C nC cC] ∧ OwnP 22 3 w w0.heap.size 0 C nC cC xss
theorem EncSt.keep {w0 w w' : World} {be : Nat} {q : Qv} {n : Nat} {vars : Int} {xss : List (List Int)} (h : EncSt w0 w be q n vars xss) (hb : Below w.heap.size w w') : EncSt w0 w' be q n vars xss := by
  obtain ⟨C, nC, cC, h1, h2⟩ := h.e
  exact ⟨below_next h.b hb, h.lo, C, nC, cC, h1.keep hb, h2.keep hb⟩
/-- An int row is written, or grows. -/
theorem EncSt.grown {w0 w w' : World} {be : Nat} {q : Qv} {n : Nat} {vars : Int} {xss : List (List Int)} {A : Option Addr} {base n' c : Nat} {xs : List Value} (h : EncSt w0 w be q n vars xss) (ho : Own 3 w base A n' c xs) (hg : w.grownBy w' (blockOf A)) (hlo : ∀ C nC cC ys, OwnP 22 3 w w0.heap.size 0 C nC cC ys → OwnP 22 3 w' w0.heap.size 0 C nC cC ys) (hb : w0.heap.size ≤ base) : EncSt w0 w' be q n vars xss := by
  obtain ⟨C, nC, cC, h1, h2⟩ := h.e
  have hbl : ∀ j, blockOf A = some j → base ≤ j ∧ Typed 3 w j := fun j hj => by
    rcases ho.form with ⟨rfl, _⟩ | ⟨g', cur, rfl, hg', hh, _⟩
    · cases hj
    · cases hj; exact ⟨hg', _, _, hh⟩
  refine ⟨h.b.grown hg h.b.size (fun j hj => Nat.le_trans hb (hbl j hj).1), h.lo, C, nC, cC, h1.grown hg (fun e => ?_), hlo _ _ _ _ h2⟩
  exact absurd (typed_uniq h1 (hbl be e.symm).2) (by decide)

set_option maxHeartbeats 2000000 in
set_option maxRecDepth 100000 in
theorem fact_any {w0 w : World} {be : Nat} {q : Qv} {n : Nat} {vars : Int} {xss : List (List Int)} (f t : Nat) (h : EncSt w0 w be q n vars xss) (hf : f < 4) (ht : t ≤ 100) : Calls Try.prog 25 #[.pointer (some ⟨be, 0, none⟩), .int .i64 (f : Int), .int .i64 (t : Int)] w (RetQ (.int .i64 (posL (fI f t))) w) := by
  obtain ⟨C, nC, cC, h1, _⟩ := h.e
  have k0 := h1.cell 0
  have k9 := h1.lt
  simp at k0
  have e9 : (t : Int) * 4 + (f : Int) + 1 = posL (fI f t) := by unfold posL fI; omega
  clear h h1
  go_enter Try.func25, Try.ntmps25
  go_wp2_with fail
  go_ret
  exact RetQ.of0 (by rw [← e9]; rfl)
set_option maxHeartbeats 2000000 in
set_option maxRecDepth 100000 in
theorem act_any {w0 w : World} {be : Nat} {q : Qv} {n : Nat} {vars : Int} {xss : List (List Int)} (a t : Nat) (h : EncSt w0 w be q n vars xss) (hn : n ≤ 100) (hq : q.n ≤ 3) (ha : a ≤ 100) (ht : t ≤ 100) : Calls Try.prog 38 #[.pointer (some ⟨be, 0, none⟩), .int .i64 (a : Int), .int .i64 (t : Int)] w (RetQ (.int .i64 (posL (aI n q.n a t))) w) := by
  obtain ⟨C, nC, cC, h1, _⟩ := h.e
  have k0 := h1.cell 0
  have k3 := h1.cell 3
  have k4 := h1.cell 4
  have k9 := h1.lt
  simp at k0 k3 k4
  obtain ⟨m, hm⟩ : ∃ m : Int, (t : Int) * (q.n : Int) = m := ⟨_, rfl⟩
  have hmb : 0 ≤ m ∧ m ≤ 300 := by
    have hmn : t * q.n ≤ 100 * 3 := Nat.mul_le_mul ht hq
    rw [← hm, ← Int.natCast_mul]
    omega
  have e9 : ((n : Int) + 1) * 4 + m + (a : Int) + 1 = posL (aI n q.n a t) := by
    unfold posL aI
    rw [← hm]
    simp only [Int.natCast_add, Int.natCast_mul]
    omega
  clear h h1
  go_enter Try.func38, Try.ntmps38
  go_wp2_with fail
  go_quiet (fail)
  go_wp2_with fail
  go_ret
  exact RetQ.of _ (by rw [← e9]; rfl)
set_option maxHeartbeats 2000000 in
set_option maxRecDepth 100000 in
theorem vars_any {w0 w : World} {be : Nat} {q : Qv} {n : Nat} {vars : Int} {xss : List (List Int)} (h : EncSt w0 w be q n vars xss) (hn : n ≤ 100) (hq : q.n ≤ 3) : Calls Try.prog 22 #[.pointer (some ⟨be, 0, none⟩)] w (RetQ (.int .i64 (((n + 1) * 4 + n * q.n : Nat) : Int)) w) := by
  obtain ⟨C, nC, cC, h1, _⟩ := h.e
  have k0 := h1.cell 0
  have k3 := h1.cell 3
  have k4 := h1.cell 4
  have k9 := h1.lt
  simp at k0 k3 k4
  obtain ⟨m, hm⟩ : ∃ m : Int, (n : Int) * (q.n : Int) = m := ⟨_, rfl⟩
  have hmb : 0 ≤ m ∧ m ≤ 300 := by
    have hmn : n * q.n ≤ 100 * 3 := Nat.mul_le_mul hn hq
    rw [← hm, ← Int.natCast_mul]
    omega
  have e9 : ((n : Int) + 1) * 4 + m = (((n + 1) * 4 + n * q.n : Nat) : Int) := by
    rw [← hm]
    simp only [Int.natCast_add, Int.natCast_mul]
    omega
  clear h h1
  go_enter Try.func22, Try.ntmps22
  go_wp2_with fail
  go_quiet (fail)
  go_wp2_with fail
  go_ret
  refine RetQ.of _ ?_
  rw [← e9]
  have z1 : IntKind.i64.wrap ((n : Int) + 1) = (n : Int) + 1 := IntWalk.i64_in _ (by omega)
  have z2 : IntKind.i64.wrap (((n : Int) + 1) * 4) = ((n : Int) + 1) * 4 := IntWalk.i64_in _ (by omega)
  have z3 : IntKind.i64.wrap m = m := IntWalk.i64_in _ (by omega)
  have z4 : IntKind.i64.wrap (((n : Int) + 1) * 4 + m) = ((n : Int) + 1) * 4 + m := IntWalk.i64_in _ (by omega)
  show Value.int .i64 _ = Value.int .i64 (IntKind.i64.wrap (IntKind.i64.wrap (IntKind.i64.wrap ((n : Int) + 1) * 4) + IntKind.i64.wrap m))
  rw [z1, z2, z3, z4]

theorem row_info_e : (Try.prog.info? 22).map (fun i => (i.zero, i.size, i.bytes)) = some (some (.slice none 0 0), 1, 24) := by kernel_rfl
def RetAddE (w0 : World) (be : Nat) (q : Qv) (n : Nat) (vars : Int) (xss : List (List Int)) (w : World) (e : Ending) (w' : World) : Prop := e = .returned (.tuple #[]) ∧ EncSt w0 w' be q n vars xss ∧ FrT w w'
set_option maxHeartbeats 4000000 in
set_option maxRecDepth 100000 in
theorem addE_any {w0 w : World} {be : Nat} {q : Qv} {n : Nat} {vars : Int} {xss : List (List Int)} (A : Option Addr) (m c : Nat) (l : List Int) (h : EncSt w0 w be q n vars xss) (hl : Ints w A m c l) (hm : m ≤ 100) (hx : xss.length ≤ 1000) :
    Calls Try.prog 24 #[.pointer (some ⟨be, 0, none⟩), .slice A m c] w (RetAddE w0 be q n vars (xss ++ [l]) w) := by
  obtain ⟨i0, hi0, hz0, hz1, hz2⟩ := info_parts row_info_e
  obtain ⟨C, nC, cC, h1, h2⟩ := h.e
  have HLO : Hid (w0.heap.size ≤ be) := h.lo
  have HE := Lib.hid h1
  have HC := Lib.hid h2
  have HB := Lib.hid h.b
  have HL := Lib.hid hl
  have hnC : nC ≤ 1000 := by rw [← h2.len]; exact hx
  have HFR : Hid (FrT w w) := FrT.of (Below.refl _ _)
  clear h h1 h2 hl hx
  go_enter Try.func24, Try.ntmps24
  go_wp2_with fail
  obtain ⟨wz, hwz⟩ : ∃ z : World, z = w.drew := ⟨_, rfl⟩
  have hbz : Below w.heap.size w wz := by rw [hwz]; exact below_drewN _ 1
  have HE_0 := Lib.hid (HE.out.keep hbz)
  have HC_0 := Lib.hid (HC.out.keep hbz)
  have HL_0 := Lib.hid (HL.out.keep hbz)
  have HB_0 := Lib.hid (below_next HB.out hbz)
  have HFR_0 := Lib.hid (HFR.out.trans (FrT.of hbz))
  clear HE HC HL HB HFR hbz
  have kz := HE_0.out.cell 6
  have kl := HE_0.out.lt
  simp at kz
  have hS : wz.cell? ⟨be, 6, none⟩ = some (.slice C nC cC) ∧ be < wz.heap.size := ⟨kz, kl⟩
  refine wp_region_tail (fun w' => w'.cell? ⟨be, 6, none⟩ = some (.slice C nC cC) ∧ be < w'.heap.size) [13] (by kernel_rfl) ?_
  change wpAnyT _ _ _ _ _ _ _ _ _ w.drew
  rw [← hwz]
  clear hwz
  refine take0 (i := 0) (oi := _) (v := ?_) rfl (by kernel_rfl) (by kernel_rfl) (by kernel_rfl) (fun _ _ _ h => h) rfl (Or.inl ⟨by rfl, ?_⟩) (fun _ => hS) ?_
  rotate_left
  · intro w0; go_simp; with_reducible rfl
  (try simp only [Act.put, List.setIfInBounds_toArray, List.set_cons_zero, List.set_cons_succ])
  refine take0 (i := 1) (oi := _) (v := ?_) rfl (by kernel_rfl) (by kernel_rfl) (by kernel_rfl) (fun _ _ _ h => h) rfl (Or.inl ⟨by rfl, ?_⟩) (fun _ => hS) ?_
  rotate_left
  · intro w0; go_simp; with_reducible rfl
  (try simp only [Act.put, List.setIfInBounds_toArray, List.set_cons_zero, List.set_cons_succ])
  refine take0 (i := 2) (oi := _) (v := ?_) rfl (by kernel_rfl) (by kernel_rfl) (by kernel_rfl) (fun _ _ _ h => h) rfl (Or.inl ⟨by rfl, ?_⟩) (fun _ => hS) ?_
  rotate_left
  · intro w0; go_simp; with_reducible rfl
  (try simp only [Act.put, List.setIfInBounds_toArray, List.set_cons_zero, List.set_cons_succ])
  refine take0 (i := 3) (oi := _) (v := ?_) rfl (by kernel_rfl) (by kernel_rfl) (by kernel_rfl) (fun _ _ _ h => h) rfl (Or.inl ⟨by rfl, ?_⟩) (fun _ => hS) ?_
  rotate_left
  · intro w0; go_simp; with_reducible rfl
  (try simp only [Act.put, List.setIfInBounds_toArray, List.set_cons_zero, List.set_cons_succ])
  refine take0 (i := 4) (oi := _) (v := ?_) rfl (by kernel_rfl) (by kernel_rfl) (by kernel_rfl) (fun _ _ _ h => h) rfl (Or.inl ⟨by rfl, ?_⟩) (fun _ => hS) ?_
  rotate_left
  · intro w0; go_simp; with_reducible rfl
  (try simp only [Act.put, List.setIfInBounds_toArray, List.set_cons_zero, List.set_cons_succ])
  refine takeS (i := 5) (oi := _) (v := ?_) rfl (by kernel_rfl) (by kernel_rfl) (by kernel_rfl) (fun _ _ _ h => h) rfl (by kernel_rfl) (by kernel_rfl) (Or.inl ⟨by rfl, ?_⟩) hS ?_
  rotate_left
  · intro w0 hSw; (try dsimp only at hSw); go_simp; with_reducible rfl
  (try simp only [Act.put, List.setIfInBounds_toArray, List.set_cons_zero, List.set_cons_succ])
  refine take0 (i := 6) (oi := _) (v := ?_) rfl (by kernel_rfl) (by kernel_rfl) (by kernel_rfl) (fun _ _ _ h => h) rfl (Or.inl ⟨by rfl, ?_⟩) (fun _ => hS) ?_
  rotate_left
  · intro w0; go_simp; with_reducible rfl
  (try simp only [Act.put, List.setIfInBounds_toArray, List.set_cons_zero, List.set_cons_succ])
  refine oneT (i := 7) (by kernel_rfl) rfl (by rfl) (fun K hK => ?_)
  go_simp
  refine (clone_ints A m c l wz HL_0.out (by omega)).mono ?_
  rintro e w1 ⟨A1, m1, c1, rfl, hO1, hb1⟩
  have HO1 := Lib.hid hO1
  clear hO1 kz kl hS
  have HE_1 := Lib.hid (HE_0.out.keep hb1)
  have HC_1 := Lib.hid (HC_0.out.keep hb1)
  have HL_1 := Lib.hid (HL_0.out.keep hb1)
  have HB_1 := Lib.hid (below_next HB_0.out hb1)
  have HFR_1 := Lib.hid (HFR_0.out.trans (FrT.of hb1))
  clear HE_0 HC_0 HL_0 HB_0 HFR_0 hb1
  have kz := HE_1.out.cell 6
  have kl := HE_1.out.lt
  simp at kz
  have hS : w1.cell? ⟨be, 6, none⟩ = some (.slice C nC cC) ∧ be < w1.heap.size := ⟨kz, kl⟩
  refine hK _ _ (fun _ => hS) ?_
  clear hK
  (try simp only [Act.put, List.setIfInBounds_toArray, List.set_cons_zero, List.set_cons_succ])
  refine oneT (i := 8) (by kernel_rfl) rfl (by rfl) (fun K hK => ?_)
  go_simp
  obtain ⟨w2, hw2⟩ : ∃ z : World, z = w1.alloc (.cells #[.slice A1 m1 c1] 22) := ⟨_, rfl⟩
  have hb2 : Below w1.heap.size w1 w2 := by rw [hw2]; exact below_new _ _
  have HSL : Hid (Sl w2 (some ⟨w1.heap.size, 0, none⟩) 1 1 [.slice A1 m1 c1]) := by rw [hw2]; exact sl_one w1 22 (.slice A1 m1 c1) rfl
  have HO2 := Lib.hid (HO1.out.keep hb2)
  rw [← hw2]
  clear hw2 HO1 kz kl hS
  have HE_2 := Lib.hid (HE_1.out.keep hb2)
  have HC_2 := Lib.hid (HC_1.out.keep hb2)
  have HL_2 := Lib.hid (HL_1.out.keep hb2)
  have HB_2 := Lib.hid (below_next HB_1.out hb2)
  have HFR_2 := Lib.hid (HFR_1.out.trans (FrT.of hb2))
  clear HE_1 HC_1 HL_1 HB_1 HFR_1 hb2
  have kz := HE_2.out.cell 6
  have kl := HE_2.out.lt
  simp at kz
  have hS : w2.cell? ⟨be, 6, none⟩ = some (.slice C nC cC) ∧ be < w2.heap.size := ⟨kz, kl⟩
  refine hK _ _ (fun _ => hS) ?_
  clear hK
  (try simp only [Act.put, List.setIfInBounds_toArray, List.set_cons_zero, List.set_cons_succ])
  refine oneT (i := 9) (by kernel_rfl) rfl (by rfl) (fun K hK => ?_)
  obtain ⟨vs, ho1, ho2⟩ := HC_2.out
  have hsz := HB_2.out.size
  refine wp_append_sl _ (.tmp 9) (.tmp 12) 38 rfl w0.heap.size 22 i0 _ 24 Try.underlying38 hi0 hz0 hz1 hz2 rfl C nC cC _ rfl ho1 (some ⟨w1.heap.size, 0, none⟩) 1 1 _ rfl HSL.out (by simp [Value.oneCell']) (by simp only [maxLen]; omega) (by omega) hsz ?_
  intro C2 c2 w3 hC2 hg3 hat3
  have hrt := own_rows ho1 (low := 0) (Nat.zero_le _)
  have hlo2 : ∀ g, blockOf C = some g → w0.heap.size ≤ g ∧ Typed 22 w2 g := own_rows ho1 (Nat.le_refl _)
  have HI2 : Hid (Ints w2 A1 m1 c1 l) := HO2.out.ints (HL_2.out.wf)
  have HC3 : Hid (OwnP 22 3 w3 w0.heap.size 0 C2 (nC + 1) c2 (xss ++ [l])) := OwnP.push ho1 ho2 (Nat.zero_le _) (by decide) HI2.out (Away.own HO2.out) hC2 hg3
  have HE3 : Hid (Blk w3 be 74 #[.int .i64 4, .slice q.F q.nF q.cF, .slice q.G q.nG q.cG, .slice q.A q.n q.c, .int .i64 (n : Int), .int .i64 vars, .slice C nC cC]) := HE_2.out.grown hg3 (fun e => absurd (typed_uniq HE_2.out (hrt be e.symm).2) (by decide))
  have HB3 : Hid (Below w0.heap.size w0 w3) := HB_2.out.grown hg3 HB_2.out.size (fun j hj => (hlo2 j hj).1)
  have HFR3 : Hid (FrT w w3) := HFR_2.out.trans (FrT.grown hg3 (fun k hk => .inr (hlo2 k hk).2))
  clear hC2 hg3 hat3 hrt hlo2 ho1 ho2 kz kl hS HE_2 HC_2 HL_2 HB_2 HFR_2
  have kz := HE3.out.cell 6
  have kl := HE3.out.lt
  simp at kz
  have hS : w3.cell? ⟨be, 6, none⟩ = some (.slice C nC cC) ∧ be < w3.heap.size := ⟨kz, kl⟩
  refine hK _ _ (fun _ => hS) ?_
  clear hK
  (try simp only [Act.put, List.setIfInBounds_toArray, List.set_cons_zero, List.set_cons_succ])
  refine take0 (i := 10) (oi := _) (v := ?_) rfl (by kernel_rfl) (by kernel_rfl) (by kernel_rfl) (fun _ _ _ h => h) rfl (Or.inl ⟨by rfl, ?_⟩) (fun _ => hS) ?_
  rotate_left
  · intro w0; go_simp; with_reducible rfl
  (try simp only [Act.put, List.setIfInBounds_toArray, List.set_cons_zero, List.set_cons_succ])
  refine take0 (i := 11) (oi := _) (v := ?_) rfl (by kernel_rfl) (by kernel_rfl) (by kernel_rfl) (fun _ _ _ h => h) rfl (Or.inl ⟨by rfl, ?_⟩) (fun _ => hS) ?_
  rotate_left
  · intro w0; go_simp; with_reducible rfl
  (try simp only [Act.put, List.setIfInBounds_toArray, List.set_cons_zero, List.set_cons_succ])
  refine take0 (i := 12) (oi := _) (v := ?_) rfl (by kernel_rfl) (by kernel_rfl) (by kernel_rfl) (fun _ _ _ h => h) rfl (Or.inl ⟨by rfl, ?_⟩) (fun _ => hS) ?_
  rotate_left
  · intro w0; go_simp; with_reducible rfl
  (try simp only [Act.put, List.setIfInBounds_toArray, List.set_cons_zero, List.set_cons_succ])
  refine oneT (i := 13) (by kernel_rfl) rfl (by rfl) (fun K hK => ?_)
  have fz := HE3.out.frozen 6
  go_simp
  refine hK _ _ (noT_no (by kernel_rfl)) ?_
  clear hK
  (try simp only [Act.put, List.setIfInBounds_toArray, List.set_cons_zero, List.set_cons_succ])
  refine doneT (by kernel_rfl) ?_ _
  obtain ⟨w4, hw4⟩ : ∃ z : World, z = w3.setCell ⟨be, 6, none⟩ (.slice C2 (nC + 1) c2) := ⟨_, rfl⟩
  have hg4 : w3.grownBy w4 (some be) := by rw [hw4]; exact grown_setCell w3 ⟨be, 6, none⟩ _
  have HE4 : Hid (Blk w4 be 74 #[.int .i64 4, .slice q.F q.nF q.cF, .slice q.G q.nG q.cG, .slice q.A q.n q.c, .int .i64 (n : Int), .int .i64 vars, .slice C2 (nC + 1) c2]) := by rw [hw4]; have := HE3.out.set_ 6 (.slice C2 (nC + 1) c2); simpa [Hid] using this
  have hrt : ∀ k, some be = some k → 0 ≤ k ∧ Typed 74 w3 k := fun k hk => by cases hk; exact ⟨Nat.zero_le _, Typed.of_blk HE3.out⟩
  have HC4 := Lib.hid (ownP_kE HC3.out hg4 hrt (by decide) (by decide))
  have HB4 : Hid (Below w0.heap.size w0 w4) := HB3.out.grown hg4 HB3.out.size (fun j hj => by cases hj; exact HLO.out)
  have HFR4 : Hid (FrT w w4) := HFR3.out.trans (FrT.grown hg4 (fun k hk => .inl (hrt k hk).2))
  rw [← hw4]
  clear hw4 hg4 hrt kz kl hS fz HE3 HC3 HB3 HFR3
  go_wp2_with fail
  go_end0
  exact ⟨rfl, ⟨HB4.out, HLO.out, C2, nC + 1, c2, HE4.out, HC4.out⟩, HFR4.out⟩
end Go.Proofs.Ytlfgcblijfflfaa

/- Contract of steps' time: the clauses of a time. (Printed by wip/tools/enctime.py.) -/
namespace Go.Proofs.Ytlfgcblijfflfaa
open Go.RowKit
set_option linter.unusedSimpArgs false
set_option linter.unusedVariables false

def flN (z : Nat) : List Nat := (List.range 4).filter z.testBit
theorem some_fl (z : Nat) : someF z = (flN z).map (fun k : Nat => (k : Int)) := rfl
theorem fl_len (z : Nat) : (flN z).length ≤ 4 := Nat.le_trans (List.length_filter_le _ _) (by simp)
theorem fl_get {z j : Nat} {y : Int} (h : (someF z)[j]? = some y) : ∃ f : Nat, y = (f : Int) ∧ f < 4 ∧ (flN z)[j]? = some f := by
  rw [some_fl, List.getElem?_map] at h
  obtain ⟨f, h1, h2⟩ := Option.map_eq_some_iff.1 h
  exact ⟨f, h2.symm, List.mem_range.1 (List.mem_filter.1 (List.mem_of_getElem? h1)).1, h1⟩
theorem has_some {z f : Nat} (hf : f < 4) : hasB (someF z) (f : Int) = z.testBit f := by
  rw [Bool.eq_iff_iff, hasB_iff, someF, mem_someI]
  constructor
  · rintro ⟨k, _, h2, h3⟩
    obtain rfl : f = k := by omega
    exact h2
  · exact fun h => ⟨f, hf, h, rfl⟩
def preA (n A t i : Nat) : List Int := (List.range i).map (fun a => posL (aI n A a t))
theorem preA_succ (n A t i : Nat) : preA n A t (i + 1) = preA n A t i ++ [posL (aI n A i t)] := by unfold preA; rw [List.range_succ, List.map_append]; rfl
def preE (n A t a b : Nat) : List (List Int) := (List.range b).map (fun b => [negL (aI n A b t), negL (aI n A a t)])
theorem preE_succ (n A t a b : Nat) : preE n A t a (b + 1) = preE n A t a b ++ [[negL (aI n A b t), negL (aI n A a t)]] := by unfold preE; rw [List.range_succ, List.map_append]; rfl
theorem flat_succ {α : Type} (f : Nat → List α) (a : Nat) : (List.range (a + 1)).flatMap f = (List.range a).flatMap f ++ f a := by rw [List.range_succ, List.flatMap_append]; simp
def preF (g : Nat → List Int) (z j : Nat) : List (List Int) := ((flN z).take j).map g
theorem preF_succ (g : Nat → List Int) {z j f : Nat} (h : (flN z)[j]? = some f) : preF g z (j + 1) = preF g z j ++ [g f] := by unfold preF; rw [take_snoc_of h, List.map_append]; rfl
theorem preF_all (g : Nat → List Int) {z j : Nat} (h : (flN z).length ≤ j) : preF g z j = (flN z).map g := by unfold preF; rw [List.take_of_length_le h]
theorem riseA_succ (n : Nat) (al : List Ac) (t f i : Nat) : riseA n al t f (i + 1) = riseA n al t f i ++ (if (acAt al i).add.testBit f = true then [posL (aI n al.length i t)] else []) := by
  unfold riseA
  rw [List.range_succ, List.filter_append, List.map_append, List.append_assoc]
  congr 2
  by_cases h : (acAt al i).add.testBit f = true <;> simp [h]
theorem fallA_succ (n : Nat) (al : List Ac) (t f i : Nat) : fallA n al t f (i + 1) = fallA n al t f i ++ (if (acAt al i).drop.testBit f = true then [posL (aI n al.length i t)] else []) := by
  unfold fallA
  rw [List.range_succ, List.filter_append, List.map_append, List.append_assoc]
  congr 2
  by_cases h : (acAt al i).drop.testBit f = true <;> simp [h]
theorem posL_bd {i : Nat} (h : i ≤ 1000) : 1 ≤ posL i ∧ posL i ≤ 1001 := by unfold posL; omega
theorem aI_le {n A a t : Nat} (hn : n ≤ 3) (hA : A ≤ 3) (ha : a ≤ 3) (ht : t ≤ 3) : aI n A a t ≤ 1000 := by
  unfold aI
  have : t * A ≤ 3 * 3 := Nat.mul_le_mul ht hA
  omega
theorem fI_le {f t : Nat} (hf : f < 4) (ht : t ≤ 4) : fI f t ≤ 1000 := by unfold fI; omega
theorem own_sz {e : TypeId} {w : World} {base n c k : Nat} {A : Option Addr} {xs : List Value} (h : Own e w base A n c xs) (hk : blockOf A = some k) : base ≤ k ∧ k < w.heap.size := by
  rcases h.form with ⟨rfl, _⟩ | ⟨g', cur, rfl, hg', hh, _⟩
  · cases hk
  · cases hk; exact ⟨hg', (Array.getElem?_eq_some_iff.1 hh).1⟩

theorem own_apart {w : World} {base n c : Nat} {A B : Option Addr} {xs : List Value} (h : Own 3 w base A n c xs) (hne : ∀ j, blockOf A = some j → blockOf B = some j → False) : blockOf A = none ∨ blockOf A ≠ blockOf B := by
  cases hA : blockOf A with
  | none => exact .inl rfl
  | some j => exact .inr (fun e => hne j hA e.symm)
set_option maxHeartbeats 16000000 in
set_option maxRecDepth 100000 in
theorem time_any {w0 w : World} {be : Nat} {q : Qv} {n f0 g : Nat} {al : List Ac} {vars : Int} {xss : List (List Int)} (t : Nat) (h : EncSt w0 w be q n vars xss) (hq : QstR w0 q f0 g al) (hn : n ≤ 3) (ht : t < n) (hx : xss.length ≤ 500) :
    Calls Try.prog 26 #[.pointer (some ⟨be, 0, none⟩), .int .i64 (t : Int)] w (RetAddE w0 be q n vars (xss ++ timeF n al t) w) := by
  have H := Lib.hid hq
  have hn3 := hq.n3
  have hal : Hid (al.length = q.n) := hq.acts.1
  obtain ⟨i0, hi0, hz0, hz1, hz2⟩ := info_parts int_info
  have HE := Lib.hid h
  have HX : Hid (xss.length ≤ 500) := hx
  have ht3 : t ≤ 3 := by omega
  clear h hq hx
  obtain ⟨CE, nCE, cCE, hEE, _⟩ := HE.out.e
  have eE0 := hEE.cell 0
  have eE3 := hEE.cell 3
  have lE := hEE.lt
  simp at eE0 eE3
  clear hEE
  go_enter Try.func26, Try.ntmps26
  go_wp2_with fail
  go_loopw [4, 30] (fun s4 s30 wr => ∃ (i cO : Nat) (O : Option Addr), i ≤ q.n ∧ s4 = .slice O i cO ∧ s30 = .int .i64 i ∧ Hid (Below w.heap.size w wr) ∧ Hid (Own 3 wr w.heap.size O i cO ((preA n q.n t i).map (Value.int .i64)))) (fun _ s _ => q.n - (intOf s).toNat)
  case atStart => exact ⟨0, 0, none, Nat.zero_le _, rfl, rfl, Below.refl _ _, Own.nil _ _ _⟩
  case round =>
    clear eE0 eE3 lE
    obtain ⟨i, cO, O, hi, rfl, rfl, HB, HO⟩ := hrel
    by_cases hlt : i < q.n
    · have HEr := Lib.hid (HE.out.keep HB.out)
      have q0 : (0 : Int) ≤ (i : Int) := by omega
      have q1 : (i : Int) < (q.n : Int) := by omega
      obtain ⟨p, hp⟩ : ∃ p, Hid (posL (aI n q.n i t) = p) := ⟨_, rfl⟩
      have hpb := posL_bd (aI_le hn hn3 (by omega : i ≤ 3) ht3)
      rw [hp.out] at hpb
      have hc := act_any i t HEr.out (by omega) hn3 (by omega) (by omega)
      rw [hp.out] at hc
      go_wp2_with fail
      refine hc.mono ?_
      rintro e w1 ⟨rfl, mq, hmq⟩
      have hb1 : Below wr.heap.size wr w1 := by rw [hmq]; exact below_drewN _ _
      have HB1 := Lib.hid (below_next HB.out hb1)
      have HO1 := Lib.hid (HO.out.keep hb1)
      clear hmq hb1 HB HO HEr hc
      have HSL := Lib.hid (sl_one w1 3 (.int .i64 p) rfl)
      have hb4 := below_new w1 (.cells #[.int .i64 p] 3)
      have HOn := Lib.hid (HO1.out.keep hb4)
      have HBn := Lib.hid (below_next HB1.out hb4)
      have hsz := HB1.out.size
      clear hb4 HO1
      go_wp2_with (first
        | (at_builtin
           refine wpList_append_sl _ rfl (.tmp 33) (.tmp 38) _ rfl w.heap.size 3 i0 _ 8 Try.underlying22 hi0 hz0 hz1 hz2 rfl O i cO _ rfl HOn.out (some ⟨w1.heap.size, 0, none⟩) 1 1 _ rfl HSL.out (by simp [Value.oneCell']) (by simp only [maxLen]; omega) (by omega) (by simp; omega) ?_
           intro L1 c1 w9 hL1 hg1 hat1
           have HL1 : Hid (Own 3 w9 w.heap.size L1 (i + 1) c1 ((preA n q.n t (i + 1)).map (Value.int .i64))) := by show Own _ _ _ _ _ _ _; rw [preA_succ, hp.out, List.map_append]; exact hL1
           have HB9 : Hid (Below w.heap.size w w9) := HBn.out.grown hg1 HBn.out.size (fun z hz => (own_sz HOn.out hz).1)
           clear hL1 hg1 hat1))
      go_roundw
      case rel => exact ⟨i + 1, c1, L1, by omega, rfl, by go_num, HB9, HL1⟩
      case measure => simp [intOf] <;> omega
    · have q1 : ¬ (i : Int) < (q.n : Int) := by omega
      obtain rfl : i = q.n := by omega
      have HE1 := Lib.hid (HE.out.keep HB.out)
      have HF1 : Hid (FrT w wr) := FrT.of HB.out
      have HI1 : Hid (Ints wr O q.n cO (preA n q.n t q.n)) := HO.out.ints (fun z hz => by obtain ⟨a, ha, rfl⟩ := List.mem_map.1 hz; have := posL_bd (aI_le hn hn3 (by have := List.mem_range.1 ha; omega : a ≤ 3) ht3); unfold I64; omega)
      obtain ⟨wo, hwo⟩ : ∃ z : World, z = wr := ⟨_, rfl⟩
      subst hwo
      clear HO HB HE
      go_wp2_with fail
      refine (addE_any O q.n cO _ HE1.out HI1.out (by omega) (by have := HX.out; omega)).mono ?_
      rintro e w2 ⟨rfl, hE2, hF2⟩
      have HE2 := Lib.hid hE2
      have HF2 := Lib.hid (HF1.out.trans hF2)
      clear hE2 hF2 HE1 HF1 HI1
      obtain ⟨CE, nCE, cCE, hEE, _⟩ := HE2.out.e
      have eE0 := hEE.cell 0
      have eE3 := hEE.cell 3
      have lE := hEE.lt
      simp at eE0 eE3
      clear hEE
      go_wp2_with fail
      go_loopw [50] (fun s50 wr => ∃ a : Nat, a ≤ q.n ∧ s50 = .int .i64 a ∧ Hid (EncSt w0 wr be q n vars (xss ++ [preA n q.n t q.n] ++ (List.range a).flatMap (fun a => preE n q.n t a a))) ∧ Hid (FrT w wr) ∧ Hid ((xss ++ [preA n q.n t q.n] ++ (List.range a).flatMap (fun a => preE n q.n t a a)).length ≤ 501 + 3 * a)) (fun s _ => q.n - (intOf s).toNat)
      case atStart => exact ⟨0, Nat.zero_le _, rfl, by simpa using HE2, HF2, by have := HX.out; show _ ≤ _; simp; omega⟩
      case round =>
        clear eE0 eE3 lE HE2 HF2
        obtain ⟨a, ha, rfl, HE, HF, HLN⟩ := hrel
        by_cases hlt2 : a < q.n
        · have q0 : (a : Int) < (q.n : Int) := by omega
          obtain ⟨wo, hwo⟩ : ∃ z : World, z = wr := ⟨_, rfl⟩
          subst hwo
          obtain ⟨ys, hys⟩ : ∃ ys, Hid (xss ++ [preA n q.n t q.n] ++ (List.range a).flatMap (fun a => preE n q.n t a a) = ys) := ⟨_, rfl⟩
          rw [hys.out] at HE HLN
          go_wp2_with fail
          go_loopw [54] (fun s54 wr => ∃ b : Nat, b ≤ a ∧ s54 = .int .i64 b ∧ Hid (EncSt w0 wr be q n vars (ys ++ preE n q.n t a b)) ∧ Hid (FrT w wr) ∧ Hid ((ys ++ preE n q.n t a b).length ≤ 501 + 3 * a + b)) (fun s _ => a - (intOf s).toNat)
          case atStart => exact ⟨0, Nat.zero_le _, rfl, by simpa [preE] using HE, HF, by have := HLN.out; show _ ≤ _; simpa [preE] using this⟩
          case round =>
            clear HE HF HLN
            obtain ⟨b, hb, rfl, HE, HF, HLN⟩ := hrel
            by_cases hlt3 : b < a
            · have q1 : (b : Int) < (a : Int) := by omega
              obtain ⟨p1, hp1⟩ : ∃ p, Hid (posL (aI n q.n b t) = p) := ⟨_, rfl⟩
              have hbp1 := posL_bd (aI_le hn hn3 (by omega : b ≤ 3) (by omega : t ≤ 3))
              rw [hp1.out] at hbp1
              have hc := act_any b t HE.out (by omega) hn3 (by omega) (by omega)
              rw [hp1.out] at hc
              go_wp2_with fail
              refine hc.mono ?_
              rintro e w3 ⟨rfl, mq, hmq⟩
              have hbq : Below wr.heap.size wr w3 := by rw [hmq]; exact below_drewN _ _
              have HE_1 := Lib.hid (HE.out.keep hbq)
              have HF_1 := Lib.hid (HF.out.trans (FrT.of hbq))
              clear hmq hbq hc HE HF 
              obtain ⟨p2, hp2⟩ : ∃ p, Hid (posL (aI n q.n a t) = p) := ⟨_, rfl⟩
              have hbp2 := posL_bd (aI_le hn hn3 (by omega : a ≤ 3) (by omega : t ≤ 3))
              rw [hp2.out] at hbp2
              have hc := act_any a t HE_1.out (by omega) hn3 (by omega) (by omega)
              rw [hp2.out] at hc
              go_wp2_with fail
              refine hc.mono ?_
              rintro e w4 ⟨rfl, mq, hmq⟩
              have hbq : Below w3.heap.size w3 w4 := by rw [hmq]; exact below_drewN _ _
              have HE_2 := Lib.hid (HE_1.out.keep hbq)
              have HF_2 := Lib.hid (HF_1.out.trans (FrT.of hbq))
              clear hmq hbq hc HE_1 HF_1 
              have HM : Hid (Ints (w4.alloc (.cells #[.int .i64 (-p1), .int .i64 (-p2)] 3)) (some ⟨w4.heap.size, 0, none⟩) 2 2 [-p1, -p2]) := ints_made w4 3 [-p1, -p2] rfl (by simp [I64]; omega) (by simp [maxLen])
              have hbn := below_new w4 (.cells #[.int .i64 (-p1), .int .i64 (-p2)] 3)
              have HEn := Lib.hid (HE_2.out.keep hbn)
              have HFn := Lib.hid (HF_2.out.trans (FrT.of hbn))
              clear hbn HE_2 HF_2 
              go_wp2_with fail
              refine (addE_any (some ⟨w4.heap.size, 0, none⟩) 2 2 [-p1, -p2] HEn.out HM.out (by omega) (by have := HLN.out; omega)).mono ?_
              rintro e wadd ⟨rfl, hE9, hF9⟩
              have HE_3 := Lib.hid hE9
              have HF_3 := Lib.hid (HFn.out.trans hF9)
              clear hE9 hF9 HEn HFn HM 
              have HL3 : Hid (ys ++ preE n q.n t a b ++ [[-p1, -p2]] = ys ++ preE n q.n t a (b + 1)) := by show _ = _; rw [preE_succ, List.append_assoc, ← hp1.out, ← hp2.out]; rfl
              rw [HL3.out] at HE_3
              have HLN3 : Hid ((ys ++ preE n q.n t a (b + 1)).length ≤ 501 + 3 * a + (b + 1)) := by show _ ≤ _; rw [← HL3.out, List.length_append]; have := HLN.out; simp at this ⊢; omega
              clear HL3
              go_wp2_with fail
              go_roundw
              case rel => exact ⟨b + 1, by omega, by go_num, HE_3, HF_3, HLN3⟩
              case measure => simp [intOf] <;> omega
            · have q1 : ¬ (b : Int) < (a : Int) := by omega
              obtain rfl : b = a := by omega
              have HL3 : Hid (ys ++ preE n q.n t b b = xss ++ [preA n q.n t q.n] ++ (List.range (b + 1)).flatMap (fun a => preE n q.n t a a)) := by show _ = _; rw [flat_succ, ← List.append_assoc, hys.out]
              rw [HL3.out] at HE HLN
              have HLN3 : Hid ((xss ++ [preA n q.n t q.n] ++ (List.range (b + 1)).flatMap (fun a => preE n q.n t a a)).length ≤ 501 + 3 * (b + 1)) := by show _ ≤ _; have := HLN.out; omega
              clear HL3
              go_wp2_with fail
              go_roundw
              case rel => exact ⟨b + 1, by omega, by go_num, HE, HF, HLN3⟩
              case measure => simp [intOf] <;> omega
        · have q0 : ¬ (a : Int) < (q.n : Int) := by omega
          obtain rfl : a = q.n := by omega
          obtain ⟨wo, hwo⟩ : ∃ z : World, z = wr := ⟨_, rfl⟩
          subst hwo
          obtain ⟨ys, hys⟩ : ∃ ys, Hid (xss ++ [preA n q.n t q.n] ++ (List.range q.n).flatMap (fun a => preE n q.n t a a) = ys) := ⟨_, rfl⟩
          rw [hys.out] at HE HLN
          have HLY : Hid (ys.length ≤ 510) := by show _ ≤ _; have := HLN.out; omega
          clear HLN
          obtain ⟨CE, nCE, cCE, hEE, _⟩ := HE.out.e
          have eE0 := hEE.cell 0
          have eE3 := hEE.cell 3
          have lE := hEE.lt
          simp at eE0 eE3
          clear hEE
          go_wp2_with fail
          go_loopw [78] (fun s78 wr => ∃ k : Nat, k ≤ q.n ∧ s78 = .int .i64 k ∧ Hid (EncSt w0 wr be q n vars (ys ++ (List.range k).flatMap (fun k => effA n q.n t (acAt al k) k))) ∧ Hid (FrT w wr) ∧ Hid ((ys ++ (List.range k).flatMap (fun k => effA n q.n t (acAt al k) k)).length ≤ 510 + 16 * k)) (fun s _ => q.n - (intOf s).toNat)
          case atStart => exact ⟨0, Nat.zero_le _, rfl, by simpa using HE, HF, by have := HLY.out; show _ ≤ _; simpa using this⟩
          case round =>
            clear eE0 eE3 lE HE HF HLY
            obtain ⟨k, hk, rfl, HE, HF, HLN⟩ := hrel
            by_cases hlt4 : k < q.n
            · have hkal : k < al.length := by rw [hal.out]; exact hlt4
              have hka : al[k]? = some (acAt al k) := by unfold acAt; rw [List.getD_eq_getElem?_getD, List.getElem?_eq_getElem hkal]; rfl
              obtain ⟨x, hxa⟩ : ∃ x, Hid (acAt al k = x) := ⟨_, rfl⟩
              rw [hxa.out] at hka
              obtain ⟨b2, v, hAe, hat0⟩ := H.out.acts.2 k x hka
              have HATW := Lib.hid hat0
              have hv1 : v.n1 ≤ 4 := by rw [← hat0.i0.len]; exact someI_len _ 4
              have hv2 : v.n2 ≤ 4 := by rw [← hat0.i1.len]; exact someI_len _ 4
              have hv3 : v.n3 ≤ 4 := by rw [← hat0.i2.len]; exact someI_len _ 4
              have hv4 : v.n4 ≤ 4 := by rw [← hat0.i3.len]; exact someI_len _ 4
              have hat := hat0.keep HE.out.b
              have c0 := hat.k0
              have c1 := hat.k1
              have c2 := hat.k2
              have c3 := hat.k3
              have c4 := (cell_lt c0).1
              have q0 : (0 : Int) ≤ (k : Int) := by omega
              have q1 : (k : Int) < (q.n : Int) := by omega
              obtain ⟨y0, hy0⟩ : ∃ y0, Hid (ys ++ (List.range k).flatMap (fun k => effA n q.n t (acAt al k) k) = y0) := ⟨_, rfl⟩
              rw [hy0.out] at HE HLN
              rw [hAe]
              clear hat hat0 hka hAe
              go_wp2_with fail
              obtain ⟨wo, hwo⟩ : ∃ z : World, z = wr := ⟨_, rfl⟩
              subst hwo
              obtain ⟨w7, hw7⟩ : ∃ z : World, z = wo.alloc (.cells #[.slice v.A1 v.n1 v.c1, .slice v.A2 v.n2 v.c2, .slice v.A3 v.n3 v.c3, .slice v.A4 v.n4 v.c4] 58) := ⟨_, rfl⟩
              have hb7 : Below wo.heap.size wo w7 := by rw [hw7]; exact below_new _ _
              have HK_7 : Hid (Blk w7 wo.heap.size 58 #[.slice v.A1 v.n1 v.c1, .slice v.A2 v.n2 v.c2, .slice v.A3 v.n3 v.c3, .slice v.A4 v.n4 v.c4]) := by rw [hw7]; exact Blk.new _ _ _
              have HE_7 := Lib.hid (HE.out.keep hb7)
              have HF_7 := Lib.hid (HF.out.trans (FrT.of hb7))
              try rw [← hw7]
              obtain ⟨bA, hbA⟩ : ∃ z : Nat, wo.heap.size = z := ⟨_, rfl⟩
              rw [hbA] at HK_7
              try rw [hbA]
              clear hbA hw7 hb7 HE HF c0 c1 c2 c3 c4
              obtain ⟨p, hp⟩ : ∃ p, Hid (posL (aI n q.n k t) = p) := ⟨_, rfl⟩
              have hbp := posL_bd (aI_le hn hn3 (by omega : k ≤ 3) (by omega : t ≤ 3))
              rw [hp.out] at hbp
              have hc := act_any k t HE_7.out (by omega) hn3 (by omega) (by omega)
              rw [hp.out] at hc
              refine hc.mono ?_
              rintro e w8 ⟨rfl, mq, hmq⟩
              have hbq : Below w7.heap.size w7 w8 := by rw [hmq]; exact below_drewN _ _
              have HE_8 := Lib.hid (HE_7.out.keep hbq)
              have HF_8 := Lib.hid (HF_7.out.trans (FrT.of hbq))
              have HK_8 := Lib.hid (HK_7.out.keep hbq)
              clear hmq hbq hc HE_7 HF_7 HK_7
              have kac := HK_8.out.cell 0
              have kal := HK_8.out.lt
              simp at kac
              go_wp2_with fail
              go_loopw [91] (fun s wr => ∃ j : Nat, j ≤ v.n1 ∧ s = .int .i64 j ∧ Hid (EncSt w0 wr be q n vars (y0 ++ preF (fun f => [posL (fI f (t)), negL (aI n q.n k t)]) x.need j)) ∧ Hid (FrT w wr) ∧ Hid (Blk wr bA 58 #[.slice v.A1 v.n1 v.c1, .slice v.A2 v.n2 v.c2, .slice v.A3 v.n3 v.c3, .slice v.A4 v.n4 v.c4]) ∧ Hid ((y0 ++ preF (fun f => [posL (fI f (t)), negL (aI n q.n k t)]) x.need j).length ≤ 510 + 16 * k + 0 + j)) (fun s _ => v.n1 - (intOf s).toNat)
              case atStart => exact ⟨0, Nat.zero_le _, rfl, by simpa [preF] using HE_8, HF_8, HK_8, by have := HLN.out; show _ ≤ _; simpa [preF] using this⟩
              case round =>
                clear kac kal HE_8 HF_8 HK_8 HLN
                obtain ⟨j, hj, rfl, HE, HF, HK, HLN⟩ := hrel
                by_cases hltj : j < v.n1
                · obtain ⟨b, off, y, hLe, hbb, hcell, yb1, yb2, hy⟩ := (HATW.out.i0.keep HE.out.b).round hltj
                  obtain ⟨f, rfl, hf4, hfl⟩ := fl_get hy.out
                  have HFL := Lib.hid hfl
                  have q2 : (0 : Int) ≤ (j : Int) := by omega
                  have q3 : (j : Int) < (v.n1 : Int) := by omega
                  rw [hLe] at HK ⊢
                  clear hy hfl
                  obtain ⟨p1, hp1⟩ : ∃ p, Hid (posL (fI f (t)) = p) := ⟨_, rfl⟩
                  have hbp1 := posL_bd (fI_le (by omega : f < 4) (by omega : t ≤ 4))
                  rw [hp1.out] at hbp1
                  have hc := fact_any f (t) HE.out (by omega) (by omega)
                  rw [hp1.out] at hc
                  go_wp2_with fail
                  refine hc.mono ?_
                  rintro e w3 ⟨rfl, mq, hmq⟩
                  have hbq : Below wr.heap.size wr w3 := by rw [hmq]; exact below_drewN _ _
                  have HE_1 := Lib.hid (HE.out.keep hbq)
                  have HF_1 := Lib.hid (HF.out.trans (FrT.of hbq))
                  have HK_1 := Lib.hid (HK.out.keep hbq)
                  clear hmq hbq hc HE HF HK
                  have HM : Hid (Ints (w3.alloc (.cells #[.int .i64 (p1), .int .i64 (-p)] 3)) (some ⟨w3.heap.size, 0, none⟩) 2 2 [p1, -p]) := ints_made w3 3 [p1, -p] rfl (by simp [I64]; omega) (by simp [maxLen])
                  have hbn := below_new w3 (.cells #[.int .i64 (p1), .int .i64 (-p)] 3)
                  have HEn := Lib.hid (HE_1.out.keep hbn)
                  have HFn := Lib.hid (HF_1.out.trans (FrT.of hbn))
                  have HKn := Lib.hid (HK_1.out.keep hbn)
                  clear hbn HE_1 HF_1 HK_1
                  go_wp2_with fail
                  refine (addE_any (some ⟨w3.heap.size, 0, none⟩) 2 2 [p1, -p] HEn.out HM.out (by omega) (by have := HLN.out; omega)).mono ?_
                  rintro e wadd ⟨rfl, hE9, hF9⟩
                  have HE_3 := Lib.hid hE9
                  have HF_3 := Lib.hid (HFn.out.trans hF9)
                  have HK_3 := Lib.hid (HKn.out.fr hF9 (by decide) (by decide))
                  clear hE9 hF9 HEn HFn HM HKn
                  have HL3 : Hid (y0 ++ preF (fun f => [posL (fI f (t)), negL (aI n q.n k t)]) x.need j ++ [[p1, -p]] = y0 ++ preF (fun f => [posL (fI f (t)), negL (aI n q.n k t)]) x.need (j + 1)) := by show _ = _; rw [preF_succ _ HFL.out, List.append_assoc, ← hp1.out, ← hp.out]; rfl
                  rw [HL3.out] at HE_3
                  have HLN3 : Hid ((y0 ++ preF (fun f => [posL (fI f (t)), negL (aI n q.n k t)]) x.need (j + 1)).length ≤ 510 + 16 * k + 0 + (j + 1)) := by show _ ≤ _; rw [← HL3.out, List.length_append]; have := HLN.out; simp at this ⊢; omega
                  clear HL3 hcell
                  go_wp2_with fail
                  go_roundw
                  case rel => exact ⟨j + 1, by omega, by go_num, HE_3, HF_3, HK_3, HLN3⟩
                  case measure => simp [intOf] <;> omega
                · have q3 : ¬ (j : Int) < (v.n1 : Int) := by omega
                  obtain rfl : j = v.n1 := by omega
                  obtain ⟨y1, hy1⟩ : ∃ z, Hid (y0 ++ (flN x.need).map (fun f => [posL (fI f (t)), negL (aI n q.n k t)]) = z) := ⟨_, rfl⟩
                  have HL3 : Hid (y0 ++ preF (fun f => [posL (fI f (t)), negL (aI n q.n k t)]) x.need v.n1 = y1) := by show _ = _; rw [preF_all _ (by have := HATW.out.i0.len; rw [some_fl, List.length_map] at this; omega), hy1.out]
                  rw [HL3.out] at HE HLN
                  have HE_L1 := HE
                  have HF_L1 := HF
                  have HK_L1 := HK
                  have HLN_L1 : Hid (y1.length ≤ 510 + 16 * k + 4) := by show _ ≤ _; have := HLN.out; omega
                  obtain ⟨wo, hwo⟩ : ∃ z : World, z = wr := ⟨_, rfl⟩
                  subst hwo
                  clear HL3 HE HF HK HLN
                  have kac := HK_L1.out.cell 1
                  have kal := HK_L1.out.lt
                  simp at kac
                  go_wp2_with fail
                  go_loopw [107] (fun s wr => ∃ j : Nat, j ≤ v.n2 ∧ s = .int .i64 j ∧ Hid (EncSt w0 wr be q n vars (y1 ++ preF (fun f => [negL (fI f (t)), negL (aI n q.n k t)]) x.bar j)) ∧ Hid (FrT w wr) ∧ Hid (Blk wr bA 58 #[.slice v.A1 v.n1 v.c1, .slice v.A2 v.n2 v.c2, .slice v.A3 v.n3 v.c3, .slice v.A4 v.n4 v.c4]) ∧ Hid ((y1 ++ preF (fun f => [negL (fI f (t)), negL (aI n q.n k t)]) x.bar j).length ≤ 510 + 16 * k + 4 + j)) (fun s _ => v.n2 - (intOf s).toNat)
                  case atStart => exact ⟨0, Nat.zero_le _, rfl, by simpa [preF] using HE_L1, HF_L1, HK_L1, by have := HLN_L1.out; show _ ≤ _; simpa [preF] using this⟩
                  case round =>
                    clear kac kal HE_L1 HF_L1 HK_L1 HLN_L1
                    obtain ⟨j, hj, rfl, HE, HF, HK, HLN⟩ := hrel
                    by_cases hltj : j < v.n2
                    · obtain ⟨b, off, y, hLe, hbb, hcell, yb1, yb2, hy⟩ := (HATW.out.i1.keep HE.out.b).round hltj
                      obtain ⟨f, rfl, hf4, hfl⟩ := fl_get hy.out
                      have HFL := Lib.hid hfl
                      have q2 : (0 : Int) ≤ (j : Int) := by omega
                      have q3 : (j : Int) < (v.n2 : Int) := by omega
                      rw [hLe] at HK ⊢
                      clear hy hfl
                      obtain ⟨p1, hp1⟩ : ∃ p, Hid (posL (fI f (t)) = p) := ⟨_, rfl⟩
                      have hbp1 := posL_bd (fI_le (by omega : f < 4) (by omega : t ≤ 4))
                      rw [hp1.out] at hbp1
                      have hc := fact_any f (t) HE.out (by omega) (by omega)
                      rw [hp1.out] at hc
                      go_wp2_with fail
                      refine hc.mono ?_
                      rintro e w3 ⟨rfl, mq, hmq⟩
                      have hbq : Below wr.heap.size wr w3 := by rw [hmq]; exact below_drewN _ _
                      have HE_1 := Lib.hid (HE.out.keep hbq)
                      have HF_1 := Lib.hid (HF.out.trans (FrT.of hbq))
                      have HK_1 := Lib.hid (HK.out.keep hbq)
                      clear hmq hbq hc HE HF HK
                      have HM : Hid (Ints (w3.alloc (.cells #[.int .i64 (-p1), .int .i64 (-p)] 3)) (some ⟨w3.heap.size, 0, none⟩) 2 2 [-p1, -p]) := ints_made w3 3 [-p1, -p] rfl (by simp [I64]; omega) (by simp [maxLen])
                      have hbn := below_new w3 (.cells #[.int .i64 (-p1), .int .i64 (-p)] 3)
                      have HEn := Lib.hid (HE_1.out.keep hbn)
                      have HFn := Lib.hid (HF_1.out.trans (FrT.of hbn))
                      have HKn := Lib.hid (HK_1.out.keep hbn)
                      clear hbn HE_1 HF_1 HK_1
                      go_wp2_with fail
                      refine (addE_any (some ⟨w3.heap.size, 0, none⟩) 2 2 [-p1, -p] HEn.out HM.out (by omega) (by have := HLN.out; omega)).mono ?_
                      rintro e wadd ⟨rfl, hE9, hF9⟩
                      have HE_3 := Lib.hid hE9
                      have HF_3 := Lib.hid (HFn.out.trans hF9)
                      have HK_3 := Lib.hid (HKn.out.fr hF9 (by decide) (by decide))
                      clear hE9 hF9 HEn HFn HM HKn
                      have HL3 : Hid (y1 ++ preF (fun f => [negL (fI f (t)), negL (aI n q.n k t)]) x.bar j ++ [[-p1, -p]] = y1 ++ preF (fun f => [negL (fI f (t)), negL (aI n q.n k t)]) x.bar (j + 1)) := by show _ = _; rw [preF_succ _ HFL.out, List.append_assoc, ← hp1.out, ← hp.out]; rfl
                      rw [HL3.out] at HE_3
                      have HLN3 : Hid ((y1 ++ preF (fun f => [negL (fI f (t)), negL (aI n q.n k t)]) x.bar (j + 1)).length ≤ 510 + 16 * k + 4 + (j + 1)) := by show _ ≤ _; rw [← HL3.out, List.length_append]; have := HLN.out; simp at this ⊢; omega
                      clear HL3 hcell
                      go_wp2_with fail
                      go_roundw
                      case rel => exact ⟨j + 1, by omega, by go_num, HE_3, HF_3, HK_3, HLN3⟩
                      case measure => simp [intOf] <;> omega
                    · have q3 : ¬ (j : Int) < (v.n2 : Int) := by omega
                      obtain rfl : j = v.n2 := by omega
                      obtain ⟨y2, hy2⟩ : ∃ z, Hid (y1 ++ (flN x.bar).map (fun f => [negL (fI f (t)), negL (aI n q.n k t)]) = z) := ⟨_, rfl⟩
                      have HL3 : Hid (y1 ++ preF (fun f => [negL (fI f (t)), negL (aI n q.n k t)]) x.bar v.n2 = y2) := by show _ = _; rw [preF_all _ (by have := HATW.out.i1.len; rw [some_fl, List.length_map] at this; omega), hy2.out]
                      rw [HL3.out] at HE HLN
                      have HE_L2 := HE
                      have HF_L2 := HF
                      have HK_L2 := HK
                      have HLN_L2 : Hid (y2.length ≤ 510 + 16 * k + 8) := by show _ ≤ _; have := HLN.out; omega
                      obtain ⟨wo, hwo⟩ : ∃ z : World, z = wr := ⟨_, rfl⟩
                      subst hwo
                      clear HL3 HE HF HK HLN
                      have kac := HK_L2.out.cell 2
                      have kal := HK_L2.out.lt
                      simp at kac
                      go_wp2_with fail
                      go_loopw [124] (fun s wr => ∃ j : Nat, j ≤ v.n3 ∧ s = .int .i64 j ∧ Hid (EncSt w0 wr be q n vars (y2 ++ preF (fun f => [posL (fI f (t + 1)), negL (aI n q.n k t)]) x.add j)) ∧ Hid (FrT w wr) ∧ Hid (Blk wr bA 58 #[.slice v.A1 v.n1 v.c1, .slice v.A2 v.n2 v.c2, .slice v.A3 v.n3 v.c3, .slice v.A4 v.n4 v.c4]) ∧ Hid ((y2 ++ preF (fun f => [posL (fI f (t + 1)), negL (aI n q.n k t)]) x.add j).length ≤ 510 + 16 * k + 8 + j)) (fun s _ => v.n3 - (intOf s).toNat)
                      case atStart => exact ⟨0, Nat.zero_le _, rfl, by simpa [preF] using HE_L2, HF_L2, HK_L2, by have := HLN_L2.out; show _ ≤ _; simpa [preF] using this⟩
                      case round =>
                        clear kac kal HE_L2 HF_L2 HK_L2 HLN_L2
                        obtain ⟨j, hj, rfl, HE, HF, HK, HLN⟩ := hrel
                        by_cases hltj : j < v.n3
                        · obtain ⟨b, off, y, hLe, hbb, hcell, yb1, yb2, hy⟩ := (HATW.out.i2.keep HE.out.b).round hltj
                          obtain ⟨f, rfl, hf4, hfl⟩ := fl_get hy.out
                          have HFL := Lib.hid hfl
                          have q2 : (0 : Int) ≤ (j : Int) := by omega
                          have q3 : (j : Int) < (v.n3 : Int) := by omega
                          rw [hLe] at HK ⊢
                          clear hy hfl
                          obtain ⟨p1, hp1⟩ : ∃ p, Hid (posL (fI f (t + 1)) = p) := ⟨_, rfl⟩
                          have hbp1 := posL_bd (fI_le (by omega : f < 4) (by omega : t + 1 ≤ 4))
                          rw [hp1.out] at hbp1
                          have hc := fact_any f (t + 1) HE.out (by omega) (by omega)
                          rw [hp1.out] at hc
                          rw [show ((t + 1 : Nat) : Int) = (t : Int) + 1 from rfl] at hc
                          go_wp2_with fail
                          refine hc.mono ?_
                          rintro e w3 ⟨rfl, mq, hmq⟩
                          have hbq : Below wr.heap.size wr w3 := by rw [hmq]; exact below_drewN _ _
                          have HE_1 := Lib.hid (HE.out.keep hbq)
                          have HF_1 := Lib.hid (HF.out.trans (FrT.of hbq))
                          have HK_1 := Lib.hid (HK.out.keep hbq)
                          clear hmq hbq hc HE HF HK
                          have HM : Hid (Ints (w3.alloc (.cells #[.int .i64 (p1), .int .i64 (-p)] 3)) (some ⟨w3.heap.size, 0, none⟩) 2 2 [p1, -p]) := ints_made w3 3 [p1, -p] rfl (by simp [I64]; omega) (by simp [maxLen])
                          have hbn := below_new w3 (.cells #[.int .i64 (p1), .int .i64 (-p)] 3)
                          have HEn := Lib.hid (HE_1.out.keep hbn)
                          have HFn := Lib.hid (HF_1.out.trans (FrT.of hbn))
                          have HKn := Lib.hid (HK_1.out.keep hbn)
                          clear hbn HE_1 HF_1 HK_1
                          go_wp2_with fail
                          refine (addE_any (some ⟨w3.heap.size, 0, none⟩) 2 2 [p1, -p] HEn.out HM.out (by omega) (by have := HLN.out; omega)).mono ?_
                          rintro e wadd ⟨rfl, hE9, hF9⟩
                          have HE_3 := Lib.hid hE9
                          have HF_3 := Lib.hid (HFn.out.trans hF9)
                          have HK_3 := Lib.hid (HKn.out.fr hF9 (by decide) (by decide))
                          clear hE9 hF9 HEn HFn HM HKn
                          have HL3 : Hid (y2 ++ preF (fun f => [posL (fI f (t + 1)), negL (aI n q.n k t)]) x.add j ++ [[p1, -p]] = y2 ++ preF (fun f => [posL (fI f (t + 1)), negL (aI n q.n k t)]) x.add (j + 1)) := by show _ = _; rw [preF_succ _ HFL.out, List.append_assoc, ← hp1.out, ← hp.out]; rfl
                          rw [HL3.out] at HE_3
                          have HLN3 : Hid ((y2 ++ preF (fun f => [posL (fI f (t + 1)), negL (aI n q.n k t)]) x.add (j + 1)).length ≤ 510 + 16 * k + 8 + (j + 1)) := by show _ ≤ _; rw [← HL3.out, List.length_append]; have := HLN.out; simp at this ⊢; omega
                          clear HL3 hcell
                          go_wp2_with fail
                          go_roundw
                          case rel => exact ⟨j + 1, by omega, by go_num, HE_3, HF_3, HK_3, HLN3⟩
                          case measure => simp [intOf] <;> omega
                        · have q3 : ¬ (j : Int) < (v.n3 : Int) := by omega
                          obtain rfl : j = v.n3 := by omega
                          obtain ⟨y3, hy3⟩ : ∃ z, Hid (y2 ++ (flN x.add).map (fun f => [posL (fI f (t + 1)), negL (aI n q.n k t)]) = z) := ⟨_, rfl⟩
                          have HL3 : Hid (y2 ++ preF (fun f => [posL (fI f (t + 1)), negL (aI n q.n k t)]) x.add v.n3 = y3) := by show _ = _; rw [preF_all _ (by have := HATW.out.i2.len; rw [some_fl, List.length_map] at this; omega), hy3.out]
                          rw [HL3.out] at HE HLN
                          have HE_L3 := HE
                          have HF_L3 := HF
                          have HK_L3 := HK
                          have HLN_L3 : Hid (y3.length ≤ 510 + 16 * k + 12) := by show _ ≤ _; have := HLN.out; omega
                          obtain ⟨wo, hwo⟩ : ∃ z : World, z = wr := ⟨_, rfl⟩
                          subst hwo
                          clear HL3 HE HF HK HLN
                          have kac := HK_L3.out.cell 3
                          have kal := HK_L3.out.lt
                          simp at kac
                          go_wp2_with fail
                          go_loopw [141] (fun s wr => ∃ j : Nat, j ≤ v.n4 ∧ s = .int .i64 j ∧ Hid (EncSt w0 wr be q n vars (y3 ++ preF (fun f => [negL (fI f (t + 1)), negL (aI n q.n k t)]) x.drop j)) ∧ Hid (FrT w wr) ∧ Hid (Blk wr bA 58 #[.slice v.A1 v.n1 v.c1, .slice v.A2 v.n2 v.c2, .slice v.A3 v.n3 v.c3, .slice v.A4 v.n4 v.c4]) ∧ Hid ((y3 ++ preF (fun f => [negL (fI f (t + 1)), negL (aI n q.n k t)]) x.drop j).length ≤ 510 + 16 * k + 12 + j)) (fun s _ => v.n4 - (intOf s).toNat)
                          case atStart => exact ⟨0, Nat.zero_le _, rfl, by simpa [preF] using HE_L3, HF_L3, HK_L3, by have := HLN_L3.out; show _ ≤ _; simpa [preF] using this⟩
                          case round =>
                            clear kac kal HE_L3 HF_L3 HK_L3 HLN_L3
                            obtain ⟨j, hj, rfl, HE, HF, HK, HLN⟩ := hrel
                            by_cases hltj : j < v.n4
                            · obtain ⟨b, off, y, hLe, hbb, hcell, yb1, yb2, hy⟩ := (HATW.out.i3.keep HE.out.b).round hltj
                              obtain ⟨f, rfl, hf4, hfl⟩ := fl_get hy.out
                              have HFL := Lib.hid hfl
                              have q2 : (0 : Int) ≤ (j : Int) := by omega
                              have q3 : (j : Int) < (v.n4 : Int) := by omega
                              rw [hLe] at HK ⊢
                              clear hy hfl
                              obtain ⟨p1, hp1⟩ : ∃ p, Hid (posL (fI f (t + 1)) = p) := ⟨_, rfl⟩
                              have hbp1 := posL_bd (fI_le (by omega : f < 4) (by omega : t + 1 ≤ 4))
                              rw [hp1.out] at hbp1
                              have hc := fact_any f (t + 1) HE.out (by omega) (by omega)
                              rw [hp1.out] at hc
                              rw [show ((t + 1 : Nat) : Int) = (t : Int) + 1 from rfl] at hc
                              go_wp2_with fail
                              refine hc.mono ?_
                              rintro e w3 ⟨rfl, mq, hmq⟩
                              have hbq : Below wr.heap.size wr w3 := by rw [hmq]; exact below_drewN _ _
                              have HE_1 := Lib.hid (HE.out.keep hbq)
                              have HF_1 := Lib.hid (HF.out.trans (FrT.of hbq))
                              have HK_1 := Lib.hid (HK.out.keep hbq)
                              clear hmq hbq hc HE HF HK
                              have HM : Hid (Ints (w3.alloc (.cells #[.int .i64 (-p1), .int .i64 (-p)] 3)) (some ⟨w3.heap.size, 0, none⟩) 2 2 [-p1, -p]) := ints_made w3 3 [-p1, -p] rfl (by simp [I64]; omega) (by simp [maxLen])
                              have hbn := below_new w3 (.cells #[.int .i64 (-p1), .int .i64 (-p)] 3)
                              have HEn := Lib.hid (HE_1.out.keep hbn)
                              have HFn := Lib.hid (HF_1.out.trans (FrT.of hbn))
                              have HKn := Lib.hid (HK_1.out.keep hbn)
                              clear hbn HE_1 HF_1 HK_1
                              go_wp2_with fail
                              refine (addE_any (some ⟨w3.heap.size, 0, none⟩) 2 2 [-p1, -p] HEn.out HM.out (by omega) (by have := HLN.out; omega)).mono ?_
                              rintro e wadd ⟨rfl, hE9, hF9⟩
                              have HE_3 := Lib.hid hE9
                              have HF_3 := Lib.hid (HFn.out.trans hF9)
                              have HK_3 := Lib.hid (HKn.out.fr hF9 (by decide) (by decide))
                              clear hE9 hF9 HEn HFn HM HKn
                              have HL3 : Hid (y3 ++ preF (fun f => [negL (fI f (t + 1)), negL (aI n q.n k t)]) x.drop j ++ [[-p1, -p]] = y3 ++ preF (fun f => [negL (fI f (t + 1)), negL (aI n q.n k t)]) x.drop (j + 1)) := by show _ = _; rw [preF_succ _ HFL.out, List.append_assoc, ← hp1.out, ← hp.out]; rfl
                              rw [HL3.out] at HE_3
                              have HLN3 : Hid ((y3 ++ preF (fun f => [negL (fI f (t + 1)), negL (aI n q.n k t)]) x.drop (j + 1)).length ≤ 510 + 16 * k + 12 + (j + 1)) := by show _ ≤ _; rw [← HL3.out, List.length_append]; have := HLN.out; simp at this ⊢; omega
                              clear HL3 hcell
                              go_wp2_with fail
                              go_roundw
                              case rel => exact ⟨j + 1, by omega, by go_num, HE_3, HF_3, HK_3, HLN3⟩
                              case measure => simp [intOf] <;> omega
                            · have q3 : ¬ (j : Int) < (v.n4 : Int) := by omega
                              obtain rfl : j = v.n4 := by omega
                              obtain ⟨y4, hy4⟩ : ∃ z, Hid (y3 ++ (flN x.drop).map (fun f => [negL (fI f (t + 1)), negL (aI n q.n k t)]) = z) := ⟨_, rfl⟩
                              have HL3 : Hid (y3 ++ preF (fun f => [negL (fI f (t + 1)), negL (aI n q.n k t)]) x.drop v.n4 = y4) := by show _ = _; rw [preF_all _ (by have := HATW.out.i3.len; rw [some_fl, List.length_map] at this; omega), hy4.out]
                              rw [HL3.out] at HE HLN
                              have HE_L4 := HE
                              have HF_L4 := HF
                              have HK_L4 := HK
                              have HLN_L4 : Hid (y4.length ≤ 510 + 16 * k + 16) := by show _ ≤ _; have := HLN.out; omega
                              obtain ⟨wo, hwo⟩ : ∃ z : World, z = wr := ⟨_, rfl⟩
                              subst hwo
                              clear HL3 HE HF HK HLN
                              have HLL : Hid (y4 = ys ++ (List.range (k + 1)).flatMap (fun k => effA n q.n t (acAt al k) k)) := by show _ = _; rw [flat_succ, ← List.append_assoc, hy0.out, hxa.out, ← hy4.out, ← hy3.out, ← hy2.out, ← hy1.out]; unfold effA flN; simp only [List.append_assoc]
                              rw [HLL.out] at HE_L4 HLN_L4
                              have HLN5 : Hid ((ys ++ (List.range (k + 1)).flatMap (fun k => effA n q.n t (acAt al k) k)).length ≤ 510 + 16 * (k + 1)) := by show _ ≤ _; have := HLN_L4.out; omega
                              clear HLL
                              go_wp2_with fail
                              go_roundw
                              case rel => exact ⟨k + 1, by omega, by go_num, HE_L4, HF_L4, HLN5⟩
                              case measure => simp [intOf] <;> omega
            · have q1 : ¬ (k : Int) < (q.n : Int) := by omega
              obtain rfl : k = q.n := by omega
              obtain ⟨zs, hzs⟩ : ∃ zs, Hid (ys ++ (List.range q.n).flatMap (fun k => effA n q.n t (acAt al k) k) = zs) := ⟨_, rfl⟩
              rw [hzs.out] at HE HLN
              have HLZ : Hid (zs.length ≤ 560) := by show _ ≤ _; have := HLN.out; omega
              clear HLN
              obtain ⟨wo, hwo⟩ : ∃ z : World, z = wr := ⟨_, rfl⟩
              subst hwo
              obtain ⟨CE, nCE, cCE, hEE, _⟩ := HE.out.e
              have eE0 := hEE.cell 0
              have eE3 := hEE.cell 3
              have lE := hEE.lt
              simp at eE0 eE3
              clear hEE
              go_wp2_with fail
              go_loopw [162] (fun s162 wr => ∃ f : Nat, f ≤ 4 ∧ s162 = .int .i64 f ∧ Hid (EncSt w0 wr be q n vars (zs ++ (List.range f).flatMap (fun f => [riseA n al t f q.n, fallA n al t f q.n]))) ∧ Hid (FrT w wr) ∧ Hid ((zs ++ (List.range f).flatMap (fun f => [riseA n al t f q.n, fallA n al t f q.n])).length ≤ 560 + 2 * f)) (fun s _ => 4 - (intOf s).toNat)
              case atStart => exact ⟨0, Nat.zero_le _, rfl, by simpa using HE, HF, by have := HLZ.out; show _ ≤ _; simpa using this⟩
              case round =>
                clear eE0 eE3 lE HE HF HLZ
                obtain ⟨f, hf, rfl, HE, HF, HLN⟩ := hrel
                by_cases hlt9 : f < 4
                · have q0 : (f : Int) < 4 := by omega
                  obtain ⟨ws, hws⟩ : ∃ ws, Hid (zs ++ (List.range f).flatMap (fun f => [riseA n al t f q.n, fallA n al t f q.n]) = ws) := ⟨_, rfl⟩
                  rw [hws.out] at HE HLN
                  obtain ⟨wB, hwB⟩ : ∃ z : World, z = wr := ⟨_, rfl⟩
                  subst hwB
                  have HB : Hid (Below wB.heap.size wB wB) := Below.refl _ _
                  have HEx := Lib.hid (HE.out.keep HB.out)
                  obtain ⟨p1, hp1⟩ : ∃ p, Hid (posL (fI f (t)) = p) := ⟨_, rfl⟩
                  have hbp1 := posL_bd (fI_le (by omega : f < 4) (by omega : t ≤ 4))
                  rw [hp1.out] at hbp1
                  have hc := fact_any f (t) HEx.out (by omega) (by omega)
                  rw [hp1.out] at hc
                  clear HEx
                  go_wp2_with fail
                  refine hc.mono ?_
                  rintro e u1 ⟨rfl, mq, hmq⟩
                  have hbq : Below wB.heap.size wB u1 := by rw [hmq]; exact below_drewN _ _
                  have HB_1 := Lib.hid (below_next HB.out hbq)
                  clear hmq hbq hc HB 
                  have HEx := Lib.hid (HE.out.keep HB_1.out)
                  obtain ⟨p2, hp2⟩ : ∃ p, Hid (posL (fI f (t + 1)) = p) := ⟨_, rfl⟩
                  have hbp2 := posL_bd (fI_le (by omega : f < 4) (by omega : t + 1 ≤ 4))
                  rw [hp2.out] at hbp2
                  have hc := fact_any f (t + 1) HEx.out (by omega) (by omega)
                  rw [hp2.out] at hc
                  rw [show ((t + 1 : Nat) : Int) = (t : Int) + 1 from rfl] at hc
                  clear HEx
                  go_wp2_with fail
                  refine hc.mono ?_
                  rintro e u2 ⟨rfl, mq, hmq⟩
                  have hbq : Below u1.heap.size u1 u2 := by rw [hmq]; exact below_drewN _ _
                  have HB_2 := Lib.hid (below_next HB_1.out hbq)
                  clear hmq hbq hc HB_1 
                  obtain ⟨u3, hmu3⟩ : ∃ z : World, Hid (z = u2.alloc (.cells #[.int .i64 (p1), .int .i64 (-p2)] 3)) := ⟨_, rfl⟩
                  have hbq : Below u2.heap.size u2 u3 := by rw [hmu3.out]; exact below_new _ _
                  obtain ⟨bR, hbR⟩ : ∃ z : Nat, Hid (u2.heap.size = z) := ⟨_, rfl⟩
                  have HR_3 : Hid (Own 3 u3 wB.heap.size (some ⟨bR, 0, none⟩) 2 2 (([p1, -p2] : List Int).map (Value.int .i64))) := by show Own _ _ _ _ _ _ _; rw [hmu3.out]; exact own_new 3 u2 wB.heap.size [.int .i64 (p1), .int .i64 (-p2)] hbR.out.symm HB_2.out.size (by simp [maxLen])
                  have HB_3 := Lib.hid (below_next HB_2.out hbq)
                  clear hbq HB_2 
                  have HEx := Lib.hid (HE.out.keep HB_3.out)
                  obtain ⟨p3, hp3⟩ : ∃ p, Hid (posL (fI f (t)) = p) := ⟨_, rfl⟩
                  have hbp3 := posL_bd (fI_le (by omega : f < 4) (by omega : t ≤ 4))
                  rw [hp3.out] at hbp3
                  have hc := fact_any f (t) HEx.out (by omega) (by omega)
                  rw [hp3.out] at hc
                  clear HEx
                  go_wp2_with fail
                  rw [← hmu3.out]
                  try rw [hbR.out]
                  refine hc.mono ?_
                  rintro e u4 ⟨rfl, mq, hmq⟩
                  have hbq : Below u3.heap.size u3 u4 := by rw [hmq]; exact below_drewN _ _
                  have HB_4 := Lib.hid (below_next HB_3.out hbq)
                  have HR_4 := Lib.hid (HR_3.out.keep hbq)
                  clear hmq hbq hc HB_3 HR_3
                  have HEx := Lib.hid (HE.out.keep HB_4.out)
                  obtain ⟨p4, hp4⟩ : ∃ p, Hid (posL (fI f (t + 1)) = p) := ⟨_, rfl⟩
                  have hbp4 := posL_bd (fI_le (by omega : f < 4) (by omega : t + 1 ≤ 4))
                  rw [hp4.out] at hbp4
                  have hc := fact_any f (t + 1) HEx.out (by omega) (by omega)
                  rw [hp4.out] at hc
                  rw [show ((t + 1 : Nat) : Int) = (t : Int) + 1 from rfl] at hc
                  clear HEx
                  go_wp2_with fail
                  refine hc.mono ?_
                  rintro e u5 ⟨rfl, mq, hmq⟩
                  have hbq : Below u4.heap.size u4 u5 := by rw [hmq]; exact below_drewN _ _
                  have HB_5 := Lib.hid (below_next HB_4.out hbq)
                  have HR_5 := Lib.hid (HR_4.out.keep hbq)
                  clear hmq hbq hc HB_4 HR_4
                  have HEx := Lib.hid (HE.out.keep HB_5.out)
                  obtain ⟨CE, nCE, cCE, hEE, _⟩ := HEx.out.e
                  have eE0 := hEE.cell 0
                  have eE3 := hEE.cell 3
                  have lE := hEE.lt
                  simp at eE0 eE3
                  clear hEE
                  clear HEx
                  have HR_5L : Hid (bR < u5.heap.size) := (own_sz HR_5.out (k := bR) rfl).2
                  obtain ⟨u6, hmu6⟩ : ∃ z : World, Hid (z = u5.alloc (.cells #[.int .i64 (-p3), .int .i64 (p4)] 3)) := ⟨_, rfl⟩
                  have hbq : Below u5.heap.size u5 u6 := by rw [hmu6.out]; exact below_new _ _
                  obtain ⟨bQ, hbQ⟩ : ∃ z : Nat, Hid (u5.heap.size = z) := ⟨_, rfl⟩
                  have HQ_6 : Hid (Own 3 u6 wB.heap.size (some ⟨bQ, 0, none⟩) 2 2 (([-p3, p4] : List Int).map (Value.int .i64))) := by show Own _ _ _ _ _ _ _; rw [hmu6.out]; exact own_new 3 u5 wB.heap.size [.int .i64 (-p3), .int .i64 (p4)] hbQ.out.symm HB_5.out.size (by simp [maxLen])
                  have HB_6 := Lib.hid (below_next HB_5.out hbq)
                  have HR_6 := Lib.hid (HR_5.out.keep hbq)
                  clear hbq HB_5 HR_5
                  go_wp2_with fail
                  rw [← hmu6.out]
                  try rw [hbQ.out]
                  have hlRQ : bR < bQ := by rw [← hbQ.out]; have := HR_5L.out; exact this
                  obtain rfl : p3 = p1 := by rw [← hp3.out, ← hp1.out]
                  obtain rfl : p4 = p2 := by rw [← hp4.out, ← hp2.out]
                  have HRr : Hid ([p3, -p4] = riseA n al t f 0) := by show _ = _; unfold riseA; rw [← hp3.out, ← hp4.out]; simp; rfl
                  have HQr : Hid ([-p3, p4] = fallA n al t f 0) := by show _ = _; unfold fallA; rw [← hp3.out, ← hp4.out]; simp; rfl
                  rw [HRr.out] at HR_6
                  rw [HQr.out] at HQ_6
                  clear eE0 eE3 lE
                  go_loopw [20, 21, 193] (fun s20 s21 s193 wr => ∃ (k nR cR nQ cQ : Nat) (R Q : Option Addr), s20 = .slice R nR cR ∧ s21 = .slice Q nQ cQ ∧ s193 = .int .i64 k ∧ k ≤ q.n ∧ nR ≤ 2 + k ∧ nQ ≤ 2 + k ∧ Hid (Below wB.heap.size wB wr) ∧ Hid (Own 3 wr wB.heap.size R nR cR ((riseA n al t f k).map (Value.int .i64))) ∧ Hid (Own 3 wr wB.heap.size Q nQ cQ ((fallA n al t f k).map (Value.int .i64))) ∧ Hid (∀ j, blockOf R = some j → blockOf Q ≠ some j)) (fun _ _ s _ => q.n - (intOf s).toNat)
                  case atStart => exact ⟨0, 2, 2, 2, 2, _, _, rfl, rfl, rfl, Nat.zero_le _, by omega, by omega, HB_6, HR_6, HQ_6, fun j hj e => by cases hj; simp [blockOf] at e; omega⟩
                  case round =>
                    clear HB_6 HR_6 HQ_6 HRr HQr
                    obtain ⟨k, nR, cR, nQ, cQ, R, Q, rfl, rfl, rfl, hk, hnR, hnQ, HB, HR, HQ, HNE⟩ := hrel
                    by_cases hltk : k < q.n
                    · have hkal : k < al.length := by rw [hal.out]; exact hltk
                      have hka : al[k]? = some (acAt al k) := by unfold acAt; rw [List.getD_eq_getElem?_getD, List.getElem?_eq_getElem hkal]; rfl
                      obtain ⟨x, hxa⟩ : ∃ x, Hid (acAt al k = x) := ⟨_, rfl⟩
                      rw [hxa.out] at hka
                      obtain ⟨b2, v, hAe, hat0⟩ := H.out.acts.2 k x hka
                      have HATW := Lib.hid hat0
                      have hat := (hat0.keep HE.out.b).keep HB.out
                      have c0 := hat.k0
                      have c1 := hat.k1
                      have c2 := hat.k2
                      have c3 := hat.k3
                      have c4 := (cell_lt c0).1
                      have q2 : (0 : Int) ≤ (k : Int) := by omega
                      have q3 : (k : Int) < (q.n : Int) := by omega
                      rw [hAe]
                      clear hat hat0 hka hAe
                      go_wp2_with fail
                      obtain ⟨w7, hw7⟩ : ∃ z : World, z = wr.alloc (.cells #[.slice v.A1 v.n1 v.c1, .slice v.A2 v.n2 v.c2, .slice v.A3 v.n3 v.c3, .slice v.A4 v.n4 v.c4] 58) := ⟨_, rfl⟩
                      have hb7 : Below wr.heap.size wr w7 := by rw [hw7]; exact below_new _ _
                      have HK_7 : Hid (Blk w7 wr.heap.size 58 #[.slice v.A1 v.n1 v.c1, .slice v.A2 v.n2 v.c2, .slice v.A3 v.n3 v.c3, .slice v.A4 v.n4 v.c4]) := by rw [hw7]; exact Blk.new _ _ _
                      have HB_7 := Lib.hid (below_next HB.out hb7)
                      have HR_7 := Lib.hid (HR.out.keep hb7)
                      have HQ_7 := Lib.hid (HQ.out.keep hb7)
                      try rw [← hw7]
                      obtain ⟨bA, hbA⟩ : ∃ z : Nat, wr.heap.size = z := ⟨_, rfl⟩
                      have hbAB : wB.heap.size ≤ bA := by rw [← hbA]; exact HB.out.size
                      have HAR : Hid (∀ j, blockOf R = some j → j < bA) := fun j hj => by rw [← hbA]; exact (own_sz HR.out hj).2
                      have HAQ : Hid (∀ j, blockOf Q = some j → j < bA) := fun j hj => by rw [← hbA]; exact (own_sz HQ.out hj).2
                      rw [hbA] at HK_7
                      try rw [hbA]
                      clear hbA hw7 hb7 HB HR HQ c0 c1 c2 c3 c4
                      have ka2 := HK_7.out.cell 2
                      have kal := HK_7.out.lt
                      simp at ka2
                      obtain ⟨r1, hr1⟩ : ∃ r, Hid (hasB (someF x.add) (f : Int) = r) := ⟨_, rfl⟩
                      obtain ⟨r2, hr2⟩ : ∃ r, Hid (hasB (someF x.drop) (f : Int) = r) := ⟨_, rfl⟩
                      have HI2 := Lib.hid ((HATW.out.i2.keep HE.out.b).keep HB_7.out)
                      have hc := contains_ints v.A3 v.n3 v.c3 (someF x.add) (f : Int) w7 HI2.out r1 hr1
                      try go_wp2_with fail
                      refine hc.mono ?_
                      rintro e w8 ⟨rfl, mq, hmq⟩
                      have hbq : Below w7.heap.size w7 w8 := by rw [hmq]; exact below_drewN _ _
                      have HB_8 := Lib.hid (below_next HB_7.out hbq)
                      have HK_8 := Lib.hid (HK_7.out.keep hbq)
                      have HR_8 := Lib.hid (HR_7.out.keep hbq)
                      have HQ_8 := Lib.hid (HQ_7.out.keep hbq)
                      clear hmq hbq hc HB_7 HK_7 HR_7 HQ_7
                      clear HI2 ka2 kal
                      have hrs := riseA_succ n al t f k
                      have hfs := fallA_succ n al t f k
                      rw [hxa.out, hal.out] at hrs hfs
                      have e1 := has_some (z := x.add) hlt9
                      have e2 := has_some (z := x.drop) hlt9
                      rw [hr1.out] at e1
                      rw [hr2.out] at e2
                      rw [← e1] at hrs
                      rw [← e2] at hfs
                      clear e1 e2
                      cases r1
                      · have HRe : Hid (riseA n al t f k = riseA n al t f (k + 1)) := by show _ = _; rw [hrs]; simp
                        rw [HRe.out] at HR_8
                        clear hrs HRe
                        have ka3 := HK_8.out.cell 3
                        have kal := HK_8.out.lt
                        simp at ka3
                        have HI3 := Lib.hid ((HATW.out.i3.keep HE.out.b).keep HB_8.out)
                        have hc := contains_ints v.A4 v.n4 v.c4 (someF x.drop) (f : Int) w8 HI3.out r2 hr2
                        go_wp2_with fail
                        refine hc.mono ?_
                        rintro e v1 ⟨rfl, mq, hmq⟩
                        have hbq : Below w8.heap.size w8 v1 := by rw [hmq]; exact below_drewN _ _
                        have HB_9 := Lib.hid (below_next HB_8.out hbq)
                        have HK_9 := Lib.hid (HK_8.out.keep hbq)
                        have HR_9 := Lib.hid (HR_8.out.keep hbq)
                        have HQ_9 := Lib.hid (HQ_8.out.keep hbq)
                        clear hmq hbq hc HB_8 HK_8 HR_8 HQ_8
                        clear HI3 ka3 kal
                        cases r2
                        · have HQe : Hid (fallA n al t f k = fallA n al t f (k + 1)) := by show _ = _; rw [hfs]; simp
                          rw [HQe.out] at HQ_9
                          clear hfs HQe
                          go_wp2_with fail
                          go_roundw
                          case rel => exact ⟨k + 1, nR, cR, nQ, cQ, R, Q, rfl, rfl, by go_num, by omega, by omega, by omega, HB_9, HR_9, HQ_9, HNE⟩
                          case measure => simp [intOf] <;> omega
                        · have HEx := Lib.hid (HE.out.keep HB_9.out)
                          obtain ⟨pb, hpb⟩ : ∃ p, Hid (posL (aI n q.n k t) = p) := ⟨_, rfl⟩
                          have hbpb := posL_bd (aI_le hn hn3 (by omega : k ≤ 3) (by omega : t ≤ 3))
                          rw [hpb.out] at hbpb
                          have hc := act_any k t HEx.out (by omega) hn3 (by omega) (by omega)
                          rw [hpb.out] at hc
                          clear HEx
                          go_wp2_with fail
                          refine hc.mono ?_
                          rintro e v2 ⟨rfl, mq, hmq⟩
                          have hbq : Below v1.heap.size v1 v2 := by rw [hmq]; exact below_drewN _ _
                          have HB_10 := Lib.hid (below_next HB_9.out hbq)
                          have HK_10 := Lib.hid (HK_9.out.keep hbq)
                          have HR_10 := Lib.hid (HR_9.out.keep hbq)
                          have HQ_10 := Lib.hid (HQ_9.out.keep hbq)
                          clear hmq hbq hc HB_9 HK_9 HR_9 HQ_9
                          have HSZ : Hid (∀ j, blockOf R = some j → j < v2.heap.size) := fun j hj => (own_sz HR_10.out hj).2
                          have HSL := Lib.hid (sl_one v2 3 (.int .i64 pb) rfl)
                          have hb4 := below_new v2 (.cells #[.int .i64 pb] 3)
                          have HRn := Lib.hid (HR_10.out.keep hb4)
                          have HQn := Lib.hid (HQ_10.out.keep hb4)
                          have HKn := Lib.hid (HK_10.out.keep hb4)
                          have HBn := Lib.hid (below_next HB_10.out hb4)
                          have hsz := HB_10.out.size
                          have hfz := HK_10.out.lt
                          clear hb4 HR_10 HQ_10 HK_10 HB_10
                          go_wp2_with (first
                            | (at_builtin
                               refine wpList_append_sl _ rfl (.tmp 213) (.tmp 218) _ rfl wB.heap.size 3 i0 _ 8 Try.underlying22 hi0 hz0 hz1 hz2 rfl Q nQ cQ _ rfl HQn.out (some ⟨v2.heap.size, 0, none⟩) 1 1 _ rfl HSL.out (by simp [Value.oneCell']) (by simp only [maxLen]; omega) (by omega) (by simp; omega) ?_
                               intro L2 c2 v3 hL2 hg1 hat1
                               have HQ_11 : Hid (Own 3 v3 wB.heap.size L2 (nQ + 1) c2 (((fallA n al t f k) ++ [pb]).map (Value.int .i64))) := by show Own _ _ _ _ _ _ _; rw [List.map_append]; exact hL2
                               have HR_11 : Hid (Own 3 v3 wB.heap.size R nR cR ((riseA n al t f (k + 1)).map (Value.int .i64))) := HRn.out.kept hg1 (own_apart HRn.out (fun j h1 h2 => HNE.out j h1 h2))
                               have HK_11 := Lib.hid (HKn.out.grown hg1 (fun e9 => by have := HAQ.out bA e9.symm; omega))
                               have HB_11 : Hid (Below wB.heap.size wB v3) := HBn.out.grown hg1 HBn.out.size (fun z hz => (own_sz HQn.out hz).1)
                               have HAT2 : Hid (blockOf L2 = blockOf Q ∨ ∃ z, blockOf L2 = some z ∧ bA < z ∧ v2.heap.size ≤ z) := by
                                 rcases hat1 with h9 | h9
                                 · exact .inl h9
                                 · exact .inr ⟨_, h9, by simp; omega, by simp⟩
                               skip
                               skip
                               skip
                               clear hL2 hg1 hat1 hfz HRn HQn HKn HBn))
                          have HQe : Hid (fallA n al t f k ++ [pb] = fallA n al t f (k + 1)) := by show _ = _; rw [hfs, hpb.out]; simp
                          rw [HQe.out] at HQ_11
                          clear hfs HQe
                          have HNE3 : Hid (∀ j, blockOf R = some j → blockOf L2 ≠ some j) := fun j h1 h2 => by
                            rcases HAT2.out with h9 | ⟨z, h9, h10, h11⟩
                            · exact HNE.out j h1 (by rw [← h9]; exact h2)
                            · rw [h9] at h2; cases h2; exact (by have := HSZ.out _ h1; omega)
                          go_roundw
                          case rel => exact ⟨k + 1, nR, cR, nQ + 1, c2, R, L2, rfl, rfl, by go_num, by omega, by omega, by omega, HB_11, HR_11, HQ_11, HNE3⟩
                          case measure => simp [intOf] <;> omega
                      · have HEx := Lib.hid (HE.out.keep HB_8.out)
                        obtain ⟨pa, hpa⟩ : ∃ p, Hid (posL (aI n q.n k t) = p) := ⟨_, rfl⟩
                        have hbpa := posL_bd (aI_le hn hn3 (by omega : k ≤ 3) (by omega : t ≤ 3))
                        rw [hpa.out] at hbpa
                        have hc := act_any k t HEx.out (by omega) hn3 (by omega) (by omega)
                        rw [hpa.out] at hc
                        clear HEx
                        go_wp2_with fail
                        refine hc.mono ?_
                        rintro e w9 ⟨rfl, mq, hmq⟩
                        have hbq : Below w8.heap.size w8 w9 := by rw [hmq]; exact below_drewN _ _
                        have HB_8a := Lib.hid (below_next HB_8.out hbq)
                        have HK_8a := Lib.hid (HK_8.out.keep hbq)
                        have HR_8a := Lib.hid (HR_8.out.keep hbq)
                        have HQ_8a := Lib.hid (HQ_8.out.keep hbq)
                        clear hmq hbq hc HB_8 HK_8 HR_8 HQ_8
                        have HSL := Lib.hid (sl_one w9 3 (.int .i64 pa) rfl)
                        have hb4 := below_new w9 (.cells #[.int .i64 pa] 3)
                        have HRn := Lib.hid (HR_8a.out.keep hb4)
                        have HQn := Lib.hid (HQ_8a.out.keep hb4)
                        have HKn := Lib.hid (HK_8a.out.keep hb4)
                        have HBn := Lib.hid (below_next HB_8a.out hb4)
                        have hsz := HB_8a.out.size
                        have hfz := HK_8a.out.lt
                        clear hb4 HR_8a HQ_8a HK_8a HB_8a
                        go_wp2_with (first
                          | (at_builtin
                             refine wpList_append_sl _ rfl (.tmp 202) (.tmp 207) _ rfl wB.heap.size 3 i0 _ 8 Try.underlying22 hi0 hz0 hz1 hz2 rfl R nR cR _ rfl HRn.out (some ⟨w9.heap.size, 0, none⟩) 1 1 _ rfl HSL.out (by simp [Value.oneCell']) (by simp only [maxLen]; omega) (by omega) (by simp; omega) ?_
                             intro L1 c1 w10 hL1 hg1 hat1
                             have HR_8b : Hid (Own 3 w10 wB.heap.size L1 (nR + 1) c1 (((riseA n al t f k) ++ [pa]).map (Value.int .i64))) := by show Own _ _ _ _ _ _ _; rw [List.map_append]; exact hL1
                             have HQ_8b : Hid (Own 3 w10 wB.heap.size Q nQ cQ ((fallA n al t f k).map (Value.int .i64))) := HQn.out.kept hg1 (own_apart HQn.out (fun j h1 h2 => HNE.out j h2 h1))
                             have HK_8b := Lib.hid (HKn.out.grown hg1 (fun e9 => by have := HAR.out bA e9.symm; omega))
                             have HB_8b : Hid (Below wB.heap.size wB w10) := HBn.out.grown hg1 HBn.out.size (fun z hz => (own_sz HRn.out hz).1)
                             have HAT1 : Hid (blockOf L1 = blockOf R ∨ ∃ z, blockOf L1 = some z ∧ bA < z ∧ w9.heap.size ≤ z) := by
                               rcases hat1 with h9 | h9
                               · exact .inl h9
                               · exact .inr ⟨_, h9, by simp; omega, by simp⟩
                             have ka3 := HK_8b.out.cell 3
                             have kal := HK_8b.out.lt
                             simp at ka3
                             clear hL1 hg1 hat1 hfz HRn HQn HKn HBn))
                        have HRe : Hid (riseA n al t f k ++ [pa] = riseA n al t f (k + 1)) := by show _ = _; rw [hrs, hpa.out]; simp
                        rw [HRe.out] at HR_8b
                        clear hrs HRe
                        have HNE2 : Hid (∀ j, blockOf L1 = some j → blockOf Q ≠ some j) := fun j h1 h2 => by
                          rcases HAT1.out with h9 | ⟨z, h9, h10, h11⟩
                          · exact HNE.out j (by rw [← h9]; exact h1) h2
                          · rw [h9] at h1; cases h1; have := HAQ.out j h2; omega
                        have HI3 := Lib.hid ((HATW.out.i3.keep HE.out.b).keep HB_8b.out)
                        have hc := contains_ints v.A4 v.n4 v.c4 (someF x.drop) (f : Int) w10 HI3.out r2 hr2
                        skip
                        refine hc.mono ?_
                        rintro e v1 ⟨rfl, mq, hmq⟩
                        have hbq : Below w10.heap.size w10 v1 := by rw [hmq]; exact below_drewN _ _
                        have HB_9 := Lib.hid (below_next HB_8b.out hbq)
                        have HK_9 := Lib.hid (HK_8b.out.keep hbq)
                        have HR_9 := Lib.hid (HR_8b.out.keep hbq)
                        have HQ_9 := Lib.hid (HQ_8b.out.keep hbq)
                        clear hmq hbq hc HB_8b HK_8b HR_8b HQ_8b
                        clear HI3 ka3 kal
                        cases r2
                        · have HQe : Hid (fallA n al t f k = fallA n al t f (k + 1)) := by show _ = _; rw [hfs]; simp
                          rw [HQe.out] at HQ_9
                          clear hfs HQe
                          go_wp2_with fail
                          go_roundw
                          case rel => exact ⟨k + 1, (nR + 1), c1, nQ, cQ, L1, Q, rfl, rfl, by go_num, by omega, by omega, by omega, HB_9, HR_9, HQ_9, HNE2⟩
                          case measure => simp [intOf] <;> omega
                        · have HEx := Lib.hid (HE.out.keep HB_9.out)
                          obtain ⟨pb, hpb⟩ : ∃ p, Hid (posL (aI n q.n k t) = p) := ⟨_, rfl⟩
                          have hbpb := posL_bd (aI_le hn hn3 (by omega : k ≤ 3) (by omega : t ≤ 3))
                          rw [hpb.out] at hbpb
                          have hc := act_any k t HEx.out (by omega) hn3 (by omega) (by omega)
                          rw [hpb.out] at hc
                          clear HEx
                          go_wp2_with fail
                          refine hc.mono ?_
                          rintro e v2 ⟨rfl, mq, hmq⟩
                          have hbq : Below v1.heap.size v1 v2 := by rw [hmq]; exact below_drewN _ _
                          have HB_10 := Lib.hid (below_next HB_9.out hbq)
                          have HK_10 := Lib.hid (HK_9.out.keep hbq)
                          have HR_10 := Lib.hid (HR_9.out.keep hbq)
                          have HQ_10 := Lib.hid (HQ_9.out.keep hbq)
                          clear hmq hbq hc HB_9 HK_9 HR_9 HQ_9
                          have HSZ : Hid (∀ j, blockOf L1 = some j → j < v2.heap.size) := fun j hj => (own_sz HR_10.out hj).2
                          have HSL := Lib.hid (sl_one v2 3 (.int .i64 pb) rfl)
                          have hb4 := below_new v2 (.cells #[.int .i64 pb] 3)
                          have HRn := Lib.hid (HR_10.out.keep hb4)
                          have HQn := Lib.hid (HQ_10.out.keep hb4)
                          have HKn := Lib.hid (HK_10.out.keep hb4)
                          have HBn := Lib.hid (below_next HB_10.out hb4)
                          have hsz := HB_10.out.size
                          have hfz := HK_10.out.lt
                          clear hb4 HR_10 HQ_10 HK_10 HB_10
                          go_wp2_with (first
                            | (at_builtin
                               refine wpList_append_sl _ rfl (.tmp 213) (.tmp 218) _ rfl wB.heap.size 3 i0 _ 8 Try.underlying22 hi0 hz0 hz1 hz2 rfl Q nQ cQ _ rfl HQn.out (some ⟨v2.heap.size, 0, none⟩) 1 1 _ rfl HSL.out (by simp [Value.oneCell']) (by simp only [maxLen]; omega) (by omega) (by simp; omega) ?_
                               intro L2 c2 v3 hL2 hg1 hat1
                               have HQ_11 : Hid (Own 3 v3 wB.heap.size L2 (nQ + 1) c2 (((fallA n al t f k) ++ [pb]).map (Value.int .i64))) := by show Own _ _ _ _ _ _ _; rw [List.map_append]; exact hL2
                               have HR_11 : Hid (Own 3 v3 wB.heap.size L1 (nR + 1) c1 ((riseA n al t f (k + 1)).map (Value.int .i64))) := HRn.out.kept hg1 (own_apart HRn.out (fun j h1 h2 => HNE2.out j h1 h2))
                               have HK_11 := Lib.hid (HKn.out.grown hg1 (fun e9 => by have := HAQ.out bA e9.symm; omega))
                               have HB_11 : Hid (Below wB.heap.size wB v3) := HBn.out.grown hg1 HBn.out.size (fun z hz => (own_sz HQn.out hz).1)
                               have HAT2 : Hid (blockOf L2 = blockOf Q ∨ ∃ z, blockOf L2 = some z ∧ bA < z ∧ v2.heap.size ≤ z) := by
                                 rcases hat1 with h9 | h9
                                 · exact .inl h9
                                 · exact .inr ⟨_, h9, by simp; omega, by simp⟩
                               skip
                               skip
                               skip
                               clear hL2 hg1 hat1 hfz HRn HQn HKn HBn))
                          have HQe : Hid (fallA n al t f k ++ [pb] = fallA n al t f (k + 1)) := by show _ = _; rw [hfs, hpb.out]; simp
                          rw [HQe.out] at HQ_11
                          clear hfs HQe
                          have HNE3 : Hid (∀ j, blockOf L1 = some j → blockOf L2 ≠ some j) := fun j h1 h2 => by
                            rcases HAT2.out with h9 | ⟨z, h9, h10, h11⟩
                            · exact HNE2.out j h1 (by rw [← h9]; exact h2)
                            · rw [h9] at h2; cases h2; exact (by have := HSZ.out _ h1; omega)
                          go_roundw
                          case rel => exact ⟨k + 1, (nR + 1), c1, nQ + 1, c2, L1, L2, rfl, rfl, by go_num, by omega, by omega, by omega, HB_11, HR_11, HQ_11, HNE3⟩
                          case measure => simp [intOf] <;> omega
                    · have q3 : ¬ (k : Int) < (q.n : Int) := by omega
                      obtain rfl : k = q.n := by omega
                      have HEz := Lib.hid (HE.out.keep HB.out)
                      have HFz := Lib.hid (HF.out.trans (FrT.of HB.out))
                      have hrb : ∀ z ∈ riseA n al t f q.n, I64 z := fun z hz => by
                        unfold riseA at hz
                        rcases List.mem_append.1 hz with hz | hz
                        · have h1 := fI_le (f := f) (t := t) hlt9 (by omega)
                          have h2 := fI_le (f := f) (t := t + 1) hlt9 (by omega)
                          simp at hz
                          rcases hz with rfl | rfl <;> simp [posL, negL, I64] <;> omega
                        · obtain ⟨a, ha, rfl⟩ := List.mem_map.1 hz
                          have h0 := List.mem_range.1 (List.mem_filter.1 ha).1
                          have := posL_bd (aI_le (n := n) (A := al.length) (a := a) (t := t) hn (by rw [hal.out]; exact hn3) (by omega) ht3)
                          unfold I64; omega
                      have hfb : ∀ z ∈ fallA n al t f q.n, I64 z := fun z hz => by
                        unfold fallA at hz
                        rcases List.mem_append.1 hz with hz | hz
                        · have h1 := fI_le (f := f) (t := t) hlt9 (by omega)
                          have h2 := fI_le (f := f) (t := t + 1) hlt9 (by omega)
                          simp at hz
                          rcases hz with rfl | rfl <;> simp [posL, negL, I64] <;> omega
                        · obtain ⟨a, ha, rfl⟩ := List.mem_map.1 hz
                          have h0 := List.mem_range.1 (List.mem_filter.1 ha).1
                          have := posL_bd (aI_le (n := n) (A := al.length) (a := a) (t := t) hn (by rw [hal.out]; exact hn3) (by omega) ht3)
                          unfold I64; omega
                      have HFB := Lib.hid hfb
                      have HIr := Lib.hid (HR.out.ints hrb)
                      clear hrb hfb HR HB HNE
                      go_wp2_with fail
                      refine (addE_any R nR cR _ HEz.out HIr.out (by omega) (by have := HLN.out; omega)).mono ?_
                      rintro e v1 ⟨rfl, hE2, hF2⟩
                      have HE2 := Lib.hid hE2
                      have HF2 := Lib.hid (HFz.out.trans hF2)
                      have HQ2 := Lib.hid (HQ.out.fr hF2)
                      have HIq := Lib.hid (HQ2.out.ints HFB.out)
                      clear hE2 hF2 HEz HFz HIr HQ HQ2 HFB
                      go_wp2_with fail
                      refine (addE_any Q nQ cQ _ HE2.out HIq.out (by omega) (by rw [List.length_append]; have := HLN.out; simp; omega)).mono ?_
                      rintro e v2 ⟨rfl, hE3, hF3⟩
                      have HE3 := Lib.hid hE3
                      have HF3 := Lib.hid (HF2.out.trans hF3)
                      clear hE3 hF3 HE2 HF2 HIq
                      have HLL : Hid (ws ++ [riseA n al t f q.n] ++ [fallA n al t f q.n] = zs ++ (List.range (f + 1)).flatMap (fun f => [riseA n al t f q.n, fallA n al t f q.n])) := by show _ = _; rw [flat_succ, ← List.append_assoc, hws.out]; simp
                      rw [HLL.out] at HE3
                      have HLN3 : Hid ((zs ++ (List.range (f + 1)).flatMap (fun f => [riseA n al t f q.n, fallA n al t f q.n])).length ≤ 560 + 2 * (f + 1)) := by show _ ≤ _; rw [← HLL.out, List.length_append, List.length_append]; have := HLN.out; simp; omega
                      clear HLL
                      go_wp2_with fail
                      go_roundw
                      case rel => exact ⟨f + 1, by omega, by go_num, HE3, HF3, HLN3⟩
                      case measure => simp [intOf] <;> omega
                · have q0 : ¬ (f : Int) < 4 := by omega
                  obtain rfl : f = 4 := by omega
                  have HLL : Hid (zs ++ (List.range 4).flatMap (fun f => [riseA n al t f q.n, fallA n al t f q.n]) = xss ++ timeF n al t) := by
                    show _ = _
                    rw [← hzs.out, ← hys.out]
                    unfold timeF
                    rw [hal.out]
                    simp only [List.append_assoc]
                    rfl
                  rw [HLL.out] at HE
                  clear HLL
                  go_wp2_with fail
                  go_end0
                  exact ⟨rfl, HE.out, HF.out⟩
end Go.Proofs.Ytlfgcblijfflfaa

/- Contracts of steps' check and Do. (Printed by wip/tools/stepsdo.py.) -/
namespace Go.Proofs.Ytlfgcblijfflfaa
open Go.RowKit
set_option linter.unusedSimpArgs false
set_option linter.unusedVariables false

def RetChk (q : Qv) (n : Nat) (w : World) (e : Ending) (w' : World) : Prop := ∃ be, e = .returned (.tuple #[.pointer (some ⟨be, 0, none⟩), .agg #[.int .i64 0, .int .i64 0]]) ∧ EncSt w w' be q n 0 []
set_option maxHeartbeats 4000000 in
set_option maxRecDepth 100000 in
theorem check_any {f0 g : Nat} {al : List Ac} {w : World} (q : Qv) (n : Nat) (h : QstR w q f0 g al) (hn : n ≤ 3) : Calls Try.prog 21 #[.agg #[.int .i64 4, .slice q.F q.nF q.cF, .slice q.G q.nG q.cG, .slice q.A q.n q.c], .int .i64 (n : Int)] w (RetChk q n w) := by
  have H := Lib.hid h
  have hn3 := h.n3
  obtain ⟨w0, hw0⟩ : ∃ z : World, Hid (z = (w.alloc (.cells #[.int .i64 4, .slice q.F q.nF q.cF, .slice q.G q.nG q.cG, .slice q.A q.n q.c] 25)).alloc (.cells #[.int .i64 0, .int .i64 0] 28)) := ⟨_, rfl⟩
  have hb0 : Below w.heap.size w w0 := by rw [hw0.out]; exact below_alloc (below_new _ _) _
  have HK : Hid (Blk w0 w.heap.size 25 #[.int .i64 4, .slice q.F q.nF q.cF, .slice q.G q.nG q.cG, .slice q.A q.n q.c]) := by rw [Hid, hw0.out]; exact (Blk.new _ _ _).alloc _
  have HF : Hid (Blk w0 (w.heap.size + 1) 28 #[.int .i64 0, .int .i64 0]) := by rw [hw0.out]; have := Blk.new (w.alloc (.cells #[.int .i64 4, .slice q.F q.nF q.cF, .slice q.G q.nG q.cG, .slice q.A q.n q.c] 25)) 28 #[.int .i64 0, .int .i64 0]; simpa [Hid] using this
  have HB := Lib.hid hb0
  have HQ := Lib.hid (h.keep hb0)
  have k0 := HK.out.cell 0
  have k1 := HK.out.cell 1
  have k2 := HK.out.cell 2
  have k3 := HK.out.cell 3
  have kl := HK.out.lt
  simp at k0 k1 k2 k3
  have d1 : decide ((n : Int) < 0) = false := decide_eq_false (by omega)
  have d2 : decide ((20 : Int) < (n : Int)) = false := decide_eq_false (by omega)
  clear h hb0
  go_enter Try.func21, Try.ntmps21
  go_wp2_with fail
  rw [← hw0.out]
  refine (chk_quest q f0 g al w0 HQ.out).mono ?_
  rintro e w1 ⟨rfl, hb1⟩
  have HK1 := Lib.hid (HK.out.keep hb1)
  have HF1 := Lib.hid (HF.out.keep hb1)
  have HB1 := Lib.hid (below_next HB.out hb1)
  clear hb1 HK HF HB HQ k0 k1 k2 k3 kl
  have k0 := HK1.out.cell 0
  have k1 := HK1.out.cell 1
  have k2 := HK1.out.cell 2
  have k3 := HK1.out.cell 3
  have kl := HK1.out.lt
  simp at k0 k1 k2 k3
  obtain ⟨wy, hwy⟩ : ∃ z : World, Hid (z = (w1.alloc (.cells #[.int .i64 0, .int .i64 0] 28)).alloc (.cells #[.int .i64 4, .slice q.F q.nF q.cF, .slice q.G q.nG q.cG, .slice q.A q.n q.c, .int .i64 (n : Int), .int .i64 0, .slice none 0 0] 74)) := ⟨_, rfl⟩
  have hby : Below w1.heap.size w1 wy := by rw [hwy.out]; exact below_alloc (below_new _ _) _
  have hEN : Blk wy (w1.heap.size + 1) 74 #[.int .i64 4, .slice q.F q.nF q.cF, .slice q.G q.nG q.cG, .slice q.A q.n q.c, .int .i64 (n : Int), .int .i64 0, .slice none 0 0] := by rw [hwy.out]; have := Blk.new (w1.alloc (.cells #[.int .i64 0, .int .i64 0] 28)) 74 #[.int .i64 4, .slice q.F q.nF q.cF, .slice q.G q.nG q.cG, .slice q.A q.n q.c, .int .i64 (n : Int), .int .i64 0, .slice none 0 0]; simpa using this
  obtain ⟨be, hbe⟩ : ∃ z : Nat, Hid (w1.heap.size + 1 = z) := ⟨_, rfl⟩
  rw [hbe.out] at hEN
  have HF2 := Lib.hid (HF1.out.keep hby)
  have HE : Hid (EncSt w wy be q n 0 []) := ⟨below_next HB1.out hby, by rw [← hbe.out]; have := HB1.out.size; omega, none, 0, 0, hEN, OwnP.nil _ _ _ _ _⟩
  clear hEN hby HK1 HF1 HB1
  go_wp2_with fail
  try rw [← hwy.out]
  try rw [hbe.out]
  have hc := vars_any HE.out (by omega) hn3
  obtain ⟨V, hV⟩ : ∃ V : Nat, (n + 1) * 4 + n * q.n = V := ⟨_, rfl⟩
  have hVb : V ≤ 25 := by
    have : n * q.n ≤ 3 * 3 := Nat.mul_le_mul hn hn3
    omega
  rw [hV] at hc
  have d3 : decide ((120 : Int) < (V : Int)) = false := decide_eq_false (by omega)
  refine hc.mono ?_
  rintro e w2 ⟨rfl, mq, hmq⟩
  have hb2 : Below wy.heap.size wy w2 := by rw [hmq]; exact below_drewN _ _
  have HE2 := Lib.hid (HE.out.keep hb2)
  have HF3 := Lib.hid (HF2.out.keep hb2)
  clear hmq hb2 HE HF2 hc hV k0 k1 k2 k3 kl
  have e0 := HF3.out.cell 0
  have e1 := HF3.out.cell 1
  have g0 := HF3.out.frozen 0
  have g1 := HF3.out.frozen 1
  simp at e0 e1
  have le := HF3.out.lt
  have hid : (w2.setCell ⟨w.heap.size + 1, 0, none⟩ (.int .i64 0)).setCell ⟨w.heap.size + 1, 1, none⟩ (.int .i64 0) = w2 := by rw [setCell_id HF3.out (i := 0) (v := .int .i64 0) rfl, setCell_id HF3.out (i := 1) (v := .int .i64 0) rfl]
  have HID := Lib.hid hid
  clear hid
  go_wp2_with fail
  exact bodyPost_ret (v := .tuple #[.pointer (some ⟨be, 0, none⟩), .agg #[.int .i64 0, .int .i64 0]]) (by simp [results, Try.results21, go_sem, e0, e1, le]) rfl ⟨be, rfl, by rw [HID.out]; exact HE2.out⟩

theorem effA_len (n A t : Nat) (x : Ac) (a : Nat) : (effA n A t x a).length ≤ 16 := by
  unfold effA
  have h := fun z : Nat => fl_len z
  unfold flN at h
  have h1 := h x.need
  have h2 := h x.bar
  have h3 := h x.add
  have h4 := h x.drop
  simp only [List.length_append, List.length_map]
  omega
theorem flat_le {f : Nat → List (List Int)} {K : Nat} (h : ∀ a, (f a).length ≤ K) : ∀ n, ((List.range n).flatMap f).length ≤ K * n
  | 0 => by simp
  | n + 1 => by
    rw [flat_succ, List.length_append]
    have := flat_le h n
    have := h n
    rw [Nat.mul_succ]
    omega
theorem exA_flat (n A t : Nat) (h : A ≤ 3) : ((List.range A).flatMap (exA n A t)).length ≤ 3 := by
  have hc : A = 0 ∨ A = 1 ∨ A = 2 ∨ A = 3 := by omega
  rcases hc with rfl | rfl | rfl | rfl <;> simp [exA, List.range_succ]
theorem time_len (n t : Nat) {al : List Ac} (h : al.length ≤ 3) : (timeF n al t).length ≤ 60 := by
  unfold timeF
  have h1 := exA_flat n al.length t h
  have h2 := flat_le (f := fun a => effA n al.length t (acAt al a) a) (K := 16) (fun a => effA_len _ _ _ _ _) al.length
  have h3 := flat_le (f := fun f => [riseA n al t f al.length, fallA n al t f al.length]) (K := 2) (fun a => by simp) 4
  simp only [List.length_append]
  have h4 : 16 * al.length ≤ 48 := by omega
  simp only [List.length_cons, List.length_nil] at *
  omega
def RetSteps (n : Nat) (al : List Ac) (f0 g : Nat) (w : World) (e : Ending) (w' : World) : Prop := ∃ K nk ck, e = .returned (.tuple #[.agg #[.int .i64 (((n + 1) * 4 + n * al.length : Nat) : Int), .slice K nk ck], .agg #[.int .i64 0, .int .i64 0]]) ∧ OwnP 22 3 w' w.heap.size 0 K nk ck (stepsF n al f0 g) ∧ nk ≤ 200 ∧ Below w.heap.size w w'
theorem firstF_succ (f0 k : Nat) : firstF f0 (k + 1) = firstF f0 k ++ [[if f0.testBit k = true then posL (fI k 0) else negL (fI k 0)]] := by unfold firstF; rw [List.range_succ, List.map_append]; rfl
theorem firstF_len (f0 k : Nat) : (firstF f0 k).length = k := by simp [firstF]
theorem ownP_set {w : World} {base n c b i : Nat} {t : TypeId} {cs : Array Value} {A : Option Addr} {xss : List (List Int)} (h : OwnP 22 3 w base 0 A n c xss) (hb : Blk w b t cs) (v : Value) (n1 : 22 ≠ t) (n2 : (3 : TypeId) ≠ t) : OwnP 22 3 (w.setCell ⟨b, i, none⟩ v) base 0 A n c xss :=
  ownP_kE h (grown_setCell w ⟨b, i, none⟩ v) (fun k hk => by cases hk; exact ⟨Nat.zero_le _, Typed.of_blk hb⟩) n1 n2

set_option maxHeartbeats 8000000 in
set_option maxRecDepth 100000 in
theorem steps_any {f0 g : Nat} {al : List Ac} {w : World} (q : Qv) (n : Nat) (h : QstR w q f0 g al) (hn : n ≤ 3) : Calls Try.prog 10 #[.agg #[.int .i64 4, .slice q.F q.nF q.cF, .slice q.G q.nG q.cG, .slice q.A q.n q.c], .int .i64 (n : Int)] w (RetSteps n al f0 g w) := by
  have hn3 := h.n3
  have hf16 := h.f16
  have hg16 := h.g16
  have hal : Hid (al.length = q.n) := h.acts.1
  have hnG : q.nG ≤ 4 := by rw [← h.iG.len]; exact someI_len g 4
  obtain ⟨wA, hwA⟩ : ∃ z : World, Hid (z = (((w.alloc (.cells #[.int .i64 4, .slice q.F q.nF q.cF, .slice q.G q.nG q.cG, .slice q.A q.n q.c] 25)).alloc (.cells #[.int .i64 0, .slice none 0 0] 40)).alloc (.cells #[.int .i64 0, .int .i64 0] 28))) := ⟨_, rfl⟩
  have hb0 : Below w.heap.size w wA := by rw [hwA.out]; exact below_alloc (below_alloc (below_new _ _) _) _
  have HK : Hid (Blk wA w.heap.size 25 #[.int .i64 4, .slice q.F q.nF q.cF, .slice q.G q.nG q.cG, .slice q.A q.n q.c]) := by rw [Hid, hwA.out]; exact ((Blk.new _ _ _).alloc _).alloc _
  have H4 : Hid (Blk wA (w.heap.size + 1) 40 #[.int .i64 0, .slice none 0 0]) := by
    have h9 := (Blk.new (w.alloc (.cells #[.int .i64 4, .slice q.F q.nF q.cF, .slice q.G q.nG q.cG, .slice q.A q.n q.c] 25)) 40 #[.int .i64 0, .slice none 0 0]).alloc (.cells #[.int .i64 0, .int .i64 0] 28)
    rw [show (w.alloc (.cells #[.int .i64 4, .slice q.F q.nF q.cF, .slice q.G q.nG q.cG, .slice q.A q.n q.c] 25)).heap.size = w.heap.size + 1 by simp] at h9
    rw [hwA.out]; exact h9
  have H5 : Hid (Blk wA (w.heap.size + 2) 28 #[.int .i64 0, .int .i64 0]) := by
    have h9 := Blk.new ((w.alloc (.cells #[.int .i64 4, .slice q.F q.nF q.cF, .slice q.G q.nG q.cG, .slice q.A q.n q.c] 25)).alloc (.cells #[.int .i64 0, .slice none 0 0] 40)) 28 #[.int .i64 0, .int .i64 0]
    rw [show ((w.alloc (.cells #[.int .i64 4, .slice q.F q.nF q.cF, .slice q.G q.nG q.cG, .slice q.A q.n q.c] 25)).alloc (.cells #[.int .i64 0, .slice none 0 0] 40)).heap.size = w.heap.size + 2 by simp] at h9
    rw [hwA.out]; exact h9
  have HB := Lib.hid hb0
  have HQ := Lib.hid (h.keep hb0)
  have k0 := HK.out.cell 0
  have k1 := HK.out.cell 1
  have k2 := HK.out.cell 2
  have k3 := HK.out.cell 3
  have kl := HK.out.lt
  simp at k0 k1 k2 k3
  clear h hb0
  go_enter Try.func10, Try.ntmps10
  go_wp2_with fail
  rw [← hwA.out]
  refine (check_any q n HQ.out hn).mono ?_
  rintro e w1 ⟨be, rfl, hE1⟩
  have hFB := hE1.b
  have HE1 := Lib.hid hE1
  have HK1 := Lib.hid (HK.out.keep hFB)
  have H41 := Lib.hid (H4.out.keep hFB)
  have H51 := Lib.hid (H5.out.keep hFB)
  clear hE1 hFB HK H4 H5 k0 k1 k2 k3 kl
  go_wp2_with fail
  obtain ⟨w2, hw2⟩ : ∃ z : World, z = w1.alloc (.cells #[.int .i64 0, .int .i64 0] 28) := ⟨_, rfl⟩
  have hb2 : Below w1.heap.size w1 w2 := by rw [hw2]; exact below_new _ _
  have HE2 := Lib.hid (HE1.out.keep hb2)
  have HK2 := Lib.hid (HK1.out.keep hb2)
  have H42 := Lib.hid (H41.out.keep hb2)
  have H52 := Lib.hid (H51.out.keep hb2)
  rw [← hw2]
  clear hw2 hb2 HE1 HK1 H41 H51
  have hc := vars_any HE2.out (by omega) hn3
  obtain ⟨V, hV⟩ : ∃ V : Nat, Hid ((n + 1) * 4 + n * q.n = V) := ⟨_, rfl⟩
  rw [hV.out] at hc
  try go_wp2_with fail
  refine hc.mono ?_
  rintro e w3 ⟨rfl, mq, hmq⟩
  have hb3 : Below w2.heap.size w2 w3 := by rw [hmq]; exact below_drewN _ _
  have HE3 := Lib.hid (HE2.out.keep hb3)
  have HK3 := Lib.hid (HK2.out.keep hb3)
  have H43 := Lib.hid (H42.out.keep hb3)
  have H53 := Lib.hid (H52.out.keep hb3)
  clear hmq hb3 hc HE2 HK2 H42 H52
  obtain ⟨C, nC, cC, hE, hC⟩ := HE3.out.e
  have fz5 := hE.frozen 5
  have c5 := hE.cell 5
  have l5 := hE.lt
  simp at c5
  have hb_be := HE3.out.lo
  have hbs := HK3.out.lt
  have hEs : EncSt wA (w3.setCell ⟨be, 5, none⟩ (.int .i64 (V : Int))) be q n (V : Int) [] := by
    refine ⟨HE3.out.b.setCell (p := ⟨be, 5, none⟩) hb_be _, hb_be, C, nC, cC, ?_, ownP_set hC hE _ (by decide) (by decide)⟩
    have := hE.set_ 5 (.int .i64 (V : Int))
    simpa using this
  have hfr : FrT w3 (w3.setCell ⟨be, 5, none⟩ (.int .i64 (V : Int))) := FrT.grown (grown_setCell w3 ⟨be, 5, none⟩ _) (fun k hk => by cases hk; exact .inl (Typed.of_blk hE))
  obtain ⟨w4, hw4⟩ : ∃ z : World, Hid (z = w3.setCell ⟨be, 5, none⟩ (.int .i64 (V : Int))) := ⟨_, rfl⟩
  rw [← hw4.out] at hEs hfr
  have HE4 := Lib.hid hEs
  have HK4 := Lib.hid (HK3.out.fr hfr (by decide) (by decide))
  have H44 := Lib.hid (H43.out.fr hfr (by decide) (by decide))
  have H54 := Lib.hid (H53.out.fr hfr (by decide) (by decide))
  have hneK : w.heap.size ≠ be := fun e9 => absurd (typed_uniq HK3.out (e9 ▸ Typed.of_blk hE)) (by decide)
  clear hE hC hEs hfr HE3 H43 H53
  have k0 := HK3.out.cell 0
  have kl := HK3.out.lt
  simp at k0
  go_wp2_with fail
  rw [← hw4.out]
  clear k0 kl fz5 c5 l5 HK3 hneK
  go_loopw [31] (fun s wr => ∃ k : Nat, k ≤ 4 ∧ s = .int .i64 k ∧ Hid (EncSt wA wr be q n (V : Int) (firstF f0 k)) ∧ Hid (Blk wr w.heap.size 25 #[.int .i64 4, .slice q.F q.nF q.cF, .slice q.G q.nG q.cG, .slice q.A q.n q.c]) ∧ Hid (Blk wr (w.heap.size + 1) 40 #[.int .i64 0, .slice none 0 0]) ∧ Hid (Blk wr (w.heap.size + 2) 28 #[.int .i64 0, .int .i64 0])) (fun s _ => 4 - (intOf s).toNat)
  case atStart => exact ⟨0, Nat.zero_le _, rfl, HE4, HK4, H44, H54⟩
  case round =>
    clear HE4 HK4 H44 H54
    obtain ⟨k, hk, rfl, HE, HK, H4, H5⟩ := hrel
    by_cases hlt : k < 4
    · have q0 : (k : Int) < 4 := by omega
      have k1 := HK.out.cell 1
      have kl := HK.out.lt
      simp at k1
      have HI := Lib.hid (HQ.out.iF.keep HE.out.b)
      obtain ⟨r, hr⟩ : ∃ r, Hid (hasB (someF f0) (k : Int) = r) := ⟨_, rfl⟩
      have er := has_some (z := f0) hlt
      rw [hr.out] at er
      have hfs := firstF_succ f0 k
      rw [← er] at hfs
      have hfl := firstF_len f0 k
      have hc := contains_ints q.F q.nF q.cF (someF f0) (k : Int) wr HI.out r hr
      clear er
      go_wp2_with fail
      refine hc.mono ?_
      rintro e u1 ⟨rfl, mq, hmq⟩
      have hbq : Below wr.heap.size wr u1 := by rw [hmq]; exact below_drewN _ _
      have HE_1 := Lib.hid (HE.out.keep hbq)
      have HK_1 := Lib.hid (HK.out.keep hbq)
      have H4_1 := Lib.hid (H4.out.keep hbq)
      have H5_1 := Lib.hid (H5.out.keep hbq)
      clear hbq HE HK H4 H5
      clear hmq hc
      clear HI k1 kl
      obtain ⟨p, hp⟩ : ∃ p, Hid (posL (fI k 0) = p) := ⟨_, rfl⟩
      have hbp := posL_bd (fI_le (f := k) (t := 0) hlt (by omega))
      rw [hp.out] at hbp
      have hc := fact_any k 0 HE_1.out hlt (by omega)
      rw [hp.out] at hc
      cases r
      · go_wp2_with fail
        refine hc.mono ?_
        rintro e u2 ⟨rfl, mq, hmq⟩
        have hbq : Below u1.heap.size u1 u2 := by rw [hmq]; exact below_drewN _ _
        have HE_2 := Lib.hid (HE_1.out.keep hbq)
        have HK_2 := Lib.hid (HK_1.out.keep hbq)
        have H4_2 := Lib.hid (H4_1.out.keep hbq)
        have H5_2 := Lib.hid (H5_1.out.keep hbq)
        clear hbq HE_1 HK_1 H4_1 H5_1
        clear hmq hc
        have HM : Hid (Ints (u2.alloc (.cells #[.int .i64 (-p)] 3)) (some ⟨u2.heap.size, 0, none⟩) 1 1 [-p]) := ints_made u2 3 [-p] rfl (by simp [I64]; omega) (by simp [maxLen])
        have hbn := below_new u2 (.cells #[.int .i64 (-p)] 3)
        have HEn := Lib.hid (HE_2.out.keep hbn)
        have HKn := Lib.hid (HK_2.out.keep hbn)
        have H4n := Lib.hid (H4_2.out.keep hbn)
        have H5n := Lib.hid (H5_2.out.keep hbn)
        clear hbn HE_2 HK_2 H4_2 H5_2
        go_wp2_with fail
        refine (addE_any (some ⟨u2.heap.size, 0, none⟩) 1 1 [-p] HEn.out HM.out (by omega) (by omega)).mono ?_
        rintro e wadd ⟨rfl, hE9, hF9⟩
        have HE_3 := Lib.hid hE9
        have HK_3 := Lib.hid (HKn.out.fr hF9 (by decide) (by decide))
        have H4_3 := Lib.hid (H4n.out.fr hF9 (by decide) (by decide))
        have H5_3 := Lib.hid (H5n.out.fr hF9 (by decide) (by decide))
        clear hE9 hF9 HEn HKn H4n H5n HM
        have HL3 : Hid (firstF f0 k ++ [[-p]] = firstF f0 (k + 1)) := by show _ = _; rw [hfs, ← hp.out]; simp; rfl
        rw [HL3.out] at HE_3
        clear HL3 hfs
        go_wp2_with fail
        go_roundw
        case rel => exact ⟨k + 1, by omega, by go_num, HE_3, HK_3, H4_3, H5_3⟩
        case measure => simp [intOf] <;> omega
      · go_wp2_with fail
        refine hc.mono ?_
        rintro e u2 ⟨rfl, mq, hmq⟩
        have hbq : Below u1.heap.size u1 u2 := by rw [hmq]; exact below_drewN _ _
        have HE_2 := Lib.hid (HE_1.out.keep hbq)
        have HK_2 := Lib.hid (HK_1.out.keep hbq)
        have H4_2 := Lib.hid (H4_1.out.keep hbq)
        have H5_2 := Lib.hid (H5_1.out.keep hbq)
        clear hbq HE_1 HK_1 H4_1 H5_1
        clear hmq hc
        have HM : Hid (Ints (u2.alloc (.cells #[.int .i64 (p)] 3)) (some ⟨u2.heap.size, 0, none⟩) 1 1 [p]) := ints_made u2 3 [p] rfl (by simp [I64]; omega) (by simp [maxLen])
        have hbn := below_new u2 (.cells #[.int .i64 (p)] 3)
        have HEn := Lib.hid (HE_2.out.keep hbn)
        have HKn := Lib.hid (HK_2.out.keep hbn)
        have H4n := Lib.hid (H4_2.out.keep hbn)
        have H5n := Lib.hid (H5_2.out.keep hbn)
        clear hbn HE_2 HK_2 H4_2 H5_2
        go_wp2_with fail
        refine (addE_any (some ⟨u2.heap.size, 0, none⟩) 1 1 [p] HEn.out HM.out (by omega) (by omega)).mono ?_
        rintro e wadd ⟨rfl, hE9, hF9⟩
        have HE_3 := Lib.hid hE9
        have HK_3 := Lib.hid (HKn.out.fr hF9 (by decide) (by decide))
        have H4_3 := Lib.hid (H4n.out.fr hF9 (by decide) (by decide))
        have H5_3 := Lib.hid (H5n.out.fr hF9 (by decide) (by decide))
        clear hE9 hF9 HEn HKn H4n H5n HM
        have HL3 : Hid (firstF f0 k ++ [[p]] = firstF f0 (k + 1)) := by show _ = _; rw [hfs, ← hp.out]; simp
        rw [HL3.out] at HE_3
        clear HL3 hfs
        go_wp2_with fail
        go_roundw
        case rel => exact ⟨k + 1, by omega, by go_num, HE_3, HK_3, H4_3, H5_3⟩
        case measure => simp [intOf] <;> omega
    · have q0 : ¬ (k : Int) < 4 := by omega
      obtain rfl : k = 4 := by omega
      obtain ⟨wo, hwo⟩ : ∃ z : World, z = wr := ⟨_, rfl⟩
      subst hwo
      go_wp2_with fail
      go_loopw [53] (fun s wr => ∃ t : Nat, t ≤ n ∧ s = .int .i64 t ∧ Hid (EncSt wA wr be q n (V : Int) (firstF f0 4 ++ (List.range t).flatMap (timeF n al))) ∧ Hid (Blk wr w.heap.size 25 #[.int .i64 4, .slice q.F q.nF q.cF, .slice q.G q.nG q.cG, .slice q.A q.n q.c]) ∧ Hid (Blk wr (w.heap.size + 1) 40 #[.int .i64 0, .slice none 0 0]) ∧ Hid (Blk wr (w.heap.size + 2) 28 #[.int .i64 0, .int .i64 0])) (fun s _ => n - (intOf s).toNat)
      case atStart => exact ⟨0, Nat.zero_le _, rfl, by simpa using HE, HK, H4, H5⟩
      case round =>
        clear HE HK H4 H5
        obtain ⟨t, ht, rfl, HE, HK, H4, H5⟩ := hrel
        have hlb := flat_le (f := timeF n al) (K := 60) (fun a => time_len n a (by rw [hal.out]; exact hn3)) t
        have hf4 := firstF_len f0 4
        by_cases hlt2 : t < n
        · have q0 : (t : Int) < (n : Int) := by omega
          have HT := Lib.hid (time_any t HE.out HQ.out hn hlt2 (by rw [List.length_append, hf4]; omega))
          go_wp2_with fail
          refine HT.out.mono ?_
          rintro e wadd ⟨rfl, hE9, hF9⟩
          have HL3 : Hid (firstF f0 4 ++ (List.range t).flatMap (timeF n al) ++ timeF n al t = firstF f0 4 ++ (List.range (t + 1)).flatMap (timeF n al)) := by show _ = _; rw [flat_succ, List.append_assoc]
          rw [HL3.out] at hE9
          have HE3 := Lib.hid hE9
          have HK3 := Lib.hid (HK.out.fr hF9 (by decide) (by decide))
          have H43 := Lib.hid (H4.out.fr hF9 (by decide) (by decide))
          have H53 := Lib.hid (H5.out.fr hF9 (by decide) (by decide))
          clear hE9 hF9 HE HK H4 H5 HT HL3
          go_wp2_with fail
          go_roundw
          case rel => exact ⟨t + 1, by omega, by go_num, HE3, HK3, H43, H53⟩
          case measure => simp [intOf] <;> omega
        · have q0 : ¬ (t : Int) < (n : Int) := by omega
          obtain rfl : t = n := by omega
          obtain ⟨ys, hys⟩ : ∃ ys, Hid (firstF f0 4 ++ (List.range t).flatMap (timeF t al) = ys) := ⟨_, rfl⟩
          rw [hys.out] at HE
          have hyl : ys.length ≤ 184 := by rw [← hys.out, List.length_append, hf4]; omega
          obtain ⟨wo, hwo⟩ : ∃ z : World, z = wr := ⟨_, rfl⟩
          subst hwo
          have k2 := HK.out.cell 2
          have kl := HK.out.lt
          simp at k2
          go_wp2_with fail
          go_loopw [63] (fun s wr => ∃ j : Nat, j ≤ q.nG ∧ s = .int .i64 j ∧ Hid (EncSt wA wr be q t (V : Int) (ys ++ preF (fun f => [posL (fI f t)]) g j)) ∧ Hid (Blk wr w.heap.size 25 #[.int .i64 4, .slice q.F q.nF q.cF, .slice q.G q.nG q.cG, .slice q.A q.n q.c]) ∧ Hid (Blk wr (w.heap.size + 1) 40 #[.int .i64 0, .slice none 0 0]) ∧ Hid (Blk wr (w.heap.size + 2) 28 #[.int .i64 0, .int .i64 0])) (fun s _ => q.nG - (intOf s).toNat)
          case atStart => exact ⟨0, Nat.zero_le _, rfl, by simpa [preF] using HE, HK, H4, H5⟩
          case round =>
            clear HE HK H4 H5 k2 kl
            obtain ⟨j, hj, rfl, HE, HK, H4, H5⟩ := hrel
            have hpl : (preF (fun f => [posL (fI f t)]) g j).length ≤ 4 := by unfold preF; rw [List.length_map, List.length_take]; have := fl_len g; omega
            by_cases hltj : j < q.nG
            · obtain ⟨b, off, y, hLe, hbb, hcell, yb1, yb2, hy⟩ := (HQ.out.iG.keep HE.out.b).round hltj
              obtain ⟨f, rfl, hf4', hfl⟩ := fl_get hy.out
              have HFL := Lib.hid hfl
              have q2 : (0 : Int) ≤ (j : Int) := by omega
              have q3 : (j : Int) < (q.nG : Int) := by omega
              rw [hLe] at HK ⊢
              clear hy hfl
              obtain ⟨p, hp⟩ : ∃ p, Hid (posL (fI f t) = p) := ⟨_, rfl⟩
              have hbp := posL_bd (fI_le (f := f) (t := t) hf4' (by omega))
              rw [hp.out] at hbp
              have hc := fact_any f t HE.out hf4' (by omega)
              rw [hp.out] at hc
              go_wp2_with fail
              refine hc.mono ?_
              rintro e u2 ⟨rfl, mq, hmq⟩
              have hbq : Below wr.heap.size wr u2 := by rw [hmq]; exact below_drewN _ _
              have HE_2 := Lib.hid (HE.out.keep hbq)
              have HK_2 := Lib.hid (HK.out.keep hbq)
              have H4_2 := Lib.hid (H4.out.keep hbq)
              have H5_2 := Lib.hid (H5.out.keep hbq)
              clear hbq HE HK H4 H5
              clear hmq hc
              have HM : Hid (Ints (u2.alloc (.cells #[.int .i64 (p)] 3)) (some ⟨u2.heap.size, 0, none⟩) 1 1 [p]) := ints_made u2 3 [p] rfl (by simp [I64]; omega) (by simp [maxLen])
              have hbn := below_new u2 (.cells #[.int .i64 (p)] 3)
              have HEn := Lib.hid (HE_2.out.keep hbn)
              have HKn := Lib.hid (HK_2.out.keep hbn)
              have H4n := Lib.hid (H4_2.out.keep hbn)
              have H5n := Lib.hid (H5_2.out.keep hbn)
              clear hbn HE_2 HK_2 H4_2 H5_2
              go_wp2_with fail
              refine (addE_any (some ⟨u2.heap.size, 0, none⟩) 1 1 [p] HEn.out HM.out (by omega) (by rw [List.length_append]; omega)).mono ?_
              rintro e wadd ⟨rfl, hE9, hF9⟩
              have HE_3 := Lib.hid hE9
              have HK_3 := Lib.hid (HKn.out.fr hF9 (by decide) (by decide))
              have H4_3 := Lib.hid (H4n.out.fr hF9 (by decide) (by decide))
              have H5_3 := Lib.hid (H5n.out.fr hF9 (by decide) (by decide))
              clear hE9 hF9 HEn HKn H4n H5n HM
              have HL3 : Hid (ys ++ preF (fun f => [posL (fI f t)]) g j ++ [[p]] = ys ++ preF (fun f => [posL (fI f t)]) g (j + 1)) := by show _ = _; rw [preF_succ _ HFL.out, List.append_assoc, ← hp.out]
              rw [HL3.out] at HE_3
              clear HL3 hcell
              go_wp2_with fail
              go_roundw
              case rel => exact ⟨j + 1, by omega, by go_num, HE_3, HK_3, H4_3, H5_3⟩
              case measure => simp [intOf] <;> omega
            · have q3 : ¬ (j : Int) < (q.nG : Int) := by omega
              obtain rfl : j = q.nG := by omega
              have HST : Hid (ys ++ preF (fun f => [posL (fI f t)]) g q.nG = stepsF t al f0 g) := by
                show _ = _
                rw [preF_all _ (by have := HQ.out.iG.len; rw [some_fl, List.length_map] at this; omega), ← hys.out]
                rfl
              have HLS : Hid ((stepsF t al f0 g).length ≤ 188) := by show _ ≤ _; rw [← HST.out, List.length_append]; omega
              rw [HST.out] at HE
              obtain ⟨C, nC, cC, hE, hC⟩ := HE.out.e
              have hnC : nC ≤ 188 := by rw [← hC.len]; exact HLS.out
              have e5 := hE.cell 5
              have e6 := hE.cell 6
              have el := hE.lt
              simp at e5 e6
              have d4 : ¬ (400 : Int) < (nC : Int) := by omega
              have c0 := H4.out.cell 0
              have c1 := H4.out.cell 1
              have cf0 := H4.out.frozen 0
              have cf1 := H4.out.frozen 1
              have cl := H4.out.lt
              have f0_ := H5.out.cell 0
              have f1_ := H5.out.cell 1
              have ff0 := H5.out.frozen 0
              have ff1 := H5.out.frozen 1
              have fl := H5.out.lt
              simp at c0 c1 f0_ f1_
              have hB9 := below_next HB.out HE.out.b
              have HVQ : Hid (V = (t + 1) * 4 + t * al.length) := by show _ = _; rw [hal.out, hV.out]
              have P1 := ownP_set (i := 0) hC H4.out (.int .i64 (V : Int)) (by decide) (by decide)
              have K1 := H4.out.set_ 0 (.int .i64 (V : Int))
              have P2 := ownP_set (i := 1) P1 K1 (.slice C nC cC) (by decide) (by decide)
              have F1 := (H5.out.far (p := ⟨w.heap.size + 1, 0, none⟩) (by show w.heap.size + 2 ≠ w.heap.size + 1; omega) (.int .i64 (V : Int))).far (p := ⟨w.heap.size + 1, 1, none⟩) (by show w.heap.size + 2 ≠ w.heap.size + 1; omega) (.slice C nC cC)
              have P3 := ownP_set (i := 0) P2 F1 (.int .i64 0) (by decide) (by decide)
              have F2 := F1.set_ 0 (.int .i64 0)
              have P4 := ownP_set (i := 1) P3 F2 (.int .i64 0) (by decide) (by decide)
              have HP4 := Lib.hid (P4.mono (base' := w.heap.size) (low' := 0) HB.out.size (Nat.le_refl _))
              have HBF := Lib.hid ((((hB9.setCell (p := ⟨w.heap.size + 1, 0, none⟩) (Nat.le_succ _) (.int .i64 (V : Int))).setCell (p := ⟨w.heap.size + 1, 1, none⟩) (Nat.le_succ _) (.slice C nC cC)).setCell (p := ⟨w.heap.size + 2, 0, none⟩) (by show _ ≤ w.heap.size + 2; omega) (.int .i64 0)).setCell (p := ⟨w.heap.size + 2, 1, none⟩) (by show _ ≤ w.heap.size + 2; omega) (.int .i64 0))
              clear P1 K1 P2 F1 P3 F2 P4 hB9 hE hC HE HK H4 H5
              go_wp2_with fail
              exact bodyPost_ret (v := .tuple #[.agg #[.int .i64 (V : Int), .slice C nC cC], .agg #[.int .i64 0, .int .i64 0]]) (by simp [results, Try.results10, go_sem, c0, c1, cl, f0_, f1_, fl]) rfl ⟨C, nC, cC, by rw [← HVQ.out], HP4.out, by omega, HBF.out⟩
end Go.Proofs.Ytlfgcblijfflfaa

/- Contract of steps.Back. (Printed by wip/tools/back.py.) -/
namespace Go.Proofs.Ytlfgcblijfflfaa
open Go.RowKit
set_option linter.unusedSimpArgs false
set_option linter.unusedVariables false

def fstI : Option Nat → Int
  | none => -1
  | some k => (k : Int)
def faF (m : List Bool) (n A t a : Nat) : Option Nat := (List.range a).find? (fun a => mb m (aI n A a t))
theorem faF_succ (m : List Bool) (n A t a : Nat) : faF m n A t (a + 1) = (faF m n A t a).or (if mb m (aI n A a t) = true then some a else none) := by
  unfold faF
  rw [List.range_succ, List.find?_append]
  congr 1
  by_cases h : mb m (aI n A a t) = true <;> simp [h]
theorem faF_lt {m : List Bool} {n A t a k : Nat} (h : faF m n A t a = some k) : k < a := List.mem_range.1 (List.mem_of_find?_eq_some h)
def RetBack (p : List Nat) (w : World) (e : Ending) (w' : World) : Prop := ∃ P np cp, e = .returned (.tuple #[.slice P np cp, .agg #[.int .i64 0, .int .i64 0]]) ∧ Ints w' P np cp (natI p) ∧ Below w.heap.size w w'
theorem nat_i64 {p : List Nat} (h : ∀ z ∈ p, z < 1000) : ∀ z ∈ natI p, I64 z := fun z hz => by
  obtain ⟨k, hk, rfl⟩ := List.mem_map.1 hz
  have := h k hk
  unfold I64
  omega

theorem backF_lt {m : List Bool} {n A : Nat} (h : ∀ t, t < n → ∃ a, firstA m n A t = some a ∧ a < A) (hA : A ≤ 3) : ∀ {t : Nat}, t ≤ n → ∀ z ∈ backF m n A t, z < 1000
  | 0, _, z, hz => by simp [backF] at hz
  | t + 1, ht, z, hz => by
    rw [backF] at hz
    rcases List.mem_append.1 hz with hz | hz
    · exact backF_lt h hA (by omega) z hz
    · obtain ⟨a, h1, h2⟩ := h t (by omega)
      rw [h1] at hz
      have := List.mem_singleton.1 hz
      simp at this
      omega
theorem ints_putF {w : World} {P : Option Addr} {np cp B : Nat} {xs : List Int} (h : Ints w P np cp xs) (hF : Blk w B 28 #[.int .i64 0, .int .i64 0]) : Ints ((w.setCell ⟨B, 0, none⟩ (.int .i64 0)).setCell ⟨B, 1, none⟩ (.int .i64 0)) P np cp xs := by
  rw [setCell_id hF (i := 0) (v := .int .i64 0) rfl, setCell_id hF (i := 1) (v := .int .i64 0) rfl]
  exact h

set_option maxHeartbeats 8000000 in
set_option maxRecDepth 100000 in
theorem backP_any {f0 g : Nat} {al : List Ac} {w : World} (q : Qv) (n : Nat) (h : QstR w q f0 g al) (hn : n ≤ 3) (B : Option Addr) (nb cb : Nat) (m : List Bool) (hm : Bools w B nb cb m) (hl : m.length = (n + 1) * 4 + n * q.n) (hfa : ∀ t, t < n → ∃ a, firstA m n q.n t = some a ∧ a < q.n) :
    Calls Try.prog 13 #[.agg #[.int .i64 4, .slice q.F q.nF q.cF, .slice q.G q.nG q.cG, .slice q.A q.n q.c], .int .i64 (n : Int), .slice B nb cb] w (RetBack (backF m n q.n n) w) := by
  have hn3 := h.n3
  have HFA := Lib.hid hfa
  have HM := Lib.hid hm
  obtain ⟨i0, hi0, hz0, hz1, hz2⟩ := info_parts int_info
  obtain ⟨V, hV⟩ : ∃ V : Nat, Hid ((n + 1) * 4 + n * q.n = V) := ⟨_, rfl⟩
  rw [hV.out] at hl
  have hnb : nb = V := by rw [← hm.len]; exact hl
  have HML := Lib.hid hl
  obtain ⟨wA, hwA⟩ : ∃ z : World, Hid (z = (w.alloc (.cells #[.int .i64 4, .slice q.F q.nF q.cF, .slice q.G q.nG q.cG, .slice q.A q.n q.c] 25)).alloc (.cells #[.int .i64 0, .int .i64 0] 28)) := ⟨_, rfl⟩
  have hb0 : Below w.heap.size w wA := by rw [hwA.out]; exact below_alloc (below_new _ _) _
  have HK : Hid (Blk wA w.heap.size 25 #[.int .i64 4, .slice q.F q.nF q.cF, .slice q.G q.nG q.cG, .slice q.A q.n q.c]) := by rw [Hid, hwA.out]; exact (Blk.new _ _ _).alloc _
  have H5 : Hid (Blk wA (w.heap.size + 1) 28 #[.int .i64 0, .int .i64 0]) := by rw [hwA.out]; have := Blk.new (w.alloc (.cells #[.int .i64 4, .slice q.F q.nF q.cF, .slice q.G q.nG q.cG, .slice q.A q.n q.c] 25)) 28 #[.int .i64 0, .int .i64 0]; simpa [Hid] using this
  have HB := Lib.hid hb0
  have HQ := Lib.hid (h.keep hb0)
  have k0 := HK.out.cell 0
  have k1 := HK.out.cell 1
  have k2 := HK.out.cell 2
  have k3 := HK.out.cell 3
  have kl := HK.out.lt
  simp at k0 k1 k2 k3
  clear h hb0 hm hl hfa
  go_enter Try.func13, Try.ntmps13
  go_wp2_with fail
  rw [← hwA.out]
  refine (check_any q n HQ.out hn).mono ?_
  rintro e w1 ⟨be, rfl, hE1⟩
  have hFB := hE1.b
  have HE1 := Lib.hid hE1
  have HK1 := Lib.hid (HK.out.keep hFB)
  have H51 := Lib.hid (H5.out.keep hFB)
  clear hE1 hFB HK H5 k0 k1 k2 k3 kl
  go_wp2_with fail
  obtain ⟨w2, hw2⟩ : ∃ z : World, z = w1.alloc (.cells #[.int .i64 0, .int .i64 0] 28) := ⟨_, rfl⟩
  have hb2 : Below w1.heap.size w1 w2 := by rw [hw2]; exact below_new _ _
  have HE2 := Lib.hid (HE1.out.keep hb2)
  have HK2 := Lib.hid (HK1.out.keep hb2)
  have H52 := Lib.hid (H51.out.keep hb2)
  rw [← hw2]
  clear hw2 hb2 HE1 HK1 H51
  have hc := vars_any HE2.out (by omega) hn3
  rw [hV.out] at hc
  have hnv : ((nb : Int) != (V : Int)) = false := by rw [hnb]; simp
  refine hc.mono ?_
  rintro e w3 ⟨rfl, mq, hmq⟩
  have hb3 : Below w2.heap.size w2 w3 := by rw [hmq]; exact below_drewN _ _
  have HE3 := Lib.hid (HE2.out.keep hb3)
  have HK3 := Lib.hid (HK2.out.keep hb3)
  have H53 := Lib.hid (H52.out.keep hb3)
  clear hmq hb3 hc HE2 HK2 H52
  have HE3s := HE3
  have HK3s := HK3
  have H53s := H53
  have hb9 : Below w.heap.size w w3 := below_next HB.out HE3.out.b
  have HB3 := Lib.hid hb9
  clear hb9
  subst hnb
  go_wp2_with fail
  go_loopw [10, 31] (fun s10 s31 wr => ∃ (t cO : Nat) (O : Option Addr), t ≤ n ∧ s10 = .slice O t cO ∧ s31 = .int .i64 t ∧ Hid (EncSt wA wr be q n 0 []) ∧ Hid (Blk wr w.heap.size 25 #[.int .i64 4, .slice q.F q.nF q.cF, .slice q.G q.nG q.cG, .slice q.A q.n q.c]) ∧ Hid (Blk wr (w.heap.size + 1) 28 #[.int .i64 0, .int .i64 0]) ∧ Hid (Own 3 wr w3.heap.size O t cO ((natI (backF m n q.n t)).map (Value.int .i64))) ∧ Hid (Below w3.heap.size w3 wr)) (fun _ s _ => n - (intOf s).toNat)
  case atStart => exact ⟨0, 0, none, Nat.zero_le _, rfl, rfl, HE3s, HK3s, H53s, Own.nil _ _ _, Below.refl _ _⟩
  case round =>
    clear HE3 HK3 H53
    obtain ⟨t, cO, O, ht, rfl, rfl, HE, HK, H5, HO, HBr⟩ := hrel
    by_cases hlt : t < n
    · have q0 : (t : Int) < (n : Int) := by omega
      have k3 := HK.out.cell 3
      have kl := HK.out.lt
      simp at k3
      obtain ⟨wo, hwo⟩ : ∃ z : World, z = wr := ⟨_, rfl⟩
      subst hwo
      go_wp2_with fail
      go_loopw [12, 37] (fun s12 s37 wr => ∃ a : Nat, a ≤ q.n ∧ s12 = .int .i64 (fstI (faF m n q.n t a)) ∧ s37 = .int .i64 a ∧ Hid (Below wo.heap.size wo wr)) (fun _ s _ => q.n - (intOf s).toNat)
      case atStart => exact ⟨0, Nat.zero_le _, rfl, rfl, Below.refl _ _⟩
      case round =>
        clear k3 kl
        obtain ⟨a, ha, rfl, rfl, HB2⟩ := hrel
        have hss := faF_succ m n q.n t a
        by_cases hlta : a < q.n
        · have q1 : (a : Int) < (q.n : Int) := by omega
          cases hfa : faF m n q.n t a with
          | none =>
            rw [hfa, Option.none_or] at hss
            have HEr := Lib.hid (HE.out.keep HB2.out)
            obtain ⟨p, hp⟩ : ∃ p, Hid (posL (aI n q.n a t) = p) := ⟨_, rfl⟩
            have hai := aI_le (n := n) (A := q.n) (a := a) (t := t) hn hn3 (by omega) (by omega)
            have hpb := posL_bd hai
            rw [hp.out] at hpb
            have hpv : p - 1 = ((aI n q.n a t : Nat) : Int) := by rw [← hp.out]; unfold posL; omega
            have hav : aI n q.n a t < nb := by
              rw [← hV.out]
              unfold aI
              have h9 : (t + 1) * q.n ≤ n * q.n := Nat.mul_le_mul_right _ hlt
              rw [Nat.add_mul] at h9
              omega
            have hc := act_any a t HEr.out (by omega) hn3 (by omega) (by omega)
            rw [hp.out] at hc
            have hmn : fstI (none : Option Nat) = -1 := rfl
            have d0 : decide (fstI (none : Option Nat) < 0) = true := by rw [hmn]; rfl
            rw [hmn]
            clear hfa d0 hmn
            go_wp2_with fail
            refine hc.mono ?_
            rintro e w5 ⟨rfl, mq, hmq⟩
            have hbq : Below wr.heap.size wr w5 := by rw [hmq]; exact below_drewN _ _
            have HB5 := Lib.hid (below_next HB2.out hbq)
            have hB9 := ((HM.out.keep HB3.out).keep HBr.out).keep HB5.out
            clear hmq hbq hc HB2 HEr
            obtain ⟨ix, hix⟩ : ∃ ix : Nat, Hid (aI n q.n a t = ix) := ⟨_, rfl⟩
            rw [hix.out] at hpv hav
            obtain ⟨b, off, bv, hLe, hbb, hcell, hbk⟩ := hB9.round hav
            have hmb : mb m ix = bv := by unfold mb; rw [hbk.out]; rfl
            rw [hix.out, hmb] at hss
            have i0_ : (0 : Int) ≤ (ix : Int) := by omega
            have i1_ : (ix : Int) < (nb : Int) := by omega
            subst hLe
            clear hB9 hbk hmb
            have HSS := Lib.hid hss
            clear hss
            cases bv
            · go_wp2_with fail
              go_roundw
              case rel => exact ⟨a + 1, by omega, by rw [HSS.out]; rfl, by go_num, HB5⟩
              case measure => simp [intOf] <;> omega
            · go_wp2_with fail
              go_roundw
              case rel => exact ⟨a + 1, by omega, by rw [HSS.out]; rfl, by go_num, HB5⟩
              case measure => simp [intOf] <;> omega
          | some k =>
            rw [hfa, Option.some_or] at hss
            have HSS := Lib.hid hss
            have hk9 := faF_lt hfa
            have d0 : decide (((k : Nat) : Int) < 0) = false := decide_eq_false (by omega)
            have hmn : fstI (some k) = (k : Int) := rfl
            rw [hmn]
            clear hfa hss hmn
            go_wp2_with fail
            go_roundw
            case rel => exact ⟨a + 1, by omega, by rw [HSS.out]; rfl, by go_num, HB2⟩
            case measure => simp [intOf] <;> omega
        · have q1 : ¬ (a : Int) < (q.n : Int) := by omega
          obtain rfl : a = q.n := by omega
          obtain ⟨k, hk1, hk2⟩ := HFA.out t hlt
          have hk3 : faF m n q.n t q.n = some k := hk1
          rw [hk3]
          have hmn : fstI (some k) = (k : Int) := rfl
          have d0 : decide (((k : Nat) : Int) < 0) = false := decide_eq_false (by omega)
          rw [hmn]
          have HEr := Lib.hid (HE.out.keep HB2.out)
          have HKr := Lib.hid (HK.out.keep HB2.out)
          have H5r := Lib.hid (H5.out.keep HB2.out)
          have HOr := Lib.hid (HO.out.keep HB2.out)
          have HB4 := Lib.hid (below_next HBr.out HB2.out)
          have HBK : Hid (backF m n q.n t ++ [k] = backF m n q.n (t + 1)) := by show _ = _; rw [backF, hk1]; rfl
          clear HB2 HE HK H5 HO HBr hss hk3 hk1 hmn
          have HSL := Lib.hid (sl_one wr 3 (.int .i64 (k : Int)) rfl)
          have hb4 := below_new wr (.cells #[.int .i64 (k : Int)] 3)
          have HEn := Lib.hid (HEr.out.keep hb4)
          have HKn := Lib.hid (HKr.out.keep hb4)
          have H5n := Lib.hid (H5r.out.keep hb4)
          have HOn := Lib.hid (HOr.out.keep hb4)
          have HBn := Lib.hid (below_next HB4.out hb4)
          have hsz := HB4.out.size
          have hz3 := HB3.out.size
          clear hb4 HEr HKr H5r HOr HB4
          go_wp2_with (first
            | (at_builtin
               refine wpList_append_sl _ rfl (.tmp 58) (.tmp 60) _ rfl w3.heap.size 3 i0 _ 8 Try.underlying22 hi0 hz0 hz1 hz2 rfl O t cO _ rfl HOn.out (some ⟨wr.heap.size, 0, none⟩) 1 1 _ rfl HSL.out (by simp [Value.oneCell']) (by simp only [maxLen]; omega) (by omega) (by simp; omega) ?_
               intro L1 c1 w9 hL1 hg1 hat1
               have HL1 : Hid (Own 3 w9 w3.heap.size L1 (t + 1) c1 ((natI (backF m n q.n (t + 1))).map (Value.int .i64))) := by show Own _ _ _ _ _ _ _; rw [← HBK.out]; unfold natI; rw [List.map_append, List.map_append]; exact hL1
               have HB9 : Hid (Below w3.heap.size w3 w9) := HBn.out.grown hg1 HBn.out.size (fun z hz => (own_sz HOn.out hz).1)
               have HKz := Lib.hid (HK3s.out.keep HB9.out)
               have H5z := Lib.hid (H53s.out.keep HB9.out)
               have HEz := Lib.hid (HE3s.out.keep HB9.out)
               clear hL1 hg1 hat1 HEn HKn H5n HOn HBn))
          go_roundw
          case rel => exact ⟨t + 1, c1, L1, by omega, rfl, by go_num, HEz, HKz, H5z, HL1, HB9⟩
          case measure => simp [intOf] <;> omega
    · have q0 : ¬ (t : Int) < (n : Int) := by omega
      obtain rfl : t = n := by omega
      have hbl : ∀ z ∈ backF m t q.n t, z < 1000 := fun z hz => backF_lt HFA.out hn3 (Nat.le_refl _) z hz
      have hIN := HO.out.ints (nat_i64 hbl)
      have hII := ints_putF hIN H5.out
      have HII := Lib.hid hII
      have e0 := H5.out.cell 0
      have e1 := H5.out.cell 1
      have g0 := H5.out.frozen 0
      have g1 := H5.out.frozen 1
      simp at e0 e1
      have le := H5.out.lt
      have HBB := Lib.hid (below_next HB3.out HBr.out)
      clear hIN hII hbl HE HK HO
      go_wp2_with fail
      exact bodyPost_ret (v := .tuple #[.slice O t cO, .agg #[.int .i64 0, .int .i64 0]]) (by simp [results, Try.results13, go_sem, e0, e1, le]) rfl ⟨O, t, cO, rfl, HII.out, below_put2 HBB.out (g := w.heap.size + 1) (Nat.le_succ _) _ _⟩
end Go.Proofs.Ytlfgcblijfflfaa

/- The clauses of plans are clauses that may be; what the search says of them. Of no program. -/
namespace Go.Proofs.Ytlfgcblijfflfaa
set_option linter.unusedSimpArgs false
set_option linter.unusedVariables false

theorem posL_abs (i : Nat) : (posL i).natAbs = i + 1 := by unfold posL; omega
theorem negL_abs (i : Nat) : (negL i).natAbs = i + 1 := by unfold negL; omega
theorem posL_in {i V : Nat} (h : i < V) : posL i ≠ 0 ∧ -(V : Int) ≤ posL i ∧ posL i ≤ (V : Int) := by unfold posL; omega
theorem negL_in {i V : Nat} (h : i < V) : negL i ≠ 0 ∧ -(V : Int) ≤ negL i ∧ negL i ≤ (V : Int) := by unfold negL; omega
theorem lits_one {V : Nat} {x : Int} (h : x ≠ 0 ∧ -(V : Int) ≤ x ∧ x ≤ (V : Int)) : Lits V [x] := ⟨fun y hy => by rw [List.mem_singleton.1 hy]; exact h, by simp⟩
theorem lits_two {V : Nat} {x y : Int} (h : x ≠ 0 ∧ -(V : Int) ≤ x ∧ x ≤ (V : Int)) (h2 : y ≠ 0 ∧ -(V : Int) ≤ y ∧ y ≤ (V : Int)) (hne : x.natAbs ≠ y.natAbs) : Lits V [x, y] := by
  refine ⟨fun z hz => ?_, by simpa using hne⟩
  rcases List.mem_cons.1 hz with rfl | hz
  · exact h
  · rw [List.mem_singleton.1 hz]; exact h2
theorem aI_lt {n A a t : Nat} (ha : a < A) (ht : t < n) : aI n A a t < (n + 1) * 4 + n * A := by
  unfold aI
  have h9 : (t + 1) * A ≤ n * A := Nat.mul_le_mul_right _ ht
  rw [Nat.add_mul] at h9
  omega
theorem fI_lt {n A f t : Nat} (hf : f < 4) (ht : t ≤ n) : fI f t < (n + 1) * 4 + n * A := by unfold fI; omega
theorem aI_ge (n A a t : Nat) : (n + 1) * 4 ≤ aI n A a t := by unfold aI; omega
theorem fI_lt4 {n f t : Nat} (hf : f < 4) (ht : t ≤ n) : fI f t < (n + 1) * 4 := by unfold fI; omega
theorem acts_lits {n A t : Nat} {l : List Nat} (ht : t < n) (hl : ∀ a ∈ l, a < A) (hp : l.Pairwise (· < ·)) : Lits (((n + 1) * 4 + n * A : Nat) : Int) (l.map (fun a => posL (aI n A a t))) := by
  refine ⟨fun x hx => ?_, ?_⟩
  · obtain ⟨a, ha, rfl⟩ := List.mem_map.1 hx
    exact posL_in (aI_lt (hl a ha) ht)
  · rw [List.pairwise_map]
    exact hp.imp fun h => by rw [posL_abs, posL_abs]; unfold aI; omega
theorem row_lits {n A t f : Nat} {l : List Nat} {x y : Int} (ht : t < n) (hf : f < 4) (hl : ∀ a ∈ l, a < A) (hp : l.Pairwise (· < ·)) (hx : x = posL (fI f t) ∨ x = negL (fI f t)) (hy : y = posL (fI f (t + 1)) ∨ y = negL (fI f (t + 1))) :
    Lits (((n + 1) * 4 + n * A : Nat) : Int) ([x, y] ++ l.map (fun a => posL (aI n A a t))) := by
  have h1 := acts_lits (A := A) ht hl hp
  have xi : x ≠ 0 ∧ -(((n + 1) * 4 + n * A : Nat) : Int) ≤ x ∧ x ≤ (((n + 1) * 4 + n * A : Nat) : Int) := by
    rcases hx with rfl | rfl
    · exact posL_in (fI_lt hf (by omega))
    · exact negL_in (fI_lt hf (by omega))
  have yi : y ≠ 0 ∧ -(((n + 1) * 4 + n * A : Nat) : Int) ≤ y ∧ y ≤ (((n + 1) * 4 + n * A : Nat) : Int) := by
    rcases hy with rfl | rfl
    · exact posL_in (fI_lt hf (by omega))
    · exact negL_in (fI_lt hf (by omega))
  have xa : x.natAbs = fI f t + 1 := by rcases hx with rfl | rfl; exact posL_abs _; exact negL_abs _
  have ya : y.natAbs = fI f (t + 1) + 1 := by rcases hy with rfl | rfl; exact posL_abs _; exact negL_abs _
  have f1 := fI_lt4 (n := n) (f := f) (t := t) hf (by omega)
  have f2 := fI_lt4 (n := n) (f := f) (t := t + 1) hf (by omega)
  refine ⟨fun z hz => ?_, ?_⟩
  · rcases List.mem_append.1 hz with hz | hz
    · simp at hz
      rcases hz with rfl | rfl
      · exact xi
      · exact yi
    · exact h1.1 z hz
  · rw [List.pairwise_append]
    refine ⟨by simp; rw [xa, ya]; unfold fI; omega, h1.2, fun u hu z hz => ?_⟩
    obtain ⟨a, ha, rfl⟩ := List.mem_map.1 hz
    rw [posL_abs]
    have := aI_ge n A a t
    simp at hu
    rcases hu with rfl | rfl
    · rw [xa]; omega
    · rw [ya]; omega
theorem time_lits {n t : Nat} {al : List Ac} (hA : al.length ≤ 3) (ht : t < n) : ∀ c ∈ timeF n al t, c.length ≤ 24 ∧ Lits (((n + 1) * 4 + n * al.length : Nat) : Int) c := fun c hc => by
  unfold timeF at hc
  rcases List.mem_append.1 hc with hc | hc
  · rcases List.mem_append.1 hc with hc | hc
    · rcases List.mem_append.1 hc with hc | hc
      · rw [List.mem_singleton.1 hc]
        exact ⟨by unfold allA; simp; omega, acts_lits ht (fun a ha => List.mem_range.1 ha) List.pairwise_lt_range⟩
      · obtain ⟨a, ha, hc⟩ := List.mem_flatMap.1 hc
        obtain ⟨b, hb, rfl⟩ := List.mem_map.1 hc
        have ha' := List.mem_range.1 ha
        have hb' := List.mem_range.1 hb
        exact ⟨by simp, lits_two (negL_in (aI_lt (by omega) ht)) (negL_in (aI_lt ha' ht)) (by rw [negL_abs, negL_abs]; unfold aI; omega)⟩
    · obtain ⟨a, ha, hc⟩ := List.mem_flatMap.1 hc
      have ha' := List.mem_range.1 ha
      have hN := negL_in (aI_lt (n := n) ha' ht)
      unfold effA at hc
      rcases List.mem_append.1 hc with hc | hc
      · rcases List.mem_append.1 hc with hc | hc
        · rcases List.mem_append.1 hc with hc | hc
          all_goals obtain ⟨f, hf, rfl⟩ := List.mem_map.1 hc
          all_goals have hf4 := List.mem_range.1 (List.mem_filter.1 hf).1
          all_goals have h1 := fI_lt4 (n := n) (f := f) (t := t) hf4 (by omega)
          all_goals have h2 := aI_ge n al.length a t
          · exact ⟨by simp, lits_two (posL_in (fI_lt hf4 (by omega))) hN (by rw [posL_abs, negL_abs]; omega)⟩
          · exact ⟨by simp, lits_two (negL_in (fI_lt hf4 (by omega))) hN (by rw [negL_abs, negL_abs]; omega)⟩
        · obtain ⟨f, hf, rfl⟩ := List.mem_map.1 hc
          have hf4 := List.mem_range.1 (List.mem_filter.1 hf).1
          have h1 := fI_lt4 (n := n) (f := f) (t := t + 1) hf4 (by omega)
          have h2 := aI_ge n al.length a t
          exact ⟨by simp, lits_two (posL_in (fI_lt hf4 (by omega))) hN (by rw [posL_abs, negL_abs]; omega)⟩
      · obtain ⟨f, hf, rfl⟩ := List.mem_map.1 hc
        have hf4 := List.mem_range.1 (List.mem_filter.1 hf).1
        have h1 := fI_lt4 (n := n) (f := f) (t := t + 1) hf4 (by omega)
        have h2 := aI_ge n al.length a t
        exact ⟨by simp, lits_two (negL_in (fI_lt hf4 (by omega))) hN (by rw [negL_abs, negL_abs]; omega)⟩
  · obtain ⟨f, hf, hc⟩ := List.mem_flatMap.1 hc
    have hf4 := List.mem_range.1 hf
    have hlen : ∀ p : Nat → Bool, ((List.range al.length).filter p).length ≤ 3 := fun p => Nat.le_trans (List.length_filter_le _ _) (by simpa using hA)
    simp only [List.mem_cons, List.not_mem_nil, or_false] at hc
    rcases hc with rfl | rfl
    · unfold riseA
      refine ⟨?_, row_lits ht hf4 (fun a ha => List.mem_range.1 (List.mem_filter.1 ha).1) (List.pairwise_lt_range.filter _) (.inl rfl) (.inr rfl)⟩
      have := hlen (fun a => (acAt al a).add.testBit f)
      simp only [List.length_append, List.length_map, List.length_cons, List.length_nil]
      omega
    · unfold fallA
      refine ⟨?_, row_lits ht hf4 (fun a ha => List.mem_range.1 (List.mem_filter.1 ha).1) (List.pairwise_lt_range.filter _) (.inr rfl) (.inl rfl)⟩
      have := hlen (fun a => (acAt al a).drop.testBit f)
      simp only [List.length_append, List.length_map, List.length_cons, List.length_nil]
      omega
theorem steps_lits {n f0 g : Nat} {al : List Ac} (hA : al.length ≤ 3) : ∀ c ∈ stepsF n al f0 g, c.length ≤ 24 ∧ Lits (((n + 1) * 4 + n * al.length : Nat) : Int) c := fun c hc => by
  unfold stepsF at hc
  rcases List.mem_append.1 hc with hc | hc
  · rcases List.mem_append.1 hc with hc | hc
    · obtain ⟨k, hk, rfl⟩ := List.mem_map.1 hc
      have h4 := List.mem_range.1 hk
      refine ⟨by simp, lits_one ?_⟩
      split
      · exact posL_in (fI_lt h4 (by omega))
      · exact negL_in (fI_lt h4 (by omega))
    · obtain ⟨t, ht, hc⟩ := List.mem_flatMap.1 hc
      exact time_lits hA (List.mem_range.1 ht) c hc
  · obtain ⟨k, hk, rfl⟩ := List.mem_map.1 hc
    have h4 := List.mem_range.1 (List.mem_filter.1 hk).1
    exact ⟨by simp, lits_one (posL_in (fI_lt h4 (by omega)))⟩
end Go.Proofs.Ytlfgcblijfflfaa
