/- Values of variables that go, plainly: the last stage holds just if the first does for some of them. -/
import Derived.Test.YtecgmgidfjbamaaGonePlain
namespace Go.Proofs.Ytecgmgidfjbamaa

/-- The values qs of the variables vs. -/
def setL : List Int → List Bool → List Bool → List Bool
  | v :: t, q :: r, a => setL t r (a.set (v.natAbs - 1) q)
  | _, _, a => a
theorem setL_len : ∀ (vs : List Int) (qs a : List Bool), (setL vs qs a).length = a.length
  | [], _, _ => by simp [setL]
  | _ :: _, [], _ => by simp [setL]
  | v :: t, q :: r, a => by rw [setL, setL_len t r]; simp
/-- Is p the place of no variable of vs? -/
def NoAt (vs : List Int) (p : Nat) : Prop := ∀ v ∈ vs, v.natAbs - 1 ≠ p
theorem setL_out : ∀ (vs : List Int) (qs a : List Bool) (p : Nat), NoAt vs p → (setL vs qs a)[p]? = a[p]?
  | [], _, _, _, _ => by simp [setL]
  | _ :: _, [], _, _, _ => by simp [setL]
  | v :: t, q :: r, a, p, h => by
    rw [setL, setL_out t r _ p (fun u hu => h u (by simp [hu])), List.getElem?_set_ne (h v (by simp))]
theorem setL_at : ∀ (vs : List Int) (qs a b : List Bool) (p : Nat), a[p]? = b[p]? → a.length = b.length → (setL vs qs a)[p]? = (setL vs qs b)[p]?
  | [], _, _, _, _, h, _ => by simpa [setL] using h
  | _ :: _, [], _, _, _, h, _ => by simpa [setL] using h
  | v :: t, q :: r, a, b, p, h, hl => by
    rw [setL, setL]
    refine setL_at t r _ _ p ?_ (by simp [hl])
    by_cases hv : v.natAbs - 1 = p
    · rw [List.getElem?_set, List.getElem?_set, if_pos hv, if_pos hv, hl]
    · rw [List.getElem?_set_ne hv, List.getElem?_set_ne hv]; exact h
/-- All of them are set: what was there before does not matter. -/
theorem setL_again : ∀ (vs : List Int) (qs a b : List Bool), vs.length = qs.length → a.length = b.length → (∀ p, NoAt vs p → a[p]? = b[p]?) → setL vs qs a = setL vs qs b
  | [], qs, a, b, _, _, h => by
    have : a = b := List.ext_getElem? fun p => h p (by simp [NoAt])
    rw [this]
  | _ :: _, [], _, _, h, _, _ => by simp at h
  | v :: t, q :: r, a, b, hl, hab, h => by
    rw [setL, setL]
    refine setL_again t r _ _ (by simpa using hl) (by simp [hab]) fun p hp => ?_
    by_cases hv : v.natAbs - 1 = p
    · rw [List.getElem?_set, List.getElem?_set, if_pos hv, if_pos hv, hab]
    · rw [List.getElem?_set_ne hv, List.getElem?_set_ne hv]
      exact h p (fun u hu => by rcases List.mem_cons.1 hu with rfl | hu; exact hv; exact hp u hu)
/-- What is like a but for these variables is told by their values. -/
theorem setL_reach : ∀ (vs : List Int) (a b : List Bool), a.length = b.length → (∀ p, NoAt vs p → a[p]? = b[p]?) → setL vs (vs.map fun v => b[v.natAbs - 1]?.getD false) a = b
  | [], a, b, _, h => List.ext_getElem? fun p => by simpa [setL] using h p (by simp [NoAt])
  | v :: t, a, b, hl, h => by
    rw [List.map_cons, setL]
    refine setL_reach t _ b (by simpa using hl) fun p hp => ?_
    by_cases hv : v.natAbs - 1 = p
    · rw [List.getElem?_set, if_pos hv]
      subst hv
      split
      · rename_i h1
        rw [List.getElem?_eq_getElem (by omega)]
        rfl
      · rename_i h1
        rw [List.getElem?_eq_none (by omega)]
    · rw [List.getElem?_set_ne hv]
      exact h p (fun u hu => by rcases List.mem_cons.1 hu with rfl | hu; exact hv; exact hp u hu)
theorem mendF_out : ∀ (vs : List Int) (ls : List (List (List Int))) (a : List Bool) (p : Nat), NoAt vs p → (mendF vs ls a)[p]? = a[p]?
  | [], _, _, _, _ => by simp [mendF]
  | _ :: _, [], _, _, _ => by simp [mendF]
  | v :: t, l :: r, a, p, h => by
    have e : mendF (v :: t) (l :: r) a = (mendF t r a).set (v.natAbs - 1) (!allB l ((mendF t r a).set (v.natAbs - 1) false)) := rfl
    rw [e, List.getElem?_set_ne (h v (by simp)), mendF_out t r a p (fun u hu => h u (by simp [hu]))]
/-- The last stage. -/
def lastS (vs : List Int) (l : List (List Int)) : List (List Int) := (l :: chain vs l).getLast (by simp)
theorem lastS_cons (v : Int) (t : List Int) (l : List (List Int)) : lastS (v :: t) l = lastS t (elimF l v) := by
  unfold lastS
  simp [chain]
/-- If all hold for some values of the variables, the last stage holds. -/
theorem last_of {vars : Int} : ∀ (vs : List Int) (qs : List Bool) (l : List (List Int)) (a : List Bool), vs.length = qs.length → (∀ x ∈ l, Lits vars x) → (∀ v ∈ vs, 1 ≤ v ∧ v ≤ a.length) → allB l (setL vs qs a) = true → allB (lastS vs l) a = true
  | [], _, _, _, _, _, _, h => by simpa [lastS, chain, setL] using h
  | _ :: _, [], _, _, h, _, _, _ => by simp at h
  | v :: t, q :: r, l, a, hl, hL, hv, h => by
    rw [lastS_cons]
    have hv1 := hv v (by simp)
    have e1 : ((v.natAbs : Nat) : Int) = v := by omega
    refine last_of t r (elimF l v) a (by simpa using hl) (elimF_lits hL) (fun u hu => hv u (by simp [hu])) ?_
    rw [← e1]
    rw [setL] at h
    have hlen1 := setL_len t r a
    have hlen2 := setL_len t r (a.set (v.natAbs - 1) q)
    have e : setL t r (a.set (v.natAbs - 1) q) = (setL t r a).set (v.natAbs - 1) ((setL t r (a.set (v.natAbs - 1) q))[v.natAbs - 1]?.getD false) := by
      apply List.ext_getElem?
      intro p
      by_cases hp : v.natAbs - 1 = p
      · subst hp
        rw [List.getElem?_set_self (by omega), List.getElem?_eq_getElem (by rw [hlen2]; simp; omega)]
        rfl
      · rw [List.getElem?_set_ne hp]
        exact setL_at t r _ _ p (by rw [List.getElem?_set_ne hp]) (by simp)
    rw [e] at h
    exact elim_some hL (by omega) h
/-- DAVIS, PUTNAM: the last stage holds just if for some values of the variables all hold. -/
theorem last_iff {vars : Int} {vs : List Int} {l : List (List Int)} {a : List Bool} (hL : ∀ x ∈ l, Lits vars x) (hv : ∀ v ∈ vs, 1 ≤ v ∧ v ≤ a.length) : allB (lastS vs l) a = true ↔ ∃ qs : List Bool, qs.length = vs.length ∧ allB l (setL vs qs a) = true := by
  constructor
  · intro h
    have h1 := mend_ok vs l a hL hv h
    refine ⟨_, ?_, by rw [setL_reach vs a (mendF vs (l :: chain vs l) a) (mendF_len _ _ _).symm (fun p hp => (mendF_out vs _ a p hp).symm)]; exact h1⟩
    simp
  · rintro ⟨qs, h1, h2⟩
    exact last_of vs qs l a h1.symm hL hv h2
/-- The values that a number tells. -/
def bitsF : Nat → Nat → List Bool
  | 0, _ => []
  | k + 1, w => (w % 2 == 1) :: bitsF k (w / 2)
theorem bitsF_len : ∀ k w, (bitsF k w).length = k
  | 0, _ => rfl
  | k + 1, w => by simp [bitsF, bitsF_len k]
theorem bitsF_all : ∀ (qs : List Bool), ∃ w, w < 2 ^ qs.length ∧ bitsF qs.length w = qs
  | [] => ⟨0, by simp, rfl⟩
  | q :: r => by
    obtain ⟨w, h1, h2⟩ := bitsF_all r
    refine ⟨2 * w + q.toNat, ?_, ?_⟩
    · have : (q :: r).length = r.length + 1 := rfl
      rw [this, Nat.pow_succ]
      cases q <;> simp <;> omega
    · have : (q :: r).length = r.length + 1 := rfl
      rw [this, bitsF]
      have h3 : (2 * w + q.toNat) / 2 = w := by cases q <;> simp <;> omega
      rw [h3, h2]
      congr 1
      cases q <;> simp [Nat.add_mod]
/-- .. and number i of them. -/
theorem bitsF_at : ∀ (k w i : Nat), i < k → (bitsF k w)[i]? = some (w / 2 ^ i % 2 == 1)
  | 0, _, _, h => by omega
  | k + 1, w, 0, _ => by simp [bitsF]
  | k + 1, w, i + 1, h => by
    rw [bitsF, List.getElem?_cons_succ, bitsF_at k (w / 2) i (by omega), Nat.pow_succ, Nat.div_div_eq_div_mul, Nat.mul_comm (2 ^ i) 2]
/-- Do all hold for some values from w on? 'k' are left. -/
def someF (l : List (List Int)) (vs : List Int) (a : List Bool) : Nat → Nat → Bool
  | 0, _ => false
  | k + 1, w => allB l (setL vs (bitsF vs.length w) a) || someF l vs a k (w + 1)
theorem someF_iff (l : List (List Int)) (vs : List Int) (a : List Bool) : ∀ (k w : Nat), someF l vs a k w = true ↔ ∃ j, w ≤ j ∧ j < w + k ∧ allB l (setL vs (bitsF vs.length j) a) = true
  | 0, w => by simp [someF]; intro j h1 h2; omega
  | k + 1, w => by
    rw [someF, Bool.or_eq_true, someF_iff l vs a k (w + 1)]
    constructor
    · rintro (h | ⟨j, h1, h2, h3⟩)
      · exact ⟨w, Nat.le_refl _, by omega, h⟩
      · exact ⟨j, by omega, by omega, h3⟩
    · rintro ⟨j, h1, h2, h3⟩
      by_cases hj : j = w
      · subst hj; exact .inl h3
      · exact .inr ⟨j, by omega, by omega, h3⟩
theorem last_some {vars : Int} {vs : List Int} {l : List (List Int)} {a : List Bool} (hL : ∀ x ∈ l, Lits vars x) (hv : ∀ v ∈ vs, 1 ≤ v ∧ v ≤ a.length) : allB (lastS vs l) a = someF l vs a (2 ^ vs.length) 0 := by
  rw [Bool.eq_iff_iff, last_iff hL hv, someF_iff]
  constructor
  · rintro ⟨qs, h1, h2⟩
    obtain ⟨w, h3, h4⟩ := bitsF_all qs
    rw [h1] at h3 h4
    exact ⟨w, Nat.zero_le _, by omega, by rw [h4]; exact h2⟩
  · rintro ⟨j, _, _, h3⟩
    exact ⟨bitsF vs.length j, bitsF_len _ _, h3⟩
end Go.Proofs.Ytecgmgidfjbamaa
