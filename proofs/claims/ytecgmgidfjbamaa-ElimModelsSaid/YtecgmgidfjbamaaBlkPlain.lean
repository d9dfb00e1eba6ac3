/- Blocked clauses, plainly: what the program looks for is what resolution tells. -/
import Derived.Test.YtecgmgidfjbamaaResRef
import Derived.Test.YtecgmgidfjbamaaBlocked
namespace Go.Proofs.Ytecgmgidfjbamaa

theorem rsF_ok (v : Int) : ∀ (l o : List Int), (rsF v l o).isSome = true ↔ ((∀ x ∈ l, (x.natAbs : Int) ≠ v → -x ∉ o) ∧ l.Pairwise (fun a b => (b.natAbs : Int) ≠ v → -b ≠ a))
  | [], o => by simp [rsF]
  | x :: r, o => by
    rw [rsF]
    by_cases h1 : (x.natAbs : Int) = v
    · have e1 : ((x.natAbs : Int) == v) = true := by simpa using h1
      rw [if_pos e1, rsF_ok v r o, List.pairwise_cons]
      constructor
      · rintro ⟨a, b⟩
        refine ⟨fun z hz hv => ?_, fun z hz hv e => ?_, b⟩
        · rcases List.mem_cons.1 hz with rfl | hz
          · exact absurd h1 hv
          · exact a z hz hv
        · apply hv; rw [← h1, ← e]; simp
      · rintro ⟨a, _, b⟩
        exact ⟨fun z hz hv => a z (by simp [hz]) hv, b⟩
    · have e1 : ¬ ((x.natAbs : Int) == v) = true := by simpa using h1
      rw [if_neg e1]
      by_cases h2 : -x ∈ o
      · rw [if_pos (hasB_iff.2 h2)]
        simp only [Option.isSome_none, Bool.false_eq_true, false_iff]
        rintro ⟨a, _⟩
        exact a x (by simp) h1 h2
      · have e2 : ¬ hasB o (-x) = true := fun h => h2 (hasB_iff.1 h)
        rw [if_neg e2]
        by_cases h3 : x ∈ o
        · rw [if_pos (hasB_iff.2 h3), rsF_ok v r o, List.pairwise_cons]
          constructor
          · rintro ⟨a, b⟩
            refine ⟨fun z hz hv => ?_, fun z hz hv e => a z hz hv (e ▸ h3), b⟩
            rcases List.mem_cons.1 hz with rfl | hz
            · exact h2
            · exact a z hz hv
          · rintro ⟨a, _, b⟩
            exact ⟨fun z hz hv => a z (by simp [hz]) hv, b⟩
        · have e3 : ¬ hasB o x = true := fun h => h3 (hasB_iff.1 h)
          rw [if_neg e3, rsF_ok v r (o ++ [x]), List.pairwise_cons]
          constructor
          · rintro ⟨a, b⟩
            refine ⟨fun z hz hv => ?_, fun z hz hv e => a z hz hv (by simp [e]), b⟩
            rcases List.mem_cons.1 hz with rfl | hz
            · exact h2
            · intro hm
              exact a z hz hv (by simp [hm])
          · rintro ⟨a, c, b⟩
            refine ⟨fun z hz hv hm => ?_, b⟩
            rcases List.mem_append.1 hm with hm | hm
            · exact a z (by simp [hz]) hv hm
            · simp at hm
              exact c z hz hv hm
theorem rsF_two {vars v : Int} {p q : List Int} (hp : Lits vars p) (hq : Lits vars q) : (rsF v (p ++ q) []).isSome = true ↔ ∀ a ∈ p, ∀ b ∈ q, (b.natAbs : Int) ≠ v → -b ≠ a := by
  have auto : ∀ {l : List Int}, Lits vars l → l.Pairwise (fun a b => (b.natAbs : Int) ≠ v → -b ≠ a) := fun hl => hl.2.imp fun hne _ e => hne (by rw [← e]; simp)
  rw [rsF_ok, List.pairwise_append]
  constructor
  · rintro ⟨_, _, _, h⟩ a ha b hb
    exact h a ha b hb
  · intro h
    exact ⟨by simp, auto hp, auto hq, h⟩
theorem resF_code {vars v : Int} {p q : List Int} (hp : Lits vars p) (hq : Lits vars q) : (resF p q v).2 = 0 ↔ (v ∈ p ∧ -v ∈ q) ∧ ∀ a ∈ p, ∀ b ∈ q, (b.natAbs : Int) ≠ v → -b ≠ a := by
  unfold resF
  by_cases h1 : v ∈ p
  · by_cases h2 : -v ∈ q
    · rw [hasB_iff.2 h1, hasB_iff.2 h2, ← rsF_two hp hq]
      simp only [Bool.not_true, Bool.or_self, Bool.false_eq_true, if_false, h1, h2, and_self, true_and]
      cases rsF v (p ++ q) [] <;> simp
    · rw [hasB_false.2 h2]
      simp [h2]
  · rw [hasB_false.2 h1]
    simp [h1]
/-- The code of the resolution of the clause own with x on l. -/
def codeF (own x : List Int) (l : Int) : Int := if l < 0 then (resF x own (-l)).2 else (resF own x l).2
theorem blk_code {vars l : Int} {ci x : List Int} (hc : Lits vars ci) (hx : Lits vars x) (hl : l ∈ ci) : (codeF (sortF ci) x l != 0) = !opnB ci l x := by
  have hs := hc.sortF
  have h0 := (hc.1 l hl).1
  have key : ∀ y ∈ ci, y ≠ l ↔ y.natAbs ≠ l.natAbs := fun y hy => by
    constructor
    · intro hne e
      have hm := hc.2
      rcases Int.natAbs_eq_natAbs_iff.1 e with e1 | e1
      · exact hne e1
      · subst e1
        rcases List.getElem_of_mem hl with ⟨i, hi, rfl⟩
        rcases List.getElem_of_mem hy with ⟨j, hj, hje⟩
        rw [List.pairwise_iff_getElem] at hm
        rcases Nat.lt_trichotomy i j with h | h | h
        · exact hm i j hi hj h (by rw [hje]; simp)
        · subst h; omega
        · exact hm j i hj hi h (by rw [hje]; simp)
    · intro hne e
      exact hne (by rw [e])
  have opn : opnB ci l x = true ↔ -l ∈ x ∧ ∀ y ∈ ci, y.natAbs ≠ l.natAbs → -y ∉ x := by
    unfold opnB
    simp only [Bool.and_eq_true, hasB_iff, Bool.not_eq_true', List.any_eq_false, bne_iff_ne, not_and]
    constructor
    · rintro ⟨a, b⟩
      exact ⟨a, fun y hy hne => b y hy ((key y hy).2 hne)⟩
    · rintro ⟨a, b⟩
      exact ⟨a, fun y hy hne => b y hy ((key y hy).1 hne)⟩
  have code : codeF (sortF ci) x l = 0 ↔ opnB ci l x = true := by
    rw [opn, codeF]
    by_cases hn : l < 0
    · rw [if_pos hn, resF_code hx hs]
      constructor
      · rintro ⟨⟨a, _⟩, b⟩
        exact ⟨a, fun y hy hne hm => b (-y) hm y (sortF_mem.2 hy) (by omega) rfl⟩
      · rintro ⟨a, b⟩
        refine ⟨⟨a, by simpa using sortF_mem.2 hl⟩, fun z hz y hy hne e => b y (sortF_mem.1 hy) (by omega) (by rw [e]; exact hz)⟩
    · rw [if_neg hn, resF_code hs hx]
      constructor
      · rintro ⟨⟨_, a⟩, b⟩
        refine ⟨a, fun y hy hne hm => b y (sortF_mem.2 hy) (-y) hm (by simp; omega) (by simp)⟩
      · rintro ⟨a, b⟩
        refine ⟨⟨sortF_mem.2 hl, a⟩, fun y hy z hz hne e => b y (sortF_mem.1 hy) (by rw [← e]; simp; omega) (by rw [← e]; simpa using hz)⟩
  cases ho : opnB ci l x
  · have : codeF (sortF ci) x l ≠ 0 := fun e => by rw [code.1 e] at ho; cases ho
    simpa using this
  · simp [code.2 ho]
theorem blkF_code {vars : Int} {xss : List (List Int)} {ci : List Int} (hc : Lits vars ci) (hx : ∀ x ∈ xss, Lits vars x) : blkF xss ci = (sortF ci).filter (fun l => xss.all (fun x => codeF (sortF ci) x l != 0)) := by
  unfold blkF
  apply List.filter_congr
  intro l hl
  have hl' := sortF_mem.1 hl
  rw [Bool.eq_iff_iff, List.all_eq_true]
  simp only [Bool.not_eq_true', List.any_eq_false]
  constructor
  · intro h x hxm
    rw [blk_code hc (hx x hxm) hl']
    simpa using h x hxm
  · intro h x hxm
    have := h x hxm
    rw [blk_code hc (hx x hxm) hl'] at this
    simpa using this
end Go.Proofs.Ytecgmgidfjbamaa
