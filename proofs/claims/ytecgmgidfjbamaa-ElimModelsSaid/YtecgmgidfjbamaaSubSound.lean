/- Clauses without what others say hold where all did; done again they are as they were. Plainly. -/
import Derived.Test.YtecgmgidfjbamaaSubPlain
namespace Go.Proofs.Ytecgmgidfjbamaa

theorem set_natAbs {a : List Int} {q : Nat} {x : Int} (h : a[q]? = some x) : (a.set q (-x)).map Int.natAbs = a.map Int.natAbs := by
  rw [List.map_set, Int.natAbs_neg]
  apply List.ext_getElem?
  intro k
  by_cases hk : q = k
  · subst hk
    have hl : q < (a.map Int.natAbs).length := by simpa using (List.getElem?_eq_some_iff.1 h).1
    rw [List.getElem?_set_self hl, List.getElem?_map, h]
    rfl
  · rw [List.getElem?_set_ne hk]
theorem set_nodup {vars : Int} {a : List Int} {q : Nat} {x : Int} (ha : Lits vars a) (h : a[q]? = some x) : (a.set q (-x)).Nodup := by
  have h1 : ((a.set q (-x)).map Int.natAbs).Pairwise (· ≠ ·) := by
    rw [set_natAbs h, List.pairwise_map]
    exact ha.2
  rw [List.pairwise_map] at h1
  exact h1.imp fun hne e => hne (by rw [e])
/-- Where the program does not look, there is nothing. -/
theorem strP_zero {vars : Int} {a b : List Int} (ha : Lits vars a) (h : a = b ∨ b.length < a.length) : strP a b a 0 = 0 := by
  rcases strP_spec a b a 0 with h0 | ⟨q, x, h1, h2, h3⟩
  · exact h0
  · exfalso
    rw [Nat.zero_add] at h3
    rcases h with rfl | h
    · have hx := List.mem_of_getElem? h1
      have hl : q < a.length := (List.getElem?_eq_some_iff.1 h1).1
      have hn := overF_iff.1 h3 (-x) (List.mem_of_getElem? (List.getElem?_set_self hl))
      have := ha.only hx hn (by omega)
      have h0 := (ha.1 x hx).1
      omega
    · have := length_le_of_sub _ b (set_nodup ha h1) (overF_iff.1 h3)
      simp at this
      omega
theorem over_set {vars : Int} {a b : List Int} {q : Nat} {x : Int} (ha : Lits vars a) (h : a[q]? = some x) : (decide ((a.set q (-x)).length ≤ b.length) && overF (a.set q (-x)) b) = overF (a.set q (-x)) b := overF_len (set_nodup ha h)

/-- Clauses in order that may be. -/
def Tidy (vars : Int) (l : List (List Int)) : Prop := normF l = l ∧ ∀ x ∈ l, x.length ≤ 24 ∧ Lits vars x
theorem normF_id {l : List (List Int)} : normF l = l ↔ SortedR l ∧ ∀ x ∈ l, sortF x = x := by
  constructor
  · intro h
    refine ⟨by rw [← h]; exact normF_sorted _, fun x hx => ?_⟩
    rw [← h] at hx
    obtain ⟨y, _, rfl⟩ := normF_mem.1 hx
    exact sortF_idem y
  · rintro ⟨h1, h2⟩
    refine sortedR_eq (normF_sorted _) h1 fun z => ?_
    rw [normF_mem]
    constructor
    · rintro ⟨x, hx, rfl⟩; rw [h2 x hx]; exact hx
    · intro hz; exact ⟨z, hz, (h2 z hz).symm⟩
theorem Tidy.erase {vars : Int} {l : List (List Int)} (h : Tidy vars l) (k : Nat) : Tidy vars (l.eraseIdx k) := by
  obtain ⟨h1, h2⟩ := normF_id.1 h.1
  have hs := List.eraseIdx_sublist l k
  exact ⟨normF_id.2 ⟨h1.sublist hs, fun x hx => h2 x (hs.subset hx)⟩, fun x hx => h.2 x (hs.subset hx)⟩
theorem Lits.filter {vars : Int} {b : List Int} (h : Lits vars b) (p : Int → Bool) : Lits vars (b.filter p) :=
  ⟨fun x hx => h.1 x (List.mem_filter.1 hx).1, h.2.sublist List.filter_sublist⟩
theorem Tidy.cut {vars : Int} {l : List (List Int)} (h : Tidy vars l) (h0 : (sndF l).2 ≠ 0) : Tidy vars (normF (l.set (sndF l).1 (cutF l (sndF l).1 (sndF l).2))) := by
  obtain ⟨a, _, b, x, h1, h2, _⟩ := sndF_spec h0
  refine ⟨normF_idem _, fun z hz => ?_⟩
  obtain ⟨y, hy, rfl⟩ := normF_mem.1 hz
  rw [sortF_len]
  have hb := h.2 b (List.mem_of_getElem? h1)
  have key : y.length ≤ 24 ∧ Lits vars y := by
    rcases List.mem_or_eq_of_mem_set hy with hy | rfl
    · exact h.2 y hy
    · rw [cutF_eq h1]
      exact ⟨Nat.le_trans (List.length_filter_le _ _) hb.1, hb.2.filter _⟩
  exact ⟨key.1, key.2.sortF⟩
theorem subF_tidy {vars : Int} : ∀ (f : Nat) (l : List (List Int)), Tidy vars l → Tidy vars (subF f l)
  | 0, _, h => h
  | f + 1, l, h => by
    rw [subF]
    split
    · exact subF_tidy f _ (h.erase _)
    · split
      · exact h
      · rename_i h0; exact subF_tidy f _ (h.cut h0)
theorem subF_len : ∀ (f : Nat) (l : List (List Int)), (subF f l).length ≤ l.length
  | 0, l => Nat.le_refl _
  | f + 1, l => by
    rw [subF]
    split
    · have := subF_len f (l.eraseIdx (fstF l).toNat)
      have h2 := List.length_eraseIdx_le l (fstF l).toNat
      omega
    · split
      · exact Nat.le_refl _
      · have := subF_len f (normF (l.set (sndF l).1 (cutF l (sndF l).1 (sndF l).2)))
        have h2 := normF_len (l.set (sndF l).1 (cutF l (sndF l).1 (sndF l).2))
        simp at h2
        omega
theorem subF_done : ∀ (f : Nat) (l : List (List Int)), muF l < f → ¬ 0 ≤ fstF (subF f l) ∧ (sndF (subF f l)).2 = 0
  | 0, _, h => by omega
  | f + 1, l, h => by
    rw [subF]
    split
    · rename_i h1
      have := muF_erase (fstF_lt h1)
      exact subF_done f _ (by omega)
    · rename_i h1
      split
      · rename_i h2; exact ⟨h1, h2⟩
      · rename_i h2
        have := mu_snd h2
        exact subF_done f _ (by omega)
theorem allB_mem {l : List (List Int)} {a : List Bool} : allB l a = true ↔ ∀ x ∈ l, satB a x = true := by unfold allB; rw [List.all_eq_true]
theorem allB_erase {l : List (List Int)} {a : List Bool} (h : 0 ≤ fstF l) : allB (l.eraseIdx (fstF l).toNat) a = allB l a := by
  rcases fstF_spec l with h' | ⟨i, p, j, b, h1, h2, h3, h4, h5⟩
  · omega
  · rw [h3]
    simp only [Int.toNat_natCast]
    rw [Bool.eq_iff_iff, allB_mem, allB_mem]
    have hj := (List.getElem?_eq_some_iff.1 h2).1
    constructor
    · intro hs x hx
      have hp : p ∈ l.eraseIdx j := by
        rw [List.mem_eraseIdx_iff_getElem?]
        exact ⟨i, h4, h1⟩
      have sp := hs p hp
      rcases List.mem_cons.1 ((cons_erase_perm hj).mem_iff.2 hx) with rfl | hx
      · obtain ⟨y, hy, ly⟩ := List.any_eq_true.1 sp
        have hb : l[j] = b := (List.getElem?_eq_some_iff.1 h2).2
        rw [hb]
        exact List.any_eq_true.2 ⟨y, overF_iff.1 h5 y hy, ly⟩
      · exact hs x hx
    · intro hs x hx
      exact hs x ((List.eraseIdx_sublist l j).subset hx)
theorem allB_cut {vars : Int} {l : List (List Int)} {a : List Bool} (h : Tidy vars l) (h0 : (sndF l).2 ≠ 0) : allB (normF (l.set (sndF l).1 (cutF l (sndF l).1 (sndF l).2))) a = allB l a := by
  obtain ⟨p, hp, b, x, h1, h2, h3, h4, h5⟩ := sndF_spec h0
  rw [allB_norm, cutF_eq h1, h2]
  generalize hk : (sndF l).1 = k at *
  have hkl := (List.getElem?_eq_some_iff.1 h1).1
  have hbm := List.mem_of_getElem? h1
  have lp := (h.2 p hp).2
  have lb := (h.2 b hbm).2
  have hx0 := (lp.1 x h3).1
  have hpb : p ≠ b := fun e => by
    subst e
    have := lp.only h3 h4 (by omega)
    omega
  have hk2 : k < (l.set k (b.filter (fun y => y != -x))).length := by simpa using hkl
  have hp2 := cons_erase_perm hk2
  rw [List.eraseIdx_set_eq, List.getElem_set_self] at hp2
  have hp1 := cons_erase_perm hkl
  have hbe : l[k] = b := (List.getElem?_eq_some_iff.1 h1).2
  rw [hbe] at hp1
  have hpe : p ∈ l.eraseIdx k := by
    rcases List.mem_cons.1 (hp1.mem_iff.2 hp) with e | e
    · exact absurd e hpb
    · exact e
  rw [Bool.eq_iff_iff, allB_mem, allB_mem]
  constructor
  · intro hs z hz
    rcases List.mem_cons.1 (hp1.mem_iff.2 hz) with rfl | hz
    · obtain ⟨y, hy, ly⟩ := List.any_eq_true.1 (hs _ (hp2.mem_iff.1 (List.mem_cons_self)))
      exact List.any_eq_true.2 ⟨y, (List.mem_filter.1 hy).1, ly⟩
    · exact hs z (hp2.mem_iff.1 (by simp [hz]))
  · intro hs z hz
    rcases List.mem_cons.1 (hp2.mem_iff.2 hz) with rfl | hz
    · obtain ⟨y, hy, ly⟩ := List.any_eq_true.1 (hs b hbm)
      by_cases hyx : y = -x
      · subst hyx
        rw [litB_not hx0] at ly
        obtain ⟨u, hu, lu⟩ := List.any_eq_true.1 (hs p hp)
        have hux : u ≠ x := fun e => by subst e; rw [lu] at ly; simp at ly
        have hunx : u ≠ -x := fun e => by
          subst e
          have := lp.only h3 hu (by omega)
          omega
        exact List.any_eq_true.2 ⟨u, List.mem_filter.2 ⟨h5 u hu hux, by simpa using hunx⟩, lu⟩
      · exact List.any_eq_true.2 ⟨y, List.mem_filter.2 ⟨hy, by simpa using hyx⟩, ly⟩
    · exact hs z ((List.eraseIdx_sublist l k).subset hz)
theorem subF_all {vars : Int} {a : List Bool} : ∀ (f : Nat) (l : List (List Int)), Tidy vars l → allB (subF f l) a = allB l a
  | 0, _, _ => rfl
  | f + 1, l, h => by
    rw [subF]
    split
    · rename_i h1
      rw [subF_all f _ (h.erase _), allB_erase h1]
    · split
      · rfl
      · rename_i h0
        rw [subF_all f _ (h.cut h0), allB_cut h h0]
/-- All of it. -/
def subbed (xss : List (List Int)) : List (List Int) := subF (muF (normF xss) + 1) (normF xss)
theorem norm_tidy {vars : Int} {xss : List (List Int)} (h : ∀ x ∈ xss, x.length ≤ 24 ∧ Lits vars x) : Tidy vars (normF xss) :=
  ⟨normF_idem _, fun z hz => by
    obtain ⟨y, hy, rfl⟩ := normF_mem.1 hz
    rw [sortF_len]
    exact ⟨(h y hy).1, (h y hy).2.sortF⟩⟩
theorem subbed_again {vars : Int} {xss : List (List Int)} (h : ∀ x ∈ xss, x.length ≤ 24 ∧ Lits vars x) : subbed (subbed xss) = subbed xss := by
  have ht := subF_tidy (muF (normF xss) + 1) _ (norm_tidy h)
  have hd := subF_done (muF (normF xss) + 1) (normF xss) (by omega)
  have e1 : normF (subbed xss) = subbed xss := ht.1
  have e2 : subbed (subbed xss) = subF (muF (normF (subbed xss)) + 1) (normF (subbed xss)) := rfl
  rw [e2, e1, subF]
  unfold subbed
  rw [if_neg hd.1, if_pos hd.2]
theorem subbed_all {vars : Int} {xss : List (List Int)} {a : List Bool} (h : ∀ x ∈ xss, x.length ≤ 24 ∧ Lits vars x) : allB (subbed xss) a = allB xss a := by
  unfold subbed
  rw [subF_all _ _ (norm_tidy h), allB_norm]
theorem subbed_len (xss : List (List Int)) : (subbed xss).length ≤ xss.length := Nat.le_trans (subF_len _ _) (normF_len xss)
end Go.Proofs.Ytecgmgidfjbamaa
