/- Clauses without what others say, plainly. -/
import Derived.Test.YtecgmgidfjbamaaResPlain
import Derived.Test.YtecgmgidfjbamaaSortPlain
namespace Go.Proofs.Ytecgmgidfjbamaa

/-- The first clause (from k on) of which a, clause number i, says no more; or -1. -/
def subIn (a : List Int) (i : Nat) : List (List Int) → Nat → Int
  | [], _ => -1
  | b :: t, k => if (i != k) && overF a b then k else subIn a i t (k + 1)
def subFst (all : List (List Int)) : List (List Int) → Nat → Int
  | [], _ => -1
  | a :: t, i => if 0 ≤ subIn a i all 0 then subIn a i all 0 else subFst all t (i + 1)
/-- The number of the clause that goes; or -1. -/
def fstF (l : List (List Int)) : Int := subFst l l 0
/-- The literal that b loses: one of a turned is over b; or 0. -/
def strP (a b : List Int) : List Int → Nat → Int
  | [], _ => 0
  | x :: t, p => if overF (a.set p (-x)) b then -x else strP a b t (p + 1)
def strIn (a : List Int) : List (List Int) → Nat → Nat × Int
  | [], _ => (0, 0)
  | b :: t, k => if strP a b a 0 ≠ 0 then (k, strP a b a 0) else strIn a t (k + 1)
def strFst (all : List (List Int)) : List (List Int) → Nat × Int
  | [] => (0, 0)
  | a :: t => if (strIn a all 0).2 ≠ 0 then strIn a all 0 else strFst all t
/-- The clause that loses a literal, and that one; (0, 0): none. -/
def sndF (l : List (List Int)) : Nat × Int := strFst l l
/-- Clause k without the literal x. -/
def cutF (l : List (List Int)) (k : Nat) (x : Int) : List Int := (l.getD k []).filter (fun y => y != x)
def subF : Nat → List (List Int) → List (List Int)
  | 0, l => l
  | f + 1, l => if 0 ≤ fstF l then subF f (l.eraseIdx (fstF l).toNat) else if (sndF l).2 = 0 then l else subF f (normF (l.set (sndF l).1 (cutF l (sndF l).1 (sndF l).2)))
/-- How many literals and clauses there are. -/
def muF (l : List (List Int)) : Nat := (l.map (fun x => x.length + 1)).sum

theorem subIn_spec (a : List Int) (i : Nat) : ∀ (l : List (List Int)) (k : Nat), subIn a i l k = -1 ∨ ∃ j b, l[j]? = some b ∧ subIn a i l k = (k + j : Nat) ∧ i ≠ k + j ∧ overF a b = true
  | [], _ => .inl rfl
  | b :: t, k => by
    rw [subIn]
    split
    · rename_i h
      simp only [Bool.and_eq_true] at h
      exact .inr ⟨0, b, rfl, rfl, by simpa using h.1, h.2⟩
    · rcases subIn_spec a i t (k + 1) with h | ⟨j, c, h1, h2, h3, h4⟩
      · exact .inl h
      · exact .inr ⟨j + 1, c, by simpa using h1, by rw [h2]; congr 1; omega, by omega, h4⟩
theorem subFst_spec (all : List (List Int)) : ∀ (l : List (List Int)) (i : Nat), subFst all l i = -1 ∨ ∃ p a j b, l[p]? = some a ∧ all[j]? = some b ∧ subFst all l i = (j : Nat) ∧ i + p ≠ j ∧ overF a b = true
  | [], _ => .inl rfl
  | a :: t, i => by
    rw [subFst]
    rcases subIn_spec a i all 0 with h | ⟨j, b, h1, h2, h3, h4⟩
    · rw [h, if_neg (by omega)]
      rcases subFst_spec all t (i + 1) with h' | ⟨p, a', j, b, h1, h2, h3, h4, h5⟩
      · exact .inl h'
      · exact .inr ⟨p + 1, a', j, b, by simpa using h1, h2, h3, by omega, h5⟩
    · rw [h2, if_pos (by omega)]
      exact .inr ⟨0, a, j, b, rfl, h1, by simp, by omega, h4⟩
theorem fstF_spec (l : List (List Int)) : fstF l = -1 ∨ ∃ i a j b, l[i]? = some a ∧ l[j]? = some b ∧ fstF l = (j : Nat) ∧ i ≠ j ∧ overF a b = true := by
  rcases subFst_spec l l 0 with h | ⟨p, a, j, b, h1, h2, h3, h4, h5⟩
  · exact .inl h
  · exact .inr ⟨p, a, j, b, h1, h2, h3, by omega, h5⟩
theorem strP_spec (a b : List Int) : ∀ (l : List Int) (p : Nat), strP a b l p = 0 ∨ ∃ q x, l[q]? = some x ∧ strP a b l p = -x ∧ overF (a.set (p + q) (-x)) b = true
  | [], _ => .inl rfl
  | x :: t, p => by
    rw [strP]
    split
    · rename_i h; exact .inr ⟨0, x, rfl, rfl, h⟩
    · rcases strP_spec a b t (p + 1) with h | ⟨q, y, h1, h2, h3⟩
      · exact .inl h
      · exact .inr ⟨q + 1, y, by simpa using h1, h2, by rw [show p + (q + 1) = p + 1 + q by omega]; exact h3⟩
theorem strIn_spec (a : List Int) : ∀ (l : List (List Int)) (k : Nat), (strIn a l k).2 = 0 ∨ ∃ j b, l[j]? = some b ∧ (strIn a l k).1 = k + j ∧ (strIn a l k).2 = strP a b a 0
  | [], _ => .inl rfl
  | b :: t, k => by
    rw [strIn]
    split
    · exact .inr ⟨0, b, rfl, rfl, rfl⟩
    · rcases strIn_spec a t (k + 1) with h | ⟨j, c, h1, h2, h3⟩
      · exact .inl h
      · exact .inr ⟨j + 1, c, by simpa using h1, by rw [h2]; omega, h3⟩
theorem strFst_spec (all : List (List Int)) : ∀ (l : List (List Int)), (strFst all l).2 = 0 ∨ ∃ a j b, a ∈ l ∧ all[j]? = some b ∧ (strFst all l).1 = j ∧ (strFst all l).2 = strP a b a 0
  | [] => .inl rfl
  | a :: t => by
    rw [strFst]
    split
    · rename_i h
      rcases strIn_spec a all 0 with h' | ⟨j, b, h1, h2, h3⟩
      · exact absurd h' h
      · exact .inr ⟨a, j, b, by simp, h1, by omega, h3⟩
    · rcases strFst_spec all t with h | ⟨a', j, b, h1, h2, h3, h4⟩
      · exact .inl h
      · exact .inr ⟨a', j, b, by simp [h1], h2, h3, h4⟩
/-- What the second says: a has x, b has -x and all of the rest of a. -/
theorem sndF_spec {l : List (List Int)} (h : (sndF l).2 ≠ 0) : ∃ a ∈ l, ∃ b x, l[(sndF l).1]? = some b ∧ (sndF l).2 = -x ∧ x ∈ a ∧ -x ∈ b ∧ ∀ y ∈ a, y ≠ x → y ∈ b := by
  rcases strFst_spec l l with h' | ⟨a, j, b, h1, h2, h3, h4⟩
  · exact absurd h' h
  · have h4' : (sndF l).2 = strP a b a 0 := h4
    rcases strP_spec a b a 0 with h5 | ⟨q, x, h5, h6, h7⟩
    · rw [h5] at h4'; exact absurd h4' h
    · refine ⟨a, h1, b, x, by rw [show (sndF l).1 = j from h3]; exact h2, by rw [h4', h6], List.mem_of_getElem? h5, ?_, fun y hy hne => ?_⟩
      · have hl : 0 + q < a.length := by rw [Nat.zero_add]; exact (List.getElem?_eq_some_iff.1 h5).1
        exact overF_iff.1 h7 (-x) (List.mem_of_getElem? (List.getElem?_set_self hl))
      · obtain ⟨i, hi⟩ := List.getElem?_of_mem hy
        have hiq : 0 + q ≠ i := fun e => by
          rw [Nat.zero_add] at e
          subst e
          rw [h5] at hi
          cases hi
          exact hne rfl
        exact overF_iff.1 h7 y (List.mem_of_getElem? (by rw [List.getElem?_set_ne hiq]; exact hi))
theorem fstF_lt {l : List (List Int)} (h : 0 ≤ fstF l) : (fstF l).toNat < l.length := by
  rcases fstF_spec l with h' | ⟨i, a, j, b, h1, h2, h3, h4, h5⟩
  · omega
  · rw [h3]
    have := (List.getElem?_eq_some_iff.1 h2).1
    simpa using this
theorem sndF_lt {l : List (List Int)} (h : (sndF l).2 ≠ 0) : (sndF l).1 < l.length := by
  obtain ⟨a, _, b, x, h1, _⟩ := sndF_spec h
  exact (List.getElem?_eq_some_iff.1 h1).1
theorem cons_erase_perm {l : List (List Int)} {k : Nat} (h : k < l.length) : (l[k] :: l.eraseIdx k).Perm l := by
  induction l generalizing k with
  | nil => simp at h
  | cons a t ih =>
    cases k with
    | zero => exact .refl _
    | succ k =>
      have hk : k < t.length := by simpa using h
      exact (List.Perm.swap a t[k] (t.eraseIdx k)).trans ((ih hk).cons a)
/-- Less each time. -/
theorem muF_append (l m : List (List Int)) : muF (l ++ m) = muF l + muF m := by simp [muF]
theorem muF_perm {l m : List (List Int)} (h : l.Perm m) : muF l = muF m := by
  unfold muF
  exact (h.map _).sum_nat
theorem muF_erase {l : List (List Int)} {k : Nat} (h : k < l.length) : muF (l.eraseIdx k) < muF l := by
  have hp := cons_erase_perm h
  have := muF_perm hp
  simp [muF] at this ⊢
  omega
theorem insR_mu (x : List Int) : ∀ l : List (List Int), muF (insR x l) ≤ x.length + 1 + muF l
  | [] => by simp [insR, muF]
  | y :: r => by
    have := insR_mu x r
    rw [insR]
    split
    · simp [muF] at this ⊢; omega
    · split
      · simp [muF]
      · simp [muF]
theorem normF_mu (l : List (List Int)) : muF (normF l) ≤ muF l := by
  have : ∀ (l o : List (List Int)), muF (l.foldl (fun o x => insR (sortF x) o) o) ≤ muF l + muF o := by
    intro l
    induction l with
    | nil => intro o; simp [muF]
    | cons x t ih =>
      intro o
      have h1 := ih (insR (sortF x) o)
      have h2 := insR_mu (sortF x) o
      rw [sortF_len] at h2
      have h3 : muF (x :: t) = x.length + 1 + muF t := by simp [muF]
      simp only [List.foldl_cons]
      omega
  have := this l []
  simpa [normF, muF] using this
theorem muF_set {l : List (List Int)} {k : Nat} {b : List Int} (hb : l[k]? = some b) (y : List Int) : muF (l.set k y) + b.length = muF l + y.length := by
  obtain ⟨hk, he⟩ := List.getElem?_eq_some_iff.1 hb
  have hp := cons_erase_perm hk
  have hk2 : k < (l.set k y).length := by simpa using hk
  have hp2 := cons_erase_perm hk2
  rw [List.eraseIdx_set_eq, List.getElem_set_self] at hp2
  have m1 := muF_perm hp
  have m2 := muF_perm hp2
  rw [he] at m1
  simp [muF] at m1 m2 ⊢
  omega
theorem cutF_eq {l : List (List Int)} {k : Nat} {b : List Int} (hb : l[k]? = some b) (x : Int) : cutF l k x = b.filter (fun y => y != x) := by
  unfold cutF
  rw [List.getD_eq_getElem?_getD, hb]
  rfl
theorem filter_lt {b : List Int} {x : Int} (h : x ∈ b) : (b.filter (fun y => y != x)).length < b.length := by
  have h1 := List.length_filter_lt_length_iff_exists (l := b) (p := fun y => y != x)
  exact h1.2 ⟨x, h, by simp⟩
theorem mu_snd {l : List (List Int)} (h : (sndF l).2 ≠ 0) : muF (normF (l.set (sndF l).1 (cutF l (sndF l).1 (sndF l).2))) < muF l := by
  obtain ⟨a, _, b, x, h1, h2, _, h3, _⟩ := sndF_spec h
  have e1 := normF_mu (l.set (sndF l).1 (cutF l (sndF l).1 (sndF l).2))
  have e2 := muF_set h1 (cutF l (sndF l).1 (sndF l).2)
  have e3 := filter_lt h3
  rw [cutF_eq h1, h2] at e1 e2
  rw [cutF_eq h1, h2]
  omega
/-- The reference drops the clause and puts the shorter one behind all. -/
theorem norm_swap {l : List (List Int)} {k : Nat} (hk : k < l.length) (y : List Int) : normF (l.eraseIdx k ++ [y]) = normF (l.set k y) := by
  have hk2 : k < (l.set k y).length := by simpa using hk
  have hp2 := cons_erase_perm hk2
  rw [List.eraseIdx_set_eq, List.getElem_set_self] at hp2
  refine sortedR_eq (normF_sorted _) (normF_sorted _) fun z => ?_
  rw [normF_mem, normF_mem]
  constructor
  · rintro ⟨u, hu, rfl⟩
    exact ⟨u, hp2.mem_iff.1 (by simp at hu ⊢; rcases hu with h | h <;> simp [h]), rfl⟩
  · rintro ⟨u, hu, rfl⟩
    have := hp2.mem_iff.2 hu
    exact ⟨u, by simp at this ⊢; rcases this with h | h <;> simp [h], rfl⟩
end Go.Proofs.Ytecgmgidfjbamaa
