/- Sorted literals and clauses in order, plainly. -/
import Derived.Test.YtlfgcblijfflfaaGreatClean
import Derived.Test.YtlfgcblijfflfaaGreatSatPlain
namespace Go.Proofs.YtlfgcblijfflfaaGreat

/-- Does a literal stand ahead of another one? -/
def aheadB (a b : Int) : Bool := decide (a.natAbs < b.natAbs) || (decide (a.natAbs = b.natAbs) && decide (b < a))
theorem aheadB_iff {a b : Int} : aheadB a b = true ↔ a.natAbs < b.natAbs ∨ (a.natAbs = b.natAbs ∧ b < a) := by simp [aheadB]
theorem aheadB_false {a b : Int} : aheadB a b = false ↔ b.natAbs < a.natAbs ∨ (a.natAbs = b.natAbs ∧ a ≤ b) := by
  rw [Bool.eq_false_iff, Ne, aheadB_iff]; omega
theorem aheadB_anti {a b : Int} (h1 : aheadB a b = false) (h2 : aheadB b a = false) : a = b := by
  rw [aheadB_false] at h1 h2
  omega
def insF (x : Int) : List Int → List Int
  | [] => [x]
  | y :: r => if aheadB x y then x :: y :: r else y :: insF x r
def sortF (l : List Int) : List Int := l.foldl (fun o x => insF x o) []
theorem insF_perm (x : Int) : ∀ l : List Int, (insF x l).Perm (x :: l)
  | [] => .refl _
  | y :: r => by
    rw [insF]
    split
    · exact .refl _
    · exact ((insF_perm x r).cons y).trans (List.Perm.swap x y r)
/-- No literal stands behind one that it should stand ahead of. -/
def SortedL (l : List Int) : Prop := l.Pairwise (fun a b => aheadB b a = false)
theorem insF_sorted (x : Int) : ∀ l : List Int, SortedL l → SortedL (insF x l)
  | [], _ => by simp [SortedL, insF]
  | y :: r, h => by
    have hp := List.pairwise_cons.1 h
    rw [insF]
    split
    · rename_i hxy
      refine List.Pairwise.cons (fun z hz => ?_) h
      rcases List.mem_cons.1 hz with rfl | hz
      · rw [aheadB_iff] at hxy; rw [aheadB_false]; omega
      · have := hp.1 z hz
        rw [aheadB_iff] at hxy; rw [aheadB_false] at this ⊢; omega
    · rename_i hxy
      refine List.Pairwise.cons (fun z hz => ?_) (insF_sorted x r hp.2)
      rcases List.mem_cons.1 ((insF_perm x r).mem_iff.1 hz) with rfl | hz
      · simpa using hxy
      · exact hp.1 z hz
theorem foldl_ins : ∀ (l o : List Int), SortedL o → SortedL (l.foldl (fun o x => insF x o) o) ∧ (l.foldl (fun o x => insF x o) o).Perm (l ++ o)
  | [], o, h => ⟨h, .refl _⟩
  | x :: t, o, h => by
    obtain ⟨h1, h2⟩ := foldl_ins t (insF x o) (insF_sorted x o h)
    refine ⟨h1, h2.trans ?_⟩
    refine ((insF_perm x o).append_left t).trans ?_
    rw [List.cons_append]
    exact List.perm_middle
theorem sortF_sorted (l : List Int) : SortedL (sortF l) := (foldl_ins l [] List.Pairwise.nil).1
theorem sortF_perm (l : List Int) : (sortF l).Perm l := by
  have := (foldl_ins l [] List.Pairwise.nil).2
  simpa [sortF] using this
theorem sorted_eq {l m : List Int} (h1 : SortedL l) (h2 : SortedL m) (hp : l.Perm m) : l = m :=
  List.Perm.eq_of_pairwise (le := fun a b => aheadB b a = false) (fun _ _ _ _ h1 h2 => aheadB_anti h2 h1) h1 h2 hp
theorem sortF_mem {l : List Int} {x : Int} : x ∈ sortF l ↔ x ∈ l := (sortF_perm l).mem_iff
theorem sortF_len (l : List Int) : (sortF l).length = l.length := (sortF_perm l).length_eq
theorem sortF_idem (l : List Int) : sortF (sortF l) = sortF l := sorted_eq (sortF_sorted _) (sortF_sorted _) (sortF_perm _)
theorem sortF_of_sorted {l : List Int} (h : SortedL l) : sortF l = l := sorted_eq (sortF_sorted _) h (sortF_perm _)
theorem sortF_congr {l m : List Int} (h : l.Perm m) : sortF l = sortF m := sorted_eq (sortF_sorted _) (sortF_sorted _) (((sortF_perm l).trans h).trans (sortF_perm m).symm)
theorem perm_of_sortF {l m : List Int} (h : sortF l = sortF m) : l.Perm m := ((sortF_perm l).symm.trans (by rw [h])).trans (sortF_perm m)
theorem Lits.perm {vars : Int} {l m : List Int} (h : Lits vars l) (hp : l.Perm m) : Lits vars m :=
  ⟨fun x hx => h.1 x (hp.mem_iff.2 hx), hp.pairwise h.2 (fun h => Ne.symm h)⟩
theorem Lits.sortF {vars : Int} {l : List Int} (h : Lits vars l) : Lits vars (sortF l) := h.perm (sortF_perm l).symm
theorem satB_perm {a : List Bool} {l m : List Int} (h : l.Perm m) : satB a l = satB a m := by
  unfold satB
  rw [Bool.eq_iff_iff, List.any_eq_true, List.any_eq_true]
  constructor
  · rintro ⟨x, h1, h2⟩; exact ⟨x, h.mem_iff.1 h1, h2⟩
  · rintro ⟨x, h1, h2⟩; exact ⟨x, h.mem_iff.2 h1, h2⟩

/-- Does a clause stand ahead of another one? -/
def befB : List Int → List Int → Bool
  | [], [] => false
  | [], _ :: _ => true
  | _ :: _, [] => false
  | a :: l, b :: m => if a = b then befB l m else aheadB a b
theorem befB_irrefl : ∀ l : List Int, befB l l = false
  | [] => rfl
  | a :: l => by simp [befB, befB_irrefl l]
theorem befB_anti : ∀ {l m : List Int}, befB l m = false → befB m l = false → l = m
  | [], [], _, _ => rfl
  | [], _ :: _, h, _ => by simp [befB] at h
  | _ :: _, [], _, h => by simp [befB] at h
  | a :: l, b :: m, h1, h2 => by
    rw [befB] at h1 h2
    by_cases e : a = b
    · subst e
      rw [if_pos rfl] at h1 h2
      rw [befB_anti h1 h2]
    · rw [if_neg e] at h1
      rw [if_neg (Ne.symm e)] at h2
      exact absurd (aheadB_anti h1 h2) e
theorem befB_trans : ∀ {l m k : List Int}, befB l m = true → befB m k = true → befB l k = true
  | [], [], _, h, _ => by simp [befB] at h
  | [], _ :: _, [], _, h => by simp [befB] at h
  | [], _ :: _, _ :: _, _, _ => rfl
  | _ :: _, [], _, h, _ => by simp [befB] at h
  | _ :: _, _ :: _, [], _, h => by simp [befB] at h
  | a :: l, b :: m, c :: k, h1, h2 => by
    rw [befB] at h1 h2 ⊢
    by_cases e1 : a = b
    · subst e1
      rw [if_pos rfl] at h1
      by_cases e2 : a = c
      · subst e2
        rw [if_pos rfl] at h2 ⊢
        exact befB_trans h1 h2
      · rw [if_neg e2] at h2 ⊢
        exact h2
    · rw [if_neg e1, aheadB_iff] at h1
      by_cases e2 : b = c
      · subst e2
        rw [if_neg e1, aheadB_iff]
        exact h1
      · rw [if_neg e2, aheadB_iff] at h2
        rw [if_neg (fun e => by subst e; omega), aheadB_iff]
        omega
theorem befB_asymm {l m : List Int} (h : befB l m = true) : befB m l = false := by
  rw [Bool.eq_false_iff]
  intro h2
  have := befB_trans h h2
  rw [befB_irrefl] at this
  cases this
theorem befB_ntrans {l m k : List Int} (h1 : befB l m = false) (h2 : befB m k = false) : befB l k = false := by
  rw [Bool.eq_false_iff]
  intro h3
  cases h4 : befB m l
  · have := befB_anti h1 h4
    subst this
    rw [h3] at h2; cases h2
  · have := befB_trans h4 h3
    rw [this] at h2; cases h2

/-- Clauses in order: strictly, so none twice. -/
def SortedR (l : List (List Int)) : Prop := l.Pairwise (fun a b => befB a b = true)
def insR (x : List Int) : List (List Int) → List (List Int)
  | [] => [x]
  | y :: r => if befB y x then y :: insR x r else if y = x then y :: r else x :: y :: r
def normF (xss : List (List Int)) : List (List Int) := xss.foldl (fun o x => insR (sortF x) o) []
theorem insR_mem (x : List Int) : ∀ (l : List (List Int)) (z : List Int), z ∈ insR x l ↔ z = x ∨ z ∈ l
  | [], z => by simp [insR]
  | y :: r, z => by
    rw [insR]
    split
    · rw [List.mem_cons, insR_mem x r z, List.mem_cons]
      constructor
      · rintro (h | h | h) <;> simp [h]
      · rintro (h | h | h) <;> simp [h]
    · split
      · rename_i h; subst h; simp
      · simp
theorem insR_sorted (x : List Int) : ∀ l : List (List Int), SortedR l → SortedR (insR x l)
  | [], _ => by simp [SortedR, insR]
  | y :: r, h => by
    have hp := List.pairwise_cons.1 h
    rw [insR]
    split
    · rename_i hyx
      refine List.Pairwise.cons (fun z hz => ?_) (insR_sorted x r hp.2)
      rcases (insR_mem x r z).1 hz with rfl | hz
      · exact hyx
      · exact hp.1 z hz
    · rename_i hyx
      split
      · exact h
      · rename_i hne
        have hxy : befB x y = true := by
          cases hb : befB x y
          · exact absurd (befB_anti (by simpa using hyx) hb) hne
          · rfl
        refine List.Pairwise.cons (fun z hz => ?_) h
        rcases List.mem_cons.1 hz with rfl | hz
        · exact hxy
        · exact befB_trans hxy (hp.1 z hz)
theorem sortedR_eq : ∀ {l m : List (List Int)}, SortedR l → SortedR m → (∀ x, x ∈ l ↔ x ∈ m) → l = m
  | [], [], _, _, _ => rfl
  | [], b :: m, _, _, h => by have := (h b).2 (by simp); simp at this
  | a :: l, [], _, _, h => by have := (h a).1 (by simp); simp at this
  | a :: l, b :: m, h1, h2, h => by
    have p1 := List.pairwise_cons.1 h1
    have p2 := List.pairwise_cons.1 h2
    have hab : a = b := by
      rcases List.mem_cons.1 ((h a).1 (by simp)) with e | e
      · exact e
      · rcases List.mem_cons.1 ((h b).2 (by simp)) with e' | e'
        · exact e'.symm
        · have := befB_asymm (p1.1 b e')
          rw [p2.1 a e] at this
          cases this
    subst hab
    congr 1
    refine sortedR_eq p1.2 p2.2 fun x => ?_
    have hx := h x
    constructor
    · intro hl
      rcases List.mem_cons.1 (hx.1 (by simp [hl])) with e | e
      · subst e; have := p1.1 x hl; rw [befB_irrefl] at this; cases this
      · exact e
    · intro hm
      rcases List.mem_cons.1 (hx.2 (by simp [hm])) with e | e
      · subst e; have := p2.1 x hm; rw [befB_irrefl] at this; cases this
      · exact e
theorem foldl_insR : ∀ (l o : List (List Int)), SortedR o → SortedR (l.foldl (fun o x => insR (sortF x) o) o) ∧ ∀ z, z ∈ l.foldl (fun o x => insR (sortF x) o) o ↔ (z ∈ o ∨ ∃ x ∈ l, z = sortF x)
  | [], o, h => ⟨h, by simp⟩
  | x :: t, o, h => by
    obtain ⟨h1, h2⟩ := foldl_insR t (insR (sortF x) o) (insR_sorted _ o h)
    refine ⟨h1, fun z => ?_⟩
    rw [List.foldl_cons, h2, insR_mem]
    constructor
    · rintro ((h | h) | ⟨y, hy, h⟩)
      · exact .inr ⟨x, by simp, h⟩
      · exact .inl h
      · exact .inr ⟨y, by simp [hy], h⟩
    · rintro (h | ⟨y, hy, h⟩)
      · exact .inl (.inr h)
      · rcases List.mem_cons.1 hy with rfl | hy
        · exact .inl (.inl h)
        · exact .inr ⟨y, hy, h⟩
theorem normF_sorted (l : List (List Int)) : SortedR (normF l) := (foldl_insR l [] List.Pairwise.nil).1
theorem normF_mem {l : List (List Int)} {z : List Int} : z ∈ normF l ↔ ∃ x ∈ l, z = sortF x := by
  have := (foldl_insR l [] List.Pairwise.nil).2 z
  simpa [normF] using this
theorem normF_idem (l : List (List Int)) : normF (normF l) = normF l := by
  refine sortedR_eq (normF_sorted _) (normF_sorted _) fun z => ?_
  rw [normF_mem]
  constructor
  · rintro ⟨x, hx, rfl⟩
    obtain ⟨y, _, rfl⟩ := normF_mem.1 hx
    rw [sortF_idem]
    exact hx
  · intro hz
    obtain ⟨y, hy, rfl⟩ := normF_mem.1 hz
    exact ⟨sortF y, hz, (sortF_idem y).symm⟩
theorem allB_norm (l : List (List Int)) (a : List Bool) : allB (normF l) a = allB l a := by
  unfold allB
  rw [Bool.eq_iff_iff, List.all_eq_true, List.all_eq_true]
  constructor
  · intro h x hx
    rw [← satB_perm (sortF_perm x)]
    exact h _ (normF_mem.2 ⟨x, hx, rfl⟩)
  · intro h z hz
    obtain ⟨x, hx, rfl⟩ := normF_mem.1 hz
    rw [satB_perm (sortF_perm x)]
    exact h x hx
theorem insR_len (x : List Int) : ∀ l : List (List Int), (insR x l).length ≤ l.length + 1
  | [] => by simp [insR]
  | y :: r => by
    have := insR_len x r
    rw [insR]
    split
    · simp; omega
    · split <;> simp
theorem normF_len (l : List (List Int)) : (normF l).length ≤ l.length := by
  have : ∀ (l o : List (List Int)), (l.foldl (fun o x => insR (sortF x) o) o).length ≤ l.length + o.length := by
    intro l
    induction l with
    | nil => intro o; simp
    | cons x t ih =>
      intro o
      have h1 := ih (insR (sortF x) o)
      have h2 := insR_len (sortF x) o
      simp only [List.foldl_cons, List.length_cons]
      omega
  have := this l []
  simpa [normF] using this
theorem check_norm {vars : Int} {xss : List (List Int)} (h : (checkC vars xss).1 = 0) : checkC vars (normF xss) = (0, 0) := by
  obtain ⟨_, h0, h1, h2, h3⟩ := checkC_ok h
  refine checkC_of h0 h1 (Nat.le_trans (normF_len xss) h2) fun xs hx => ?_
  obtain ⟨x, hx', rfl⟩ := normF_mem.1 hx
  exact ⟨by rw [sortF_len]; exact (h3 x hx').1, (h3 x hx').2.sortF⟩
/-- Neighbours that are the same, once. -/
def compF : List (List Int) → List (List Int)
  | [] => []
  | [x] => [x]
  | x :: y :: r => if x = y then compF (y :: r) else x :: compF (y :: r)
theorem compF_mem : ∀ (l : List (List Int)) (z : List Int), z ∈ compF l ↔ z ∈ l
  | [], _ => by simp [compF]
  | [x], _ => by simp [compF]
  | x :: y :: r, z => by
    rw [compF]
    have ih := compF_mem (y :: r) z
    split
    · rename_i e; subst e; rw [ih]; simp
    · rw [List.mem_cons, ih, List.mem_cons (a := z) (b := x)]
theorem compF_sorted : ∀ l : List (List Int), l.Pairwise (fun a b => befB b a = false) → SortedR (compF l)
  | [], _ => by simp [SortedR, compF]
  | [x], _ => by simp [SortedR, compF]
  | x :: y :: r, h => by
    have hp := List.pairwise_cons.1 h
    have ih := compF_sorted (y :: r) hp.2
    rw [compF]
    split
    · exact ih
    · rename_i hne
      refine List.Pairwise.cons (fun z hz => ?_) ih
      have hz' := (compF_mem (y :: r) z).1 hz
      have h1 := hp.1 z hz'
      cases hb : befB x z
      · have e := befB_anti hb h1
        subst e
        have h2 := hp.1 y (by simp)
        rcases List.mem_cons.1 hz' with e | hz'
        · exact absurd e hne
        · have h3 := (List.pairwise_cons.1 hp.2).1 x hz'
          exact absurd (befB_anti h3 h2) hne
      · rfl
/-- What the program does: sort each, sort all, drop the same: the reference's. -/
theorem norm_of {xss l : List (List Int)} (hp : l.Perm (xss.map sortF)) (hs : l.Pairwise (fun a b => befB b a = false)) : compF l = normF xss := by
  refine sortedR_eq (compF_sorted l hs) (normF_sorted _) fun z => ?_
  rw [compF_mem, normF_mem, hp.mem_iff, List.mem_map]
  constructor
  · rintro ⟨x, hx, rfl⟩; exact ⟨x, hx, rfl⟩
  · rintro ⟨x, hx, rfl⟩; exact ⟨x, hx, rfl⟩
end Go.Proofs.YtlfgcblijfflfaaGreat
