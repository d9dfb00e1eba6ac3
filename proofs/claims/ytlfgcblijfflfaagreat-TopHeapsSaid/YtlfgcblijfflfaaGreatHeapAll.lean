/- HeapAll: the texts HeapPlain, HeapNode, HeapChk, Tms, TermsPlain, Terms, NormPlain, NormSt, HNorm, Tidy, Full in one. -/
import Derived.Test.YtlfgcblijfflfaaGreatSortPlain
import Derived.Test.YtlfgcblijfflfaaGreatCnfA
import Derived.Test.YtlfgcblijfflfaaGreatBoxes
import Derived.Test.YtlfgcblijfflfaaGreatShelf6
import Derived.Test.YtlfgcblijfflfaaGreatRowSort
import Derived.Test.YtlfgcblijfflfaaGreatOrder
import Derived.Test.YtlfgcblijfflfaaGreatOwn
import Derived.Test.YtlfgcblijfflfaaGreatPool
import Derived.Shelf.SlSortCmp.WholeK
import Derived.BigQuiet
import Derived.Maps.OwnSet
import Derived.Maps.RangeWalk
import Derived.StillTailTactics
import Derived.Test.YtlfgcblijfflfaaGreatGrid
import Derived.Test.YtlfgcblijfflfaaGreatClone
import Derived.Test.YtlfgcblijfflfaaGreatTail
/- Sums of literals and their clauses, plainly: terms, the normal form, the saturated form. -/
namespace Go.Proofs.YtlfgcblijfflfaaGreat
set_option linter.unusedSimpArgs false
set_option linter.unusedVariables false

theorem int_dvd_ {g : Nat} {x : Int} (h : g ∣ x.natAbs) : (g : Int) ∣ x := Int.dvd_natAbs.1 (Int.natCast_dvd_natCast.2 h)
theorem litB_neg (m : List Bool) {l : Int} (h : l ≠ 0) : litB m (-l) = !litB m l := by
  unfold litB
  rw [Int.natAbs_neg]
  have : decide (0 < -l) = !decide (0 < l) := by by_cases h1 : 0 < l <;> simp [h1] <;> omega
  rw [this]
  cases m[l.natAbs - 1]?.getD false <;> cases decide (0 < l) <;> rfl

/-- What a sum of literals with weights comes to. -/
def sumT (m : List Bool) : List (Int × Int) → Int
  | [] => 0
  | t :: r => (if litB m t.1 = true then t.2 else 0) + sumT m r
/-- All weights together. -/
def wtT : List (Int × Int) → Int
  | [] => 0
  | t :: r => t.2 + wtT r
/-- The terms of a sum with weights above zero. -/
def tmF : List (Int × Int) → List (Int × Int)
  | [] => []
  | t :: r => if 0 < t.2 then t :: tmF r else if t.2 < 0 then (-t.1, -t.2) :: tmF r else tmF r
/-- What the sum is without them. -/
def tbF : List (Int × Int) → Int
  | [] => 0
  | t :: r => (if t.2 < 0 then t.2 else 0) + tbF r
theorem tm_sum (m : List Bool) : ∀ {ts : List (Int × Int)}, (∀ t ∈ ts, t.1 ≠ 0) → sumT m ts = tbF ts + sumT m (tmF ts)
  | [], _ => rfl
  | t :: r, h => by
    have ih := tm_sum m (ts := r) (fun x hx => h x (List.mem_cons_of_mem _ hx))
    have h0 := h t List.mem_cons_self
    simp only [sumT, tbF, tmF]
    by_cases h1 : 0 < t.2
    · have h2 : ¬ t.2 < 0 := by omega
      simp only [h1, h2, if_true, if_false, sumT]
      omega
    · by_cases h2 : t.2 < 0
      · simp only [h1, h2, if_true, if_false, sumT, litB_neg m h0]
        cases litB m t.1 <;> simp <;> omega
      · have h3 : t.2 = 0 := by omega
        simp only [h1, h2, if_false]
        rw [h3]
        simp
        omega
theorem tm_pos : ∀ {ts : List (Int × Int)}, ∀ t ∈ tmF ts, 0 < t.2
  | [], t, ht => by simp [tmF] at ht
  | x :: r, t, ht => by
    unfold tmF at ht
    split at ht
    · rcases List.mem_cons.1 ht with rfl | ht
      · assumption
      · exact tm_pos t ht
    · split at ht
      · rcases List.mem_cons.1 ht with rfl | ht
        · simp; omega
        · exact tm_pos t ht
      · exact tm_pos t ht
theorem tm_self : ∀ {ts : List (Int × Int)}, (∀ t ∈ ts, 0 < t.2) → tmF ts = ts ∧ tbF ts = 0
  | [], _ => ⟨rfl, rfl⟩
  | t :: r, h => by
    have ih := tm_self (ts := r) (fun x hx => h x (List.mem_cons_of_mem _ hx))
    have h0 := h t List.mem_cons_self
    have h1 : ¬ t.2 < 0 := by omega
    unfold tmF tbF
    rw [if_pos h0, if_neg h1, ih.1, ih.2]
    exact ⟨rfl, rfl⟩
/-- Literals of the first so many variables, rising. -/
def UpT (n : Int) (ts : List (Int × Int)) : Prop := (∀ t ∈ ts, t.1 ≠ 0 ∧ -n ≤ t.1 ∧ t.1 ≤ n) ∧ ts.Pairwise (fun a b => a.1.natAbs < b.1.natAbs)
theorem UpT.tail {n : Int} {t : Int × Int} {r : List (Int × Int)} (h : UpT n (t :: r)) : UpT n r := ⟨fun x hx => h.1 x (List.mem_cons_of_mem _ hx), (List.pairwise_cons.1 h.2).2⟩
theorem tm_abs : ∀ {ts : List (Int × Int)} {t : Int × Int}, t ∈ tmF ts → ∃ x ∈ ts, t.1.natAbs = x.1.natAbs ∧ (t.1 = x.1 ∨ t.1 = -x.1) ∧ t.2.natAbs = x.2.natAbs
  | [], t, ht => by simp [tmF] at ht
  | x :: r, t, ht => by
    unfold tmF at ht
    split at ht
    · rcases List.mem_cons.1 ht with rfl | ht
      · exact ⟨_, List.mem_cons_self, rfl, .inl rfl, rfl⟩
      · obtain ⟨y, hy, h⟩ := tm_abs ht
        exact ⟨y, List.mem_cons_of_mem _ hy, h⟩
    · split at ht
      · rcases List.mem_cons.1 ht with rfl | ht
        · exact ⟨_, List.mem_cons_self, by simp, .inr rfl, by simp⟩
        · obtain ⟨y, hy, h⟩ := tm_abs ht
          exact ⟨y, List.mem_cons_of_mem _ hy, h⟩
      · obtain ⟨y, hy, h⟩ := tm_abs ht
        exact ⟨y, List.mem_cons_of_mem _ hy, h⟩
theorem UpT.tm {n : Int} : ∀ {ts : List (Int × Int)}, UpT n ts → UpT n (tmF ts)
  | [], _ => ⟨by simp [tmF], List.Pairwise.nil⟩
  | x :: r, h => by
    have ih := UpT.tm h.tail
    have hx := h.1 x List.mem_cons_self
    have hp := (List.pairwise_cons.1 h.2).1
    have hlt : ∀ t ∈ tmF r, x.1.natAbs < t.1.natAbs := fun t ht => by
      obtain ⟨y, hy, e, _⟩ := tm_abs ht
      rw [e]
      exact hp y hy
    unfold tmF
    split
    · exact ⟨fun t ht => by rcases List.mem_cons.1 ht with rfl | ht; exact hx; exact ih.1 t ht, List.pairwise_cons.2 ⟨hlt, ih.2⟩⟩
    · split
      · refine ⟨fun t ht => ?_, List.pairwise_cons.2 ⟨fun t ht => by have := hlt t ht; simpa using this, ih.2⟩⟩
        rcases List.mem_cons.1 ht with rfl | ht
        · simp; omega
        · exact ih.1 t ht
      · exact ih
theorem tm_len (ts : List (Int × Int)) : (tmF ts).length ≤ ts.length := by
  induction ts with
  | nil => exact Nat.le_refl _
  | cons t r ih =>
    unfold tmF
    split
    · simp; omega
    · split <;> simp <;> omega

/-- The greatest number that divides all weights. -/
def gcdT : List (Int × Int) → Nat → Nat
  | [], g => g
  | t :: r, g => gcdT r (Nat.gcd t.2.natAbs g)
theorem gcdT_dvd : ∀ (ts : List (Int × Int)) (g : Nat), gcdT ts g ∣ g ∧ ∀ t ∈ ts, gcdT ts g ∣ t.2.natAbs
  | [], g => ⟨Nat.dvd_refl _, by simp⟩
  | t :: r, g => by
    obtain ⟨h1, h2⟩ := gcdT_dvd r (Nat.gcd t.2.natAbs g)
    refine ⟨Nat.dvd_trans h1 (Nat.gcd_dvd_right _ _), fun x hx => ?_⟩
    rcases List.mem_cons.1 hx with rfl | hx
    · exact Nat.dvd_trans h1 (Nat.gcd_dvd_left _ _)
    · exact h2 x hx
/-- The normal form of a sum with weights above zero. -/
def nrmF (ts : List (Int × Int)) (a : Int) : List (Int × Int) × Int :=
  if a ≤ 0 then ([], 0) else if wtT ts < a then ([], 1) else
  (ts.map (fun t => (t.1, t.2.tdiv (gcdT ts 0))), (a + gcdT ts 0 - 1).tdiv (gcdT ts 0))
theorem sum_le (m : List Bool) : ∀ {ts : List (Int × Int)}, (∀ t ∈ ts, 0 < t.2) → 0 ≤ sumT m ts ∧ sumT m ts ≤ wtT ts
  | [], _ => ⟨Int.le_refl _, Int.le_refl _⟩
  | t :: r, h => by
    have ih := sum_le m (ts := r) (fun x hx => h x (List.mem_cons_of_mem _ hx))
    have h0 := h t List.mem_cons_self
    unfold sumT wtT
    split <;> omega
theorem sum_div (m : List Bool) (g : Int) (hg : 0 < g) : ∀ {ts : List (Int × Int)}, (∀ t ∈ ts, 0 < t.2 ∧ g ∣ t.2) → sumT m ts = g * sumT m (ts.map (fun t => (t.1, t.2.tdiv g)))
  | [], _ => by simp [sumT]
  | t :: r, h => by
    have ih := sum_div m g hg (ts := r) (fun x hx => h x (List.mem_cons_of_mem _ hx))
    obtain ⟨h0, k, hk⟩ := h t List.mem_cons_self
    have hd : t.2.tdiv g = k := by rw [hk]; exact Int.mul_tdiv_cancel_left _ (by omega)
    simp only [List.map_cons, sumT, hd]
    rw [Int.mul_add, ← ih]
    split
    · rw [hk]
    · simp
theorem nrm_law (m : List Bool) {ts : List (Int × Int)} {a : Int} (h : ∀ t ∈ ts, 0 < t.2) : ((nrmF ts a).2 ≤ sumT m (nrmF ts a).1 ↔ a ≤ sumT m ts) := by
  have hs := sum_le m h
  unfold nrmF
  by_cases h1 : a ≤ 0
  · simp only [h1, if_true, sumT]
    exact ⟨fun _ => by omega, fun _ => Int.le_refl _⟩
  · by_cases h2 : wtT ts < a
    · simp only [h1, h2, if_true, if_false, sumT]
      exact ⟨fun h => by omega, fun h => by omega⟩
    · simp only [h1, h2, if_false]
      obtain ⟨g, hg⟩ : ∃ g : Nat, gcdT ts 0 = g := ⟨_, rfl⟩
      rw [hg]
      have hd := (gcdT_dvd ts 0).2
      rw [hg] at hd
      have hg0 : 0 < g := by
        cases ts with
        | nil => simp [wtT] at h2; omega
        | cons t r =>
          have := hd t List.mem_cons_self
          have h0 := h t List.mem_cons_self
          rcases Nat.eq_zero_or_pos g with e | e
          · subst e; have := Nat.eq_zero_of_zero_dvd this; omega
          · exact e
      have hsd := sum_div m (g : Int) (by omega) (ts := ts) (fun t ht => ⟨h t ht, int_dvd_ (hd t ht)⟩)
      rw [hsd]
      obtain ⟨s, hs⟩ : ∃ s, sumT m (ts.map (fun t => (t.1, t.2.tdiv (g : Int)))) = s := ⟨_, rfl⟩
      rw [hs]
      rw [Int.tdiv_eq_ediv_of_nonneg (by omega)]
      have hgi : (0 : Int) < g := by omega
      constructor
      · intro hle
        have h3 := Int.lt_ediv_add_one_mul_self (a + g - 1) hgi
        have h4 : ((a + g - 1) / g + 1) * g ≤ (s + 1) * g := Int.mul_le_mul_of_nonneg_right (by omega) (by omega)
        rw [Int.add_mul, Int.add_mul s, Int.mul_comm s] at h4
        rw [Int.add_mul] at h3
        omega
      · intro hle
        have : (a + g - 1) / g < s + 1 := Int.ediv_lt_of_lt_mul hgi (by rw [Int.add_mul, Int.mul_comm s]; omega)
        omega
theorem nrm_pos {ts : List (Int × Int)} {a : Int} (h : ∀ t ∈ ts, 0 < t.2) : (∀ t ∈ (nrmF ts a).1, 0 < t.2) ∧ 0 ≤ (nrmF ts a).2 ∧ ((nrmF ts a).2 = 0 → (nrmF ts a).1 = []) ∧ (∀ t ∈ (nrmF ts a).1, ∃ x ∈ ts, t.1 = x.1 ∧ t.2 ≤ x.2) := by
  unfold nrmF
  by_cases h1 : a ≤ 0
  · simp [h1]
  · by_cases h2 : wtT ts < a
    · simp [h1, h2]
    · simp only [h1, h2, if_false]
      obtain ⟨g, hg⟩ : ∃ g : Nat, gcdT ts 0 = g := ⟨_, rfl⟩
      rw [hg]
      have hd := (gcdT_dvd ts 0).2
      rw [hg] at hd
      have hgp : ∀ t ∈ ts, 0 < g := fun t ht => by
        have := hd t ht
        have h0 := h t ht
        rcases Nat.eq_zero_or_pos g with e | e
        · subst e; have := Nat.eq_zero_of_zero_dvd this; omega
        · exact e
      have hg0 : 0 < g := by
        cases ts with
        | nil => simp [wtT] at h2; omega
        | cons t r => exact hgp t List.mem_cons_self
      have hq : 0 < (a + g - 1).tdiv g := by
        rw [Int.tdiv_eq_ediv_of_nonneg (by omega)]
        have : 1 ≤ (a + g - 1) / (g : Int) := Int.le_ediv_of_mul_le (by omega) (by omega)
        omega
      have hx : ∀ x ∈ ts, 0 < x.2.tdiv (g : Int) ∧ x.2.tdiv (g : Int) ≤ x.2 := fun x hx => by
        obtain ⟨k, hk⟩ := int_dvd_ (hd x hx)
        have h0 := h x hx
        have e : x.2.tdiv (g : Int) = k := by rw [hk]; exact Int.mul_tdiv_cancel_left _ (by omega)
        rw [e]
        have hk0 : 0 < k := by
          rcases Int.lt_trichotomy k 0 with hl | hl | hl
          · have := Int.mul_nonpos_of_nonneg_of_nonpos (show (0 : Int) ≤ g by omega) (show k ≤ 0 by omega)
            omega
          · subst hl; simp at hk; omega
          · exact hl
        refine ⟨hk0, ?_⟩
        rw [hk]
        have : 1 * k ≤ (g : Int) * k := Int.mul_le_mul_of_nonneg_right (by omega) (by omega)
        omega
      refine ⟨fun t ht => ?_, by omega, fun e => by omega, fun t ht => ?_⟩
      · obtain ⟨x, hx', rfl⟩ := List.mem_map.1 ht
        exact (hx x hx').1
      · obtain ⟨x, hx', rfl⟩ := List.mem_map.1 ht
        exact ⟨x, hx', rfl, (hx x hx').2⟩
theorem UpT.map {n : Int} {ts : List (Int × Int)} (f : Int × Int → Int) (h : UpT n ts) : UpT n (ts.map (fun t => (t.1, f t))) :=
  ⟨fun t ht => by obtain ⟨x, hx, rfl⟩ := List.mem_map.1 ht; exact h.1 x hx, List.pairwise_map.2 h.2⟩
theorem UpT.nil (n : Int) : UpT n [] := ⟨by simp, List.Pairwise.nil⟩
theorem UpT.nrm {n : Int} {ts : List (Int × Int)} (a : Int) (h : UpT n ts) : UpT n (nrmF ts a).1 := by
  unfold nrmF
  split
  · exact UpT.nil n
  · split
    · exact UpT.nil n
    · exact h.map _
theorem nrm_len (ts : List (Int × Int)) (a : Int) : (nrmF ts a).1.length ≤ ts.length := by
  unfold nrmF
  split
  · exact Nat.zero_le _
  · split
    · exact Nat.zero_le _
    · simp
/-- Saturated. -/
def satF (h : List (Int × Int) × Int) : List (Int × Int) × Int := nrmF (h.1.map (fun t => (t.1, min t.2 h.2))) h.2
theorem sum_min (m : List Bool) (a : Int) (ha : 0 < a) : ∀ {ts : List (Int × Int)}, (∀ t ∈ ts, 0 < t.2) → 0 ≤ sumT m (ts.map (fun t => (t.1, min t.2 a))) ∧ (a ≤ sumT m (ts.map (fun t => (t.1, min t.2 a))) ↔ a ≤ sumT m ts) ∧ sumT m (ts.map (fun t => (t.1, min t.2 a))) ≤ sumT m ts ∧ (sumT m (ts.map (fun t => (t.1, min t.2 a))) < a → sumT m (ts.map (fun t => (t.1, min t.2 a))) = sumT m ts)
  | [], _ => by simp [sumT]
  | t :: r, h => by
    obtain ⟨i1, i2, i3, i4⟩ := sum_min m a ha (ts := r) (fun x hx => h x (List.mem_cons_of_mem _ hx))
    have h0 := h t List.mem_cons_self
    simp only [List.map_cons, sumT]
    obtain ⟨s, hs⟩ : ∃ s, sumT m (r.map (fun t => (t.1, min t.2 a))) = s := ⟨_, rfl⟩
    obtain ⟨u, hu⟩ : ∃ u, sumT m r = u := ⟨_, rfl⟩
    rw [hs] at i1 i2 i3 i4 ⊢
    rw [hu] at i2 i3 i4 ⊢
    split <;> (refine ⟨by omega, ⟨fun _ => ?_, fun _ => ?_⟩, by omega, fun _ => ?_⟩ <;> omega)
theorem sat_law (m : List Bool) {h : List (Int × Int) × Int} (hp : ∀ t ∈ h.1, 0 < t.2) (h0 : 0 ≤ h.2) (hz : h.2 = 0 → h.1 = []) : ((satF h).2 ≤ sumT m (satF h).1 ↔ h.2 ≤ sumT m h.1) := by
  unfold satF
  rcases Int.lt_or_eq_of_le h0 with ha | ha
  · rw [nrm_law m (fun t ht => by obtain ⟨x, hx, rfl⟩ := List.mem_map.1 ht; have := hp x hx; simp; omega)]
    exact (sum_min m h.2 ha hp).2.1
  · rw [hz ha.symm, ← ha]
    simp [nrmF, sumT]
/-- Tidy, saturated and normal again. -/
def fulF (ts : List (Int × Int)) (a : Int) : List (Int × Int) × Int := satF (nrmF (tmF ts) (a - tbF ts))
theorem ful_law (m : List Bool) {ts : List (Int × Int)} {a : Int} (h : ∀ t ∈ ts, t.1 ≠ 0) : ((fulF ts a).2 ≤ sumT m (fulF ts a).1 ↔ a ≤ sumT m ts) := by
  obtain ⟨p1, p2, p3, _⟩ := nrm_pos (ts := tmF ts) (a := a - tbF ts) tm_pos
  unfold fulF
  rw [sat_law m p1 p2 p3, nrm_law m tm_pos, tm_sum m h]
  omega
theorem ful_ok {n : Int} {ts : List (Int × Int)} {a : Int} (h : UpT n ts) : UpT n (fulF ts a).1 ∧ (∀ t ∈ (fulF ts a).1, 0 < t.2) ∧ (fulF ts a).1.length ≤ ts.length := by
  obtain ⟨p1, p2, p3, _⟩ := nrm_pos (ts := tmF ts) (a := a - tbF ts) tm_pos
  refine ⟨((h.tm.nrm _).map _).nrm _, ?_, Nat.le_trans (nrm_len _ _) (by rw [List.length_map]; exact Nat.le_trans (nrm_len _ _) (tm_len _))⟩
  rcases Int.lt_or_eq_of_le p2 with ha | ha
  · exact (nrm_pos (fun t ht => by obtain ⟨x, hx, rfl⟩ := List.mem_map.1 ht; have := p1 x hx; simp; omega)).1
  · unfold fulF satF
    rw [p3 ha.symm]
    exact (nrm_pos (by simp)).1
end Go.Proofs.YtlfgcblijfflfaaGreat

/- Sums of literals and their clauses, plainly: a variable for each rest, and its clauses. -/
namespace Go.Proofs.YtlfgcblijfflfaaGreat
set_option linter.unusedSimpArgs false
set_option linter.unusedVariables false

theorem all_sum (m : List Bool) : ∀ {ts : List (Int × Int)}, (∀ t ∈ ts, 0 < t.2) → ∀ i, 0 ≤ sumT m (ts.drop i) ∧ sumT m (ts.drop i) ≤ wtT (ts.drop i) := fun h i => sum_le m (fun t ht => h t (List.mem_of_mem_drop ht))

/-- The variables (which rest each of them stands for) and the clauses. -/
structure Nst where
  ns : List (Nat × Int)
  cs : List (List Int)
def idN : List (Nat × Int) → Nat → Int → Option Nat
  | [], _, _ => none
  | x :: r, i, a => if x = (i, a) then some 0 else (idN r i a).map (· + 1)
theorem idN_some : ∀ {l : List (Nat × Int)} {i : Nat} {a : Int} {k : Nat}, idN l i a = some k → l[k]? = some (i, a)
  | [], i, a, k, h => by simp [idN] at h
  | x :: r, i, a, k, h => by
    unfold idN at h
    split at h
    · rename_i e
      cases h
      simp [e]
    · obtain ⟨j, hj, rfl⟩ := Option.map_eq_some_iff.1 h
      simpa using idN_some hj
theorem idN_none : ∀ {l : List (Nat × Int)} {i : Nat} {a : Int}, idN l i a = none → (i, a) ∉ l
  | [], i, a, h => by simp
  | x :: r, i, a, h => by
    unfold idN at h
    split at h
    · cases h
    · rename_i e
      have := idN_none (Option.map_eq_none_iff.1 h)
      simp only [List.mem_cons, not_or]
      exact ⟨fun e' => e e'.symm, this⟩
/-- One way's clause. -/
def adN (cs : List (List Int)) (v l n : Int) (c : Bool) : List (List Int) :=
  if c = false then cs ++ [sortF [-v, l, n]] else if n < 0 then cs ++ [sortF [-v, l]] else cs
/-- The variable that says that the terms from i on can come to at least a (1 and -1, told by 'true': it is always so, never). -/
def nodF (ts : List (Int × Int)) (b : Nat) : Nat → Nat → Int → Nst → Nst × Int × Bool
  | fuel, i, a, s =>
    if a ≤ 0 then (s, 1, true) else if wtT (ts.drop i) < a then (s, -1, true) else
    match idN s.ns i a with
    | some k => (s, (b : Int) + k + 1, false)
    | none =>
      match fuel, ts[i]? with
      | f + 1, some t =>
        let v : Int := (b : Int) + s.ns.length + 1
        let r1 := nodF ts b f (i + 1) (a - t.2) ⟨s.ns ++ [(i, a)], s.cs⟩
        let r0 := nodF ts b f (i + 1) a ⟨r1.1.ns, adN r1.1.cs v (-t.1) r1.2.1 r1.2.2⟩
        (⟨r0.1.ns, adN r0.1.cs v t.1 r0.2.1 r0.2.2⟩, v, false)
      | _, _ => (s, 1, true)
/-- An assignment that knows what the rests come to. -/
def extN (ts : List (Int × Int)) (m : List Bool) (ns : List (Nat × Int)) : List Bool := m ++ ns.map (fun x => decide (x.2 ≤ sumT m (ts.drop x.1)))
/-- Invariant, of the rests from i on. -/
structure NstOk (ts : List (Int × Int)) (b : Nat) (s : Nst) : Prop where
  wf : ∀ c ∈ s.cs, Lits ((b : Int) + s.ns.length) c ∧ c.length ≤ 3
  rng : ∀ x ∈ s.ns, 0 < x.2 ∧ x.1 < ts.length
  all : ∀ m : List Bool, m.length = b → allB s.cs (extN ts m s.ns) = true
/-- Whoever makes the clauses true with a variable of a rest from i on has that rest. -/
def Snd (ts : List (Int × Int)) (b : Nat) (i : Nat) (s : Nst) : Prop :=
  ∀ m : List Bool, allB s.cs m = true → ∀ (k : Nat) (x : Nat × Int), s.ns[k]? = some x → i ≤ x.1 → litB m ((b : Int) + k + 1) = true → x.2 ≤ sumT m (ts.drop x.1)
structure Nxt (i : Nat) (s s' : Nst) : Prop where
  ns : ∃ l, s'.ns = s.ns ++ l ∧ ∀ x ∈ l, i ≤ x.1
  cs : ∃ l, s'.cs = s.cs ++ l ∧ ∀ g : Nat, True
theorem allB_append_ {xs ys : List (List Int)} {m : List Bool} : allB (xs ++ ys) m = true ↔ allB xs m = true ∧ allB ys m = true := by
  unfold allB
  rw [List.all_append, Bool.and_eq_true]
theorem litB_ext (m l : List Bool) {x : Int} (h : x.natAbs ≤ m.length) (h0 : x ≠ 0) : litB (m ++ l) x = litB m x := by
  unfold litB
  rw [List.getElem?_append_left (by omega)]
theorem satB_ext (m l : List Bool) {xs : List Int} (h : ∀ x ∈ xs, x ≠ 0 ∧ x.natAbs ≤ m.length) : satB (m ++ l) xs = satB m xs := by
  unfold satB
  induction xs with
  | nil => rfl
  | cons x r ih =>
    rw [List.any_cons, List.any_cons, litB_ext m l (h x List.mem_cons_self).2 (h x List.mem_cons_self).1, ih (fun y hy => h y (List.mem_cons_of_mem _ hy))]
theorem sumT_ext (m l : List Bool) : ∀ {ts : List (Int × Int)}, (∀ t ∈ ts, t.1 ≠ 0 ∧ t.1.natAbs ≤ m.length) → sumT (m ++ l) ts = sumT m ts
  | [], _ => rfl
  | t :: r, h => by
    have ht := h t List.mem_cons_self
    unfold sumT
    rw [litB_ext m l ht.2 ht.1, sumT_ext m l (fun x hx => h x (List.mem_cons_of_mem _ hx))]
theorem ext_len (ts : List (Int × Int)) (m : List Bool) (ns : List (Nat × Int)) : (extN ts m ns).length = m.length + ns.length := by simp [extN]
theorem ext_more (ts : List (Int × Int)) (m : List Bool) (ns l : List (Nat × Int)) : extN ts m (ns ++ l) = extN ts m ns ++ l.map (fun x => decide (x.2 ≤ sumT m (ts.drop x.1))) := by simp [extN]
theorem ext_at (ts : List (Int × Int)) (m : List Bool) (ns : List (Nat × Int)) {k : Nat} {x : Nat × Int} {b : Nat} (hb : m.length = b) (h : ns[k]? = some x) : litB (extN ts m ns) ((b : Int) + k + 1) = decide (x.2 ≤ sumT m (ts.drop x.1)) := by
  unfold litB extN
  rw [show ((b : Int) + k + 1).natAbs - 1 = b + k by omega, List.getElem?_append_right (by omega), hb, show b + k - b = k by omega, List.getElem?_map, h]
  have : decide (0 < (b : Int) + k + 1) = true := decide_eq_true (by omega)
  rw [this]
  simp
theorem Lits.wide {v v' : Int} {c : List Int} (h : Lits v c) (hv : v ≤ v') : Lits v' c := ⟨fun x hx => by have := h.1 x hx; omega, h.2⟩
theorem lits3 {v a b c : Int} (ha : a ≠ 0 ∧ -v ≤ a ∧ a ≤ v) (hb : b ≠ 0 ∧ -v ≤ b ∧ b ≤ v) (hc : c ≠ 0 ∧ -v ≤ c ∧ c ≤ v) (h1 : a.natAbs ≠ b.natAbs) (h2 : a.natAbs ≠ c.natAbs) (h3 : b.natAbs ≠ c.natAbs) : Lits v [a, b, c] := by
  refine ⟨fun x hx => ?_, ?_⟩
  · simp at hx
    rcases hx with rfl | rfl | rfl <;> assumption
  · simp; exact ⟨⟨h1, h2⟩, h3⟩
theorem lits2 {v a b : Int} (ha : a ≠ 0 ∧ -v ≤ a ∧ a ≤ v) (hb : b ≠ 0 ∧ -v ≤ b ∧ b ≤ v) (h1 : a.natAbs ≠ b.natAbs) : Lits v [a, b] := by
  refine ⟨fun x hx => ?_, ?_⟩
  · simp at hx
    rcases hx with rfl | rfl <;> assumption
  · simp; exact h1
theorem sat3 {m : List Bool} {a b c : Int} : satB m (sortF [a, b, c]) = true ↔ litB m a = true ∨ litB m b = true ∨ litB m c = true := by
  rw [satB_perm (sortF_perm _)]
  simp [satB]
theorem sat2 {m : List Bool} {a b : Int} : satB m (sortF [a, b]) = true ↔ litB m a = true ∨ litB m b = true := by
  rw [satB_perm (sortF_perm _)]
  simp [satB]
theorem allB_one {m : List Bool} {c : List Int} : allB [c] m = true ↔ satB m c = true := by simp [allB]
/-- What a call returns, told of the world at its end. -/
structure Ndd (ts : List (Int × Int)) (b : Nat) (i : Nat) (a : Int) (s s' : Nst) (v : Int) (c : Bool) : Prop where
  ok : NstOk ts b s'
  ns : ∃ l, s'.ns = s.ns ++ l ∧ ∀ x ∈ l, i ≤ x.1
  cs : ∃ l, s'.cs = s.cs ++ l ∧ l.length + 2 * s.ns.length ≤ 2 * s'.ns.length
  cnt : s'.ns.length + 1 ≤ s.ns.length + 2 ^ (ts.length - i)
  snd : Snd ts b i s → Snd ts b i s'
  con : c = true → (v = 1 ∧ a ≤ 0) ∨ (v = -1 ∧ wtT (ts.drop i) < a)
  var : c = false → ∃ k : Nat, v = (b : Int) + k + 1 ∧ s'.ns[k]? = some (i, a)
theorem allB_ext (ts : List (Int × Int)) (m : List Bool) (ns l : List (Nat × Int)) {b : Nat} (hb : m.length = b) {cs : List (List Int)} (h : ∀ c ∈ cs, Lits ((b : Int) + ns.length) c) : allB cs (extN ts m (ns ++ l)) = allB cs (extN ts m ns) := by
  unfold allB
  rw [ext_more]
  induction cs with
  | nil => rfl
  | cons c r ih =>
    rw [List.all_cons, List.all_cons, ih (fun y hy => h y (List.mem_cons_of_mem _ hy)), satB_ext _ _ (fun x hx => ?_)]
    have := (h c List.mem_cons_self).1 x hx
    rw [ext_len, hb]
    omega
theorem ndd_same {ts : List (Int × Int)} {b i : Nat} {a : Int} {s : Nst} {v : Int} {c : Bool} (h : NstOk ts b s) (hc : c = true → (v = 1 ∧ a ≤ 0) ∨ (v = -1 ∧ wtT (ts.drop i) < a)) (hv : c = false → ∃ k : Nat, v = (b : Int) + k + 1 ∧ s.ns[k]? = some (i, a)) : Ndd ts b i a s s v c :=
  ⟨h, ⟨[], by simp, by simp⟩, ⟨[], by simp, by simp⟩, by have := Nat.one_le_two_pow (n := ts.length - i); omega, id, hc, hv⟩
/-- What a clause of one way says. -/
theorem adN_ok {ts : List (Int × Int)} {b i : Nat} {a' : Int} {s s' : Nst} {n : Int} {c : Bool} {v l : Int} {k0 : Nat} {C : Prop} (hb : 0 < b) (hd : Ndd ts b (i + 1) a' s s' n c) (hs : C → Snd ts b (i + 1) s')
    (hv : v = (b : Int) + k0 + 1) {a : Int} (hk : s'.ns[k0]? = some (i, a)) (hl : l ≠ 0 ∧ -(b : Int) ≤ l ∧ l ≤ b)
    (hsem : ∀ m : List Bool, m.length = b → a ≤ sumT m (ts.drop i) → litB m l = true ∨ a' ≤ sumT m (ts.drop (i + 1))) (hpos : ∀ t ∈ ts, 0 < t.2) (hlt : ∀ t ∈ ts, t.1 ≠ 0 ∧ -(b : Int) ≤ t.1 ∧ t.1 ≤ b) :
    NstOk ts b ⟨s'.ns, adN s'.cs v l n c⟩ ∧ (∃ x, adN s'.cs v l n c = s'.cs ++ x ∧ x.length ≤ 1) ∧ (C → Snd ts b (i + 1) ⟨s'.ns, adN s'.cs v l n c⟩) ∧
    (C → ∀ m : List Bool, allB (adN s'.cs v l n c) m = true → litB m v = true → litB m l = true ∨ a' ≤ sumT m (ts.drop (i + 1))) := by
  have hkl : k0 < s'.ns.length := (List.getElem?_eq_some_iff.1 hk).1
  have hv0 : v ≠ 0 := by omega
  have sndx : ∀ x, C → Snd ts b (i + 1) ⟨s'.ns, s'.cs ++ x⟩ := fun x hC m hm k y hy => hs hC m (allB_append_.1 hm).1 k y hy
  have hvt : ∀ m : List Bool, m.length = b → litB (extN ts m s'.ns) v = decide (a ≤ sumT m (ts.drop i)) := fun m hm => by rw [hv]; exact ext_at ts m s'.ns hm hk
  have hlx : ∀ m : List Bool, m.length = b → litB (extN ts m s'.ns) l = litB m l := fun m hm => litB_ext m _ (by omega) hl.1
  unfold adN
  cases c with
  | false =>
    obtain ⟨k, hn, hkn⟩ := hd.var rfl
    have hkl' : k < s'.ns.length := (List.getElem?_eq_some_iff.1 hkn).1
    have hne : k ≠ k0 := fun e => by
      subst e
      rw [hkn] at hk
      simp at hk
    simp only [if_true]
    refine ⟨⟨fun c hc => ?_, hd.ok.rng, fun m hm => ?_⟩, ⟨_, rfl, by simp⟩, sndx _, fun hC m hm hv' => ?_⟩
    · rcases List.mem_append.1 hc with hc | hc
      · exact hd.ok.wf c hc
      · rw [List.mem_singleton.1 hc]
        show Lits ((b : Int) + s'.ns.length) _ ∧ _
        exact ⟨(lits3 (by omega) (by omega) (by omega) (by omega) (by omega) (by omega)).sortF, by rw [sortF_len]; simp⟩
    · rw [allB_append_, allB_one, sat3]
      refine ⟨hd.ok.all m hm, ?_⟩
      by_cases h1 : a ≤ sumT m (ts.drop i)
      · rcases hsem m hm h1 with h2 | h2
        · exact .inr (.inl (by rw [hlx m hm]; exact h2))
        · refine .inr (.inr ?_)
          rw [hn, ext_at ts m s'.ns hm hkn]
          exact decide_eq_true h2
      · left
        rw [litB_neg _ hv0, hvt m hm, decide_eq_false h1]
        rfl
    · obtain ⟨h1, h2⟩ := allB_append_.1 hm
      rw [allB_one, sat3, litB_neg _ hv0, hv'] at h2
      rcases h2 with h2 | h2 | h2
      · cases h2
      · exact .inl h2
      · exact .inr (hs hC m h1 k (i + 1, a') hkn (Nat.le_refl _) (by rw [← hn]; exact h2))
  | true =>
    simp only [Bool.true_eq_false, if_false]
    rcases hd.con rfl with ⟨rfl, ha⟩ | ⟨rfl, ha⟩
    · have : ¬ ((1 : Int) < 0) := by omega
      simp only [this, if_false]
      exact ⟨hd.ok, ⟨[], by simp, by simp⟩, hs, fun _ m hm hv' => .inr (by have := (all_sum m hpos (i + 1)).1; omega)⟩
    · have : (-1 : Int) < 0 := by omega
      simp only [this, if_true]
      refine ⟨⟨fun c hc => ?_, hd.ok.rng, fun m hm => ?_⟩, ⟨_, rfl, by simp⟩, sndx _, fun hC m hm hv' => ?_⟩
      · rcases List.mem_append.1 hc with hc | hc
        · exact hd.ok.wf c hc
        · rw [List.mem_singleton.1 hc]
          show Lits ((b : Int) + s'.ns.length) _ ∧ _
          exact ⟨(lits2 (by omega) (by omega) (by omega)).sortF, by rw [sortF_len]; simp⟩
      · rw [allB_append_, allB_one, sat2]
        refine ⟨hd.ok.all m hm, ?_⟩
        by_cases h1 : a ≤ sumT m (ts.drop i)
        · rcases hsem m hm h1 with h2 | h2
          · exact .inr (by rw [hlx m hm]; exact h2)
          · have := (all_sum m hpos (i + 1)).2
            omega
        · left
          rw [litB_neg _ hv0, hvt m hm, decide_eq_false h1]
          rfl
      · obtain ⟨h1, h2⟩ := allB_append_.1 hm
        rw [allB_one, sat2, litB_neg _ hv0, hv'] at h2
        rcases h2 with h2 | h2
        · cases h2
        · exact .inl h2
theorem nod_ok {ts : List (Int × Int)} {b : Nat} (hb : 0 < b) (hpos : ∀ t ∈ ts, 0 < t.2) (hlt : ∀ t ∈ ts, t.1 ≠ 0 ∧ -(b : Int) ≤ t.1 ∧ t.1 ≤ b) :
    ∀ (fuel i : Nat) (a : Int) (s : Nst), NstOk ts b s → i ≤ ts.length → ts.length ≤ i + fuel → Ndd ts b i a s (nodF ts b fuel i a s).1 (nodF ts b fuel i a s).2.1 (nodF ts b fuel i a s).2.2
  | fuel, i, a, s, h, hi, hf => by
    unfold nodF
    by_cases h1 : a ≤ 0
    · simp only [h1, if_true]
      exact ndd_same h (fun _ => .inl ⟨rfl, h1⟩) (fun e => by cases e)
    by_cases h2 : wtT (ts.drop i) < a
    · simp only [h1, h2, if_true, if_false]
      exact ndd_same h (fun _ => .inr ⟨rfl, h2⟩) (fun e => by cases e)
    simp only [h1, h2, if_false]
    cases hk : idN s.ns i a with
    | some k => exact ndd_same h (fun e => by cases e) (fun _ => ⟨k, rfl, idN_some hk⟩)
    | none =>
      have hil : i < ts.length := by
        rcases Nat.lt_or_ge i ts.length with e | e
        · exact e
        · rw [List.drop_eq_nil_of_le e] at h2
          simp [wtT] at h2
          omega
      obtain ⟨f, rfl⟩ : ∃ f, fuel = f + 1 := ⟨fuel - 1, by omega⟩
      obtain ⟨t, ht⟩ : ∃ t, ts[i]? = some t := ⟨_, List.getElem?_eq_getElem hil⟩
      have htm : t ∈ ts := List.mem_of_getElem? ht
      have ht2 := hpos t htm
      have htl := hlt t htm
      have hdrop : ts.drop i = t :: ts.drop (i + 1) := by
        rw [List.drop_eq_getElem_cons hil]
        congr 1
        exact (List.getElem?_eq_some_iff.1 ht).2
      rw [ht]
      simp only
      obtain ⟨v, hv⟩ : ∃ v : Int, (b : Int) + s.ns.length + 1 = v := ⟨_, rfl⟩
      have hs1 : NstOk ts b ⟨s.ns ++ [(i, a)], s.cs⟩ := by
        refine ⟨fun c hc => ⟨(h.wf c hc).1.wide (by simp; omega), (h.wf c hc).2⟩, fun x hx => ?_, fun m hm => ?_⟩
        · rcases List.mem_append.1 hx with hx | hx
          · exact h.rng x hx
          · rw [List.mem_singleton.1 hx]; exact ⟨by simp; omega, hil⟩
        · rw [allB_ext ts m s.ns _ hm (fun c hc => (h.wf c hc).1)]
          exact h.all m hm
      have d1 := nod_ok hb hpos hlt f (i + 1) (a - t.2) _ hs1 hil (by omega)
      obtain ⟨⟨s1, n1, c1⟩, hr1⟩ : ∃ r, nodF ts b f (i + 1) (a - t.2) ⟨s.ns ++ [(i, a)], s.cs⟩ = r := ⟨_, rfl⟩
      rw [hv]
      rw [hr1] at d1 ⊢
      simp only at d1 ⊢
      obtain ⟨l1, e1, o1⟩ := d1.ns
      obtain ⟨x1, f1, g1⟩ := d1.cs
      simp only [List.length_append, List.length_singleton] at g1
      have hk0 : s1.ns[s.ns.length]? = some (i, a) := by rw [e1, List.append_assoc, List.getElem?_append_right (Nat.le_refl _)]; simp
      have snd1 : Snd ts b i s → Snd ts b (i + 1) s1 := fun hs => d1.snd fun m hm k x hx hix => by
        rcases Nat.lt_or_ge k s.ns.length with e | e
        · rw [List.getElem?_append_left e] at hx
          exact hs m hm k x hx (by omega)
        · rw [List.getElem?_append_right e] at hx
          have : x = (i, a) := by
            have := List.mem_of_getElem? hx
            simpa using this
          subst this
          simp at hix
          omega
      have sem1 : ∀ m : List Bool, a ≤ sumT m (ts.drop i) → litB m (-t.1) = true ∨ a - t.2 ≤ sumT m (ts.drop (i + 1)) := fun m hm => by
        rw [hdrop, sumT] at hm
        rw [litB_neg _ htl.1]
        cases hx : litB m t.1 with
        | false => exact .inl rfl
        | true => rw [hx] at hm; simp at hm; exact .inr (by omega)
      have sem0 : ∀ m : List Bool, a ≤ sumT m (ts.drop i) → litB m t.1 = true ∨ a ≤ sumT m (ts.drop (i + 1)) := fun m hm => by
        rw [hdrop, sumT] at hm
        cases hx : litB m t.1 with
        | true => exact .inl rfl
        | false => rw [hx] at hm; simp at hm; exact .inr hm
      obtain ⟨w1, ⟨y1, z1, z1'⟩, w2, w3⟩ := adN_ok hb d1 snd1 (v := v) (l := -t.1) (k0 := s.ns.length) hv.symm hk0 (by omega) (fun m _ => sem1 m) hpos hlt
      have d0 := nod_ok hb hpos hlt f (i + 1) a _ w1 hil (by omega)
      obtain ⟨⟨s0, n0, c0⟩, hr0⟩ : ∃ r, nodF ts b f (i + 1) a ⟨s1.ns, adN s1.cs v (-t.1) n1 c1⟩ = r := ⟨_, rfl⟩
      rw [hr0] at d0 ⊢
      simp only at d0 ⊢
      obtain ⟨l0, e0, o0⟩ := d0.ns
      obtain ⟨x0, f0, g0⟩ := d0.cs
      simp only at e0 f0 g0
      have hk0' : s0.ns[s.ns.length]? = some (i, a) := by rw [e0, List.getElem?_append_left (List.getElem?_eq_some_iff.1 hk0).1]; exact hk0
      obtain ⟨u1, ⟨y0, z0, z0'⟩, u2, u3⟩ := adN_ok hb d0 (fun hs => d0.snd (w2 hs)) (v := v) (l := t.1) (k0 := s.ns.length) hv.symm hk0' (by omega) (fun m _ => sem0 m) hpos hlt
      have hcnt1 := d1.cnt
      have hcnt0 := d0.cnt
      simp only [List.length_append, List.length_singleton] at hcnt1 hcnt0
      have hpow : 2 ^ (ts.length - i) = 2 ^ (ts.length - (i + 1)) + 2 ^ (ts.length - (i + 1)) := by
        rw [show ts.length - i = (ts.length - (i + 1)) + 1 by omega, Nat.pow_succ]
        omega
      have hcs : adN s0.cs v t.1 n0 c0 = s.cs ++ (x1 ++ y1 ++ x0 ++ y0) := by rw [z0, f0, z1, f1]; simp
      refine ⟨u1, ⟨(i, a) :: l1 ++ l0, by rw [e0, e1]; simp, fun x hx => ?_⟩, ⟨_, hcs, ?_⟩, by show s0.ns.length + 1 ≤ _; omega, fun hs => ?_, fun e => absurd e (by simp), fun _ => ⟨s.ns.length, hv.symm, hk0'⟩⟩
      · simp at hx
        rcases hx with rfl | hx | hx
        · exact Nat.le_refl _
        · exact Nat.le_of_succ_le (o1 x hx)
        · exact Nat.le_of_succ_le (o0 x hx)
      · have := congrArg List.length e1
        simp at this
        simp
        omega
      · intro m hm k x hx hix hlv
        rcases Nat.lt_or_ge k s.ns.length with e | e
        · refine hs m ?_ k x ?_ hix hlv
          · rw [hcs] at hm; exact (allB_append_.1 hm).1
          · have : s0.ns = s.ns ++ ((i, a) :: l1 ++ l0) := by rw [e0, e1]; simp
            simp only at hx
            rw [this, List.getElem?_append_left e] at hx
            exact hx
        · rcases Nat.lt_or_eq_of_le e with e | e
          · refine u2 hs m hm k x hx ?_ hlv
            have : s0.ns = (s.ns ++ [(i, a)]) ++ (l1 ++ l0) := by rw [e0, e1]; simp
            simp only at hx
            rw [this, List.getElem?_append_right (by simp; omega)] at hx
            have := List.mem_of_getElem? hx
            rcases List.mem_append.1 this with h3 | h3
            · exact o1 x h3
            · exact o0 x h3
          · subst e
            simp only at hx
            rw [hk0'] at hx
            cases hx
            have hlv' : litB m v = true := by rw [← hv]; exact hlv
            simp only
            rw [hdrop, sumT]
            have a0 := u3 hs m hm hlv'
            have hm1 : allB (adN s1.cs v (-t.1) n1 c1) m = true := by
              simp only at hm
              rw [z0, f0] at hm
              exact (allB_append_.1 (allB_append_.1 hm).1).1
            have a1 := w3 hs m hm1 hlv'
            rw [litB_neg _ htl.1] at a1
            cases hx : litB m t.1 with
            | true => rw [hx] at a1; simp at a1 ⊢; omega
            | false => rw [hx] at a0; simp at a0 ⊢; omega
/-- All clauses of a sum, and how many variables. -/
def clsN (ts : List (Int × Int)) (b : Nat) (a : Int) : Nat × List (List Int) :=
  let r := nodF ts b ts.length 0 a ⟨[], []⟩
  (b + r.1.ns.length, if r.2.2 = false then r.1.cs ++ [[r.2.1]] else if r.2.1 < 0 then r.1.cs ++ [[]] else r.1.cs)
theorem cls_law {ts : List (Int × Int)} {b : Nat} (hb : 0 < b) (hpos : ∀ t ∈ ts, 0 < t.2) (hlt : ∀ t ∈ ts, t.1 ≠ 0 ∧ -(b : Int) ≤ t.1 ∧ t.1 ≤ b) (a : Int) (h4 : ts.length ≤ 4) :
    (clsN ts b a).1 ≤ b + 15 ∧ (clsN ts b a).2.length ≤ 31 ∧ (∀ c ∈ (clsN ts b a).2, c.length ≤ 3 ∧ Lits ((clsN ts b a).1 : Int) c) ∧
    (∀ m : List Bool, m.length = b → a ≤ sumT m ts → ∃ l : List Bool, (m ++ l).length = (clsN ts b a).1 ∧ allB (clsN ts b a).2 (m ++ l) = true) ∧ (∀ m : List Bool, allB (clsN ts b a).2 m = true → a ≤ sumT m ts) := by
  have h0 : NstOk ts b ⟨[], []⟩ := ⟨by simp, by simp, fun m _ => by simp [allB]⟩
  have d := nod_ok hb hpos hlt ts.length 0 a _ h0 (Nat.zero_le _) (by omega)
  unfold clsN
  obtain ⟨⟨s, v, c⟩, hr⟩ : ∃ r, nodF ts b ts.length 0 a ⟨[], []⟩ = r := ⟨_, rfl⟩
  rw [hr] at d ⊢
  simp only at d ⊢
  have hc := d.cnt
  obtain ⟨x, e, g⟩ := d.cs
  simp only [List.length_nil, List.nil_append, Nat.sub_zero, Nat.mul_zero] at hc e g
  have hp : 2 ^ ts.length ≤ 2 ^ 4 := Nat.pow_le_pow_right (by omega) h4
  have hn : s.ns.length ≤ 15 := by omega
  have hl : s.cs.length ≤ 30 := by rw [e]; omega
  have hsnd := d.snd (fun m _ k x hx => by simp at hx)
  have hlen : ∀ m : List Bool, m.length = b → (extN ts m s.ns).length = b + s.ns.length := fun m hm => by rw [ext_len, hm]
  refine ⟨by omega, ?_, ?_, ?_, ?_⟩
  · split
    · simp; omega
    · split
      · simp; omega
      · omega
  · have wf : ∀ y ∈ s.cs, y.length ≤ 3 ∧ Lits ((b + s.ns.length : Nat) : Int) y := fun y hy => ⟨(d.ok.wf y hy).2, by have := (d.ok.wf y hy).1; rw [Int.natCast_add]; exact this⟩
    intro y hy
    cases c with
    | false =>
      simp only [if_true] at hy
      obtain ⟨k, hk, hkn⟩ := d.var rfl
      have hkl := (List.getElem?_eq_some_iff.1 hkn).1
      rcases List.mem_append.1 hy with hy | hy
      · exact wf y hy
      · rw [List.mem_singleton.1 hy]
        refine ⟨by simp, ⟨fun z hz => ?_, by simp⟩⟩
        rw [List.mem_singleton.1 hz]
        omega
    | true =>
      simp only [Bool.true_eq_false, if_false] at hy
      split at hy
      · rcases List.mem_append.1 hy with hy | hy
        · exact wf y hy
        · rw [List.mem_singleton.1 hy]
          exact ⟨by simp, ⟨by simp, by simp⟩⟩
      · exact wf y hy
  · intro m hm ha
    refine ⟨s.ns.map (fun x : Nat × Int => decide (x.2 ≤ sumT m (ts.drop x.1))), hlen m hm, ?_⟩
    have hall := d.ok.all m hm
    show allB _ (extN ts m s.ns) = true
    cases c with
    | false =>
      obtain ⟨k, hk, hkn⟩ := d.var rfl
      simp only [if_true]
      rw [allB_append_, allB_one]
      refine ⟨hall, ?_⟩
      have := ext_at ts m s.ns hm hkn
      rw [← hk] at this
      simp [satB, this]
      exact ha
    | true =>
      simp only [Bool.true_eq_false, if_false]
      rcases d.con rfl with ⟨rfl, h5⟩ | ⟨rfl, h5⟩
      · simp only [show ¬ ((1 : Int) < 0) by omega, if_false]
        exact hall
      · have := (all_sum m hpos 0).2
        simp at this h5
        omega
  · intro m hm
    cases c with
    | false =>
      simp only [if_true] at hm
      obtain ⟨k, hk, hkn⟩ := d.var rfl
      obtain ⟨h5, h6⟩ := allB_append_.1 hm
      rw [allB_one] at h6
      simp [satB] at h6
      have := hsnd m h5 k (0, a) hkn (Nat.le_refl _) (by rw [← hk]; exact h6)
      simpa using this
    | true =>
      simp only [Bool.true_eq_false, if_false] at hm
      rcases d.con rfl with ⟨rfl, h5⟩ | ⟨rfl, h5⟩
      · have := (sum_le m hpos).1
        omega
      · simp only [show (-1 : Int) < 0 by omega, if_true] at hm
        obtain ⟨_, h6⟩ := allB_append_.1 hm
        simp [allB, satB] at h6
end Go.Proofs.YtlfgcblijfflfaaGreat

/- Contracts of heap.whole, heap.Check (at sums that may be), heap.gcd. -/
namespace Go.Proofs.YtlfgcblijfflfaaGreat
open Go.RowKit
set_option linter.unusedSimpArgs false
set_option linter.unusedVariables false

theorem whole_any (x : Int) (w : World) (h1 : -1000000 ≤ x) (h2 : x ≤ 1000000) : Calls Tryz.prog 82 #[.int .i64 x] w (RetQ (.bool true) w) := by
  go_enter Tryz.func82, Tryz.ntmps82
  go_wp2_with fail
  go_ret
  exact RetQ.of0 rfl
theorem chk1_any (z y : Int) (B : Nat) (W : World) (hc : W.cell? ⟨B, 0, none⟩ = some (.int .i64 y)) (h1 : -9223372036854775807 ≤ z) (h2 : z ≤ 9223372036854775807) (h3 : -9223372036854775807 ≤ y) (h4 : y ≤ 9223372036854775807) :
    Calls Tryz.prog 81 #[.int .i64 z, .pointer (some ⟨B, 0, none⟩)] W (RetQ (.bool (z.natAbs == y.natAbs)) W) := by
  go_enter Tryz.func81, Tryz.ntmps81
  go_wp2_with fail
  go_quiet ((go_at_call 48; exact RetQ.quiet (var_any _ _ (by omega) (by omega))))
  go_wp2_with fail
  go_ret
  exact RetQ.of _ (by rw [nat_beq]; rfl)
theorem enters_chk1 : Enters Tryz.prog 81 := enters_of Tryz.func81 (by kernel_rfl) rfl

set_option maxHeartbeats 2000000 in
set_option maxRecDepth 100000 in
theorem check_heap (L O : Option Addr) (n c d : Nat) (ls os : List Int) (a vars : Int) (w : World) (h1 : Ints w L n c ls) (h2 : Ints w O n d os) (hn : n ≤ 24) (v0 : 0 ≤ vars) (v1 : vars ≤ 120)
    (hl : ∀ l ∈ ls, l ≠ 0 ∧ -vars ≤ l ∧ l ≤ vars) (hp : ls.Pairwise (fun x y => x.natAbs ≠ y.natAbs)) (ho : ∀ o ∈ os, -1000000 ≤ o ∧ o ≤ 1000000) (a0 : -1000000 ≤ a) (a1 : a ≤ 1000000) :
    Calls Tryz.prog 49 #[.agg #[.slice L n c, .slice O n d, .int .i64 a], .int .i64 vars] w (RetV (.agg #[.int .i64 0, .int .i64 0]) w) := by
  have H1 := Lib.hid h1
  have H2 := Lib.hid h2
  have HL := Lib.hid hl
  have HP := Lib.hid hp
  have HO := Lib.hid ho
  have hbd := h1.bd
  have hlen := Lib.hid h1.len
  obtain ⟨w2, hw2⟩ : ∃ z : World, Hid (z = (w.alloc (.cells #[.slice L n c, .slice O n d, .int .i64 a] 54)).alloc (.cells #[.int .i64 0, .int .i64 0] 28)) := ⟨_, rfl⟩
  have HB0 : Hid (Below w.heap.size w w2) := by rw [Hid, hw2.out]; exact below_alloc (below_new _ _) _
  have HK0 : Hid (Blk w2 w.heap.size 54 #[.slice L n c, .slice O n d, .int .i64 a]) := by rw [hw2.out]; exact (Blk.new _ _ _).alloc _
  have HF0 : Hid (Blk w2 (w.heap.size + 1) 28 #[.int .i64 0, .int .i64 0]) := by rw [hw2.out]; have := Blk.new (w.alloc (.cells #[.slice L n c, .slice O n d, .int .i64 a] 54)) 28 #[.int .i64 0, .int .i64 0]; simpa [Hid] using this
  have v2 : ¬ vars < 0 := by omega
  have v3 : ¬ (120 : Int) < vars := by omega
  have v4 : ¬ (24 : Int) < (n : Int) := by omega
  have v44 : decide ((24 : Int) < (n : Int)) = false := decide_eq_false v4
  clear h1 h2 hl hp ho
  go_enter Tryz.func49, Tryz.ntmps49
  go_wp2_with fail
  rw [← hw2.out]
  go_loopw [33] (fun s wr => ∃ k : Nat, k ≤ n ∧ s = .int .i64 k ∧ Hid (Below w.heap.size w wr) ∧ Hid (Blk wr w.heap.size 54 #[.slice L n c, .slice O n d, .int .i64 a]) ∧ Hid (Blk wr (w.heap.size + 1) 28 #[.int .i64 0, .int .i64 0])) (fun q _ => n - (intOf q).toNat)
  case atStart => exact ⟨0, Nat.zero_le _, rfl, HB0, HK0, HF0⟩
  case round =>
    clear HB0 HK0 HF0
    obtain ⟨k, hk, rfl, HB, HK, HF⟩ := hrel
    have k0 := HK.out.cell 0
    have k1 := HK.out.cell 1
    have k2 := HK.out.cell 2
    have k4 := HK.out.lt
    simp at k0 k1 k2
    by_cases hlt : k < n
    · have hx := H1.out.keep HB.out
      obtain ⟨b, off, y, hLe, hb, hcell, y1, y2, hy⟩ := hx.round hlt
      have hoi := H2.out.keep HB.out
      obtain ⟨b2, off2, o, hOe, hb2, hcell2, o1, o2, hok⟩ := hoi.round hlt
      have hob := HO.out o (List.mem_of_getElem? hok.out)
      have hyb := HL.out y (List.mem_of_getElem? hy.out)
      have d0 : (y == 0) = false := by simp; omega
      have d1 : ¬ y < -vars := by omega
      have d2 : ¬ vars < y := by omega
      have hsl := Lib.hid ((hx.take (Nat.le_of_lt hlt)).keep (below_new wr (.cells #[.int .i64 y] 3)))
      have HB1 := Lib.hid (below_alloc HB.out (.cells #[.int .i64 y] 3))
      have hbn := below_new wr (.cells #[.int .i64 y] 3)
      have HK1 := Lib.hid (HK.out.keep hbn)
      have HF1 := Lib.hid (HF.out.keep hbn)
      have hc21 := keepBox hbn hcell2
      have HPR : Hid (Pred 81 #[.pointer (some ⟨wr.heap.size, 0, none⟩)] (ls.take k) (fun z => z.natAbs == y.natAbs) (wr.alloc (.cells #[.int .i64 y] 3))) := by
        intro W x hW hx
        have hzx := HL.out x (List.mem_of_mem_take hx)
        exact (chk1_any x y wr.heap.size W (keepBox hW (by simp [go_sem])) (by omega) (by omega) (by omega) (by omega)).mono fun _ _ hh => hh.v
      have HQ : Hid ((ls.take k).any (fun z => z.natAbs == y.natAbs) = false) := by
        rw [Hid, List.any_eq_false]
        intro z hz
        obtain ⟨i, hi, e⟩ := List.getElem_of_mem hz
        rw [List.length_take] at hi
        rw [List.getElem_take] at e
        obtain ⟨hkl, e2⟩ := List.getElem?_eq_some_iff.1 hy.out
        have := List.pairwise_iff_getElem.1 HP.out i k (by omega) hkl (by omega)
        rw [e, e2] at this
        simpa using this
      have q0 : (0 : Int) ≤ (k : Int) := by omega
      have q1 : (k : Int) < (n : Int) := by omega
      subst hLe
      clear hx hoi hbn HK HF HB hy hok
      go_wp2_with fail
      refine (containsFunc_ints _ _ _ _ _ hsl.out _ _ enters_chk1 _ HPR.out false HQ).mono ?_
      rintro e w1 ⟨rfl, hb1⟩
      have HB2 := Lib.hid (below_next HB1.out hb1)
      have HK2 := Lib.hid (HK1.out.keep hb1)
      have HF2 := Lib.hid (HF1.out.keep hb1)
      replace hc21 := keepBox hb1 hc21
      have z21 := (cell_lt hc21).1
      have k0 := HK2.out.cell 0
      have k1 := HK2.out.cell 1
      have k4 := HK2.out.lt
      simp at k0 k1
      subst hOe
      clear hb1 HB1 HK1 HF1 hcell hcell2
      go_wp2_with fail
      refine (whole_any o w1 hob.1 hob.2).mono ?_
      rintro e w3 ⟨rfl, m3, hm3⟩
      have hb3 : Below w1.heap.size w1 w3 := by rw [hm3]; exact below_drewN _ _
      have HB3 := Lib.hid (below_next HB2.out hb3)
      have HK3 := Lib.hid (HK2.out.keep hb3)
      have HF3 := Lib.hid (HF2.out.keep hb3)
      clear hb3 hm3 HB2 HK2 HF2
      go_wp2_with fail
      go_roundw
      case rel => exact ⟨k + 1, by omega, by go_num, HB3, HK3, HF3⟩
      case measure => simp [intOf] <;> omega
    · have q1 : ¬ (k : Int) < (n : Int) := by omega
      go_wp2_with fail
      refine (whole_any a wr a0 a1).mono ?_
      rintro e w3 ⟨rfl, m3, hm3⟩
      have hb3 : Below wr.heap.size wr w3 := by rw [hm3]; exact below_drewN _ _
      have HB3 := Lib.hid (below_next HB.out hb3)
      have HF3 := Lib.hid (HF.out.keep hb3)
      have r0 := HF3.out.cell 0
      have r1 := HF3.out.cell 1
      have r2 := HF3.out.frozen 0
      have r3 := HF3.out.frozen 1
      have r4 := HF3.out.lt
      simp at r0 r1
      clear hb3 hm3 HB HK HF k0 k1 k2
      go_wp2_with fail
      exact bodyPost_ret (v := .agg #[.int .i64 0, .int .i64 0]) (by simp [results, Tryz.results49, go_sem, r0, r1, r4]) rfl
        ⟨rfl, below_put2 HB3.out (g := w.heap.size + 1) (Nat.le_succ _) _ _⟩

theorem gcd_any (x y : Nat) (w : World) (hx : x ≤ 1000000) (hy : y ≤ 1000000) : Calls Tryz.prog 103 #[.int .i64 x, .int .i64 y] w (RetQ (.int .i64 (Nat.gcd x y)) w) := by
  go_enter Tryz.func103, Tryz.ntmps103
  go_wp2_with fail
  go_loopw [0, 1] (fun s0 s1 wr => ∃ p q m : Nat, p ≤ 1000000 ∧ q ≤ 1000000 ∧ s0 = .int .i64 p ∧ s1 = .int .i64 q ∧ Hid (Nat.gcd p q = Nat.gcd x y) ∧ Hid (wr = w.drewN m)) (fun _ q _ => (intOf q).toNat)
  case atStart => exact ⟨x, y, 0, hx, hy, rfl, rfl, rfl, rfl⟩
  case round =>
    obtain ⟨p, q, m, hp, hq, rfl, rfl, HG, HW⟩ := hrel
    by_cases h0 : q = 0
    · subst h0
      have : p = Nat.gcd x y := by have := HG.out; rw [Nat.gcd_zero_right] at this; exact this
      have hw := HW.out
      subst hw
      go_wp2_with fail
      go_ret
      rw [← this]
      exact ⟨rfl, m, rfl⟩
    · have d0 : ((q : Int) != 0) = true := by rw [bne_iff_ne]; omega
      have d1 : ((q : Int) == 0) = false := by rw [beq_eq_false_iff_ne]; omega
      have hne : ¬ (q : Int) = 0 := by omega
      have hmod : (p : Int).tmod (q : Int) = ((p % q : Nat) : Int) := by rw [Int.tmod_eq_emod_of_nonneg (by omega), Int.natCast_emod]
      have hlt : p % q < q := Nat.mod_lt _ (by omega)
      have HG2 : Hid (Nat.gcd q (p % q) = Nat.gcd x y) := by rw [Hid, ← HG.out, Nat.gcd_comm p q, Nat.gcd_rec q p, Nat.gcd_comm]
      go_wp2_with fail
      go_quiet (fail)
      go_wp2_with fail
      go_roundw
      case rel => exact ⟨q, p % q, m + nq, hq, by omega, by go_num, by go_num, HG2, by show _ = _; rw [HW.out, World.drewN_drewN]⟩
      case measure => simp [intOf] <;> omega
end Go.Proofs.YtlfgcblijfflfaaGreat

/- A slice of terms (literal, weight) of the call's own: made, grown, read, sorted by variable. -/
namespace Go.Proofs.YtlfgcblijfflfaaGreat
open Go.RowKit Go.Sort
set_option linter.unusedSimpArgs false
set_option linter.unusedVariables false

section
variable {P : Program} (w : World)
/-- One element of K cells is appended to a row of the call's own. -/
theorem wpList_append_tm {ops : Array Oper} {rest : List Oper} {o : Oper} {a : Act} {Q : Exit → Act → World → Prop} (hgd : o.guard = none) (s x : Operand) (t : TypeId)
    (ho : o.op = .call { callee := .builtin .append, args := #[s, x], argTypes := #[t, t] }) (K by_ : Nat)
    (base : Nat) (e : TypeId) (i : TypeInfo) (z : Value) (ht : P.underlying t = some (.slice e)) (hi : P.info? e = some i) (hz : i.zero = some z)
    (hsize : i.size = K) (hby : i.bytes = by_) (hzs : z.cells.size = K) (hK : 0 < K)
    (B : Option Addr) (n d : Nat) (xs : List Value) (hs : a.eval s = .slice B n d) (hown : w.ownsRow base e K (.slice B n d) n xs)
    (b : Nat) (news : List Value) (hx : a.eval x = .slice (some ⟨b, 0, none⟩) 1 1) (hl : news.length = K) (hc : ∀ j u, news[j]? = some u → w.cell? ⟨b, j, none⟩ = some u) (h1 : ∀ u ∈ news, u.oneCell' = true)
    (h63 : n + 1 ≤ maxLen) (hbytes : (n + 1) * by_ ≤ 140737488355328) (hbase : base ≤ w.heap.size)
    (h : ∀ B' d' w', w'.ownsRow base e K (.slice B' (n + 1) d') (n + 1) (xs ++ news) → w.grownBy w' (blockOf B) → wpList P ops Q rest (a.put o.dst (.slice B' (n + 1) d')) w') : wpList P ops Q (o :: rest) a w := by
  refine wpList_plain hgd fun _ hKK => ?_
  have form : ∀ (v' : Value) (w' : World), w'.ownsRow base e K v' (n + 1) (xs ++ news) → ∃ B' d', v' = Value.slice B' (n + 1) d' := fun v' w' h => by
    rcases h.2 with ⟨hv, hn⟩ | ⟨g, cap, cur, hv, _⟩
    · omega
    · exact ⟨_, _, hv⟩
  obtain ⟨v', w', hrun, h2, h3, _, h5⟩ := run_append_own_at (P := P) w base t o.type e i z K by_ ht hi hz hsize hby hzs hK (.slice B n d) n xs hown ⟨b, 0, none⟩ 1 1 news (by rw [hl]; simp) (fun j u hj => by
    have := hc j u hj
    unfold Addr.add
    by_cases h0 : j = 0
    · subst h0; simpa using this
    · simpa [h0] using this) h1 h63 hbytes hbase
  obtain ⟨B', d', rfl⟩ := form v' w' h2
  rw [blockOf_own] at h3
  unfold Oper.wp execOp
  simp only [ho, resolve, invoke, builtin, Sem.run_bind, Sem.run_pure, Result.andThen_ok, List.map_toArray, List.map_cons, List.map_nil, hs, hx, hrun]
  exact hKK _ _ (h B' d' w' h2 h3)
end

def cellsT (t : Int × Int) : List Value := [.int .i64 t.1, .int .i64 t.2]
theorem term_info : (Tryz.prog.info? 149).map (fun i => (i.zero, i.size, i.bytes)) = some (some (.agg #[.int .i64 0, .int .i64 0]), 2, 16) := by kernel_rfl
/-- A slice of terms of the call's own. -/
def OwnT (w : World) (base : Nat) (B : Option Addr) (n d : Nat) (ts : List (Int × Int)) : Prop := w.ownsRow base 149 2 (.slice B n d) n (ts.flatMap cellsT)
theorem flatT_len (ts : List (Int × Int)) : (ts.flatMap cellsT).length = ts.length * 2 := by
  induction ts with
  | nil => rfl
  | cons t r ih => rw [List.flatMap_cons, List.length_append, ih]; simp [cellsT]; omega
section
variable {w w' : World} {base n d : Nat} {B : Option Addr} {ts : List (Int × Int)}
theorem OwnT.nil (w : World) (base : Nat) : OwnT w base none 0 0 [] := World.ownsRow_nil w base _ _
theorem OwnT.len (h : OwnT w base B n d ts) : ts.length = n := by have := h.1; rw [flatT_len] at this; omega
theorem OwnT.form (h : OwnT w base B n d ts) : (B = none ∧ n = 0 ∧ d = 0 ∧ ts = []) ∨ ∃ g cur, B = some ⟨g, 0, none⟩ ∧ base ≤ g ∧ w.heap[g]? = some (.cells cur 149 (0, 0)) ∧ n ≤ d ∧ d ≤ maxLen ∧ cur.size = d * 2 ∧ cur.toList.take (n * 2) = ts.flatMap cellsT := by
  have hl := h.len
  rcases h.2 with ⟨h2, h3⟩ | ⟨g, cap, cur, h2, h3, h4, h5, h6, h7, h8⟩
  · left
    injection h2 with a1 a2 a3
    subst h3
    exact ⟨a1, rfl, a3, List.eq_nil_of_length_eq_zero hl⟩
  · right
    injection h2 with a1 a2 a3
    subst a3
    exact ⟨g, cur, a1, h3, h4, h5, h6, by simpa using h7, by simpa using h8⟩
theorem OwnT.keep (h : OwnT w base B n d ts) (hb : Below w.heap.size w w') : OwnT w' base B n d ts := by
  refine ⟨h.1, ?_⟩
  rcases h.2 with h2 | ⟨g, cap, cur, hv, hg, hh, r⟩
  · exact .inl h2
  · exact .inr ⟨g, cap, cur, hv, hg, (hb.block g (heap_lt hh)).trans hh, r⟩
theorem OwnT.kept {row : Option Nat} (h : OwnT w base B n d ts) (hg : w.grownBy w' row) (hne : blockOf B = none ∨ blockOf B ≠ row) : OwnT w' base B n d ts :=
  World.ownsRow.kept h hg (by rw [blockOf_own]; exact hne)
theorem OwnT.at_base {k : Nat} (h : OwnT w base B n d ts) (hk : blockOf B = some k) : base ≤ k ∧ Typed 149 w k := by
  rcases h.form with ⟨rfl, _⟩ | ⟨g', cur, rfl, hg, hh, _⟩
  · cases hk
  · cases hk; exact ⟨hg, ⟨_, _, hh⟩⟩
theorem OwnT.round (h : OwnT w base B n d ts) {k : Nat} (hk : k < n) : ∃ g l o, B = some ⟨g, 0, none⟩ ∧ base ≤ g ∧ g < w.heap.size ∧ w.cell? ⟨g, k * 2, none⟩ = some (.int .i64 l) ∧ w.cell? ⟨g, k * 2 + 1, none⟩ = some (.int .i64 o) ∧ Hid (ts[k]? = some (l, o)) := by
  have hl := h.len
  have hg9 := h
  rcases h.form with ⟨_, h0, _⟩ | ⟨g, cur, rfl, hg, hh, _⟩
  · omega
  · have hat : ∀ (l : List (Int × Int)) (k j : Nat) (v : Int × Int), l[k]? = some v → j < 2 → (l.flatMap cellsT)[k * 2 + j]? = (cellsT v)[j]? := fun l => by
      induction l with
      | nil => intro k j v hv; simp at hv
      | cons a r ih =>
        intro k j v hv hj
        rw [List.flatMap_cons]
        cases k with
        | zero =>
          simp at hv
          subst hv
          rw [List.getElem?_append_left (by simp [cellsT]; omega), Nat.zero_mul, Nat.zero_add]
        | succ k =>
          rw [List.getElem?_append_right (by simp [cellsT]; omega), show (k + 1) * 2 + j - (cellsT a).length = k * 2 + j by simp [cellsT]; omega]
          exact ih k j v (by simpa using hv) hj
    have hk' : ts[k]? = some ts[k] := List.getElem?_eq_getElem (by omega)
    have c0 := World.ownsRow.cellAt hg9 (k * 2) (by omega)
    have c1 := World.ownsRow.cellAt hg9 (k * 2 + 1) (by omega)
    rw [hat ts k 1 _ hk' (by omega)] at c1
    have e0 := hat ts k 0 _ hk' (by omega)
    rw [Nat.add_zero] at e0
    rw [e0] at c0
    exact ⟨g, ts[k].1, ts[k].2, rfl, hg, heap_lt hh, by simpa [cellsT] using c0, by simpa [cellsT] using c1, hk'⟩
end

theorem cmp_tm (a b c d : Int) (w : World) (h1 : -1000000 ≤ a ∧ a ≤ 1000000) (h2 : -1000000 ≤ c ∧ c ≤ 1000000) :
    Calls Tryz.prog 129 #[.agg #[.int .i64 a, .int .i64 b], .agg #[.int .i64 c, .int .i64 d]] w (RetG (.int .i64 (cmpI a.natAbs c.natAbs)) w) := by
  go_enter Tryz.func129, Tryz.ntmps129
  go_wp2_with fail
  go_quiet ((first | (go_at_call 48; exact RetQ.quiet (var_any _ _ (by omega) (by omega))) | (go_at_call 37; exact RetQ.quiet (compare_any _ _ _))))
  all_goals go_wp2_with fail
  all_goals go_ret
  all_goals (refine ⟨rfl, nq, #[.cells #[.int .i64 a, .int .i64 b] 149, .cells #[.int .i64 c, .int .i64 d] 149], ?_⟩; rw [alloc_eq_grow, alloc_eq_grow, grow_grow]; rfl)

/-- A term with a literal within bounds. -/
structure TmB where
  v : Int × Int
  h : -1000000 ≤ v.1 ∧ v.1 ≤ 1000000
instance : Inhabited TmB := ⟨⟨(0, 0), by omega⟩⟩
theorem tmB_list : ∀ (ts : List (Int × Int)), (∀ t ∈ ts, -1000000 ≤ t.1 ∧ t.1 ≤ 1000000) → ∃ D : List TmB, D.map (fun t : TmB => t.v) = ts
  | [], _ => ⟨[], rfl⟩
  | t :: r, h => by
    obtain ⟨D, hD⟩ := tmB_list r (fun x hx => h x (List.mem_cons_of_mem _ hx))
    exact ⟨⟨t, h t List.mem_cons_self⟩ :: D, by rw [List.map_cons, hD]⟩
def TmB.enc (t : TmB) : List Value := cellsT t.1
def tmCmp (x y : TmB) : Int := cmpI x.1.1.natAbs y.1.1.natAbs
theorem tm_lt (x y : TmB) : ltOf tmCmp x y = decide (x.1.1.natAbs < y.1.1.natAbs) := by
  unfold ltOf tmCmp cmpI
  by_cases h : x.1.1.natAbs < y.1.1.natAbs
  · have : (x.1.1.natAbs : Int) < y.1.1.natAbs := by omega
    simp [h, this]
  · have : ¬ (x.1.1.natAbs : Int) < y.1.1.natAbs := by omega
    by_cases h2 : (y.1.1.natAbs : Int) < x.1.1.natAbs <;> simp [h, this, h2]
theorem tm_swo : SWO (ltOf tmCmp) where
  irrefl x := by rw [tm_lt]; simp
  trans x y z h1 h2 := by rw [tm_lt] at *; simp at *; omega
  ntrans x y z h1 h2 := by rw [tm_lt] at *; simp at *; omega
theorem tm_lays (w : World) (g size : Nat) : CmpLays Tryz.prog 129 #[] TmB.enc 2 tmCmp g 0 size w := fun m os dk _ x y =>
  cmp_tm x.1.1 x.1.2 y.1.1 y.1.2 _ x.2 y.2
theorem enters_tm : ∀ args w, (callFunc 129 args).run Tryz.prog w = .ok (.enter 129 args) w := enters_of Tryz.func129 (by kernel_rfl) rfl
theorem flatK_tm {α : Type} [Inhabited α] (enc : α → List Value) (hk : ∀ x, (enc x).length = 2) (d : List α) : (flatK enc 2 d.toArray).toList = d.flatMap enc := by
  apply List.ext_getElem?
  intro t
  have hfl : ∀ l : List α, (l.flatMap enc).length = l.length * 2 := fun l => by
    induction l with
    | nil => rfl
    | cons a r ih => rw [List.flatMap_cons, List.length_append, ih, hk, List.length_cons]; omega
  have hat : ∀ (l : List α) (k j : Nat) (v : α), l[k]? = some v → j < 2 → (l.flatMap enc)[k * 2 + j]? = (enc v)[j]? := fun l => by
    induction l with
    | nil => intro k j v hv; simp at hv
    | cons a r ih =>
      intro k j v hv hj
      rw [List.flatMap_cons]
      cases k with
      | zero =>
        simp at hv
        subst hv
        rw [List.getElem?_append_left (by rw [hk]; omega), Nat.zero_mul, Nat.zero_add]
      | succ k =>
        rw [List.getElem?_append_right (by rw [hk]; omega), hk, show (k + 1) * 2 + j - 2 = k * 2 + j by omega]
        exact ih k j v (by simpa using hv) hj
  by_cases ht : t < d.length * 2
  · have h1 : t / 2 < d.length := by omega
    have h2 := hat d (t / 2) (t % 2) d[t / 2] (List.getElem?_eq_getElem h1) (by omega)
    rw [show t / 2 * 2 + t % 2 = t by omega] at h2
    rw [h2]
    have h3 : (enc d[t / 2])[t % 2]? = some (enc d[t / 2])[t % 2]! := by
      rw [List.getElem!_eq_getElem?_getD, List.getElem?_eq_getElem (by rw [hk]; omega)]; rfl
    rw [h3]
    simp [flatK, ht, h1]
  · rw [List.getElem?_eq_none (by simp; omega), List.getElem?_eq_none (by rw [hfl]; omega)]
theorem ownT_sorted {w : World} {base g n c m : Nat} {xs : List Value} (h : w.ownsRow base 149 2 (.slice (some ⟨g, 0, none⟩) n c) n xs) (F : Array Value) (hd : F.size = n * 2) (os : Array Obj) : (sortWorld id w g 0 m F os).ownsRow base 149 2 (.slice (some ⟨g, 0, none⟩) n c) n F.toList := by
  rcases h.2 with ⟨h0, _⟩ | ⟨g', cap, cur, h0, hg, hh, h1, h2, h3, h4⟩
  · cases h0
  · cases h0
    refine ⟨by simp [hd], .inr ⟨g, c, putCells id 0 F cur, rfl, hg, sortWorld_heap id w g m F os hh, h1, h2, by simp [putCells, h3], ?_⟩⟩
    have := putCells_take id F cur (by omega)
    rw [hd] at this
    simpa using this

set_option maxHeartbeats 1000000 in
theorem sort_tms (base n d : Nat) (B : Option Addr) (ts : List (Int × Int)) (w : World) (h : OwnT w base B n d ts) (hn : n ≤ 1000000) (hb : ∀ t ∈ ts, -1000000 ≤ t.1 ∧ t.1 ≤ 1000000) :
    Calls Tryz.prog 128 #[.slice B n d, .func (.func 129) #[] #[]] w fun e w' => e = .returned (.tuple #[]) ∧ w.grownBy w' (blockOf B) ∧ ∃ qs : List (Int × Int), ts.Perm qs ∧ qs.Pairwise (fun x y => x.1.natAbs ≤ y.1.natAbs) ∧ OwnT w' base B n d qs := by
  have hlen := h.len
  rcases h.form with ⟨rfl, rfl, rfl, h0⟩ | ⟨g, cur, rfl, hg, hh, hnd, hdm, hcs, _⟩
  · refine (Tryz.slices_SortFunc_none_f128 (α := Nat) none 0 _ w).mono ?_
    rintro e w' ⟨rfl, hw⟩
    rw [hw]
    exact ⟨rfl, World.grownBy.refl w _, ts, List.Perm.refl _, by rw [h0]; exact List.Pairwise.nil, h⟩
  · obtain ⟨D, hD⟩ : ∃ D : List TmB, D.map (fun t : TmB => t.v) = ts := tmB_list ts hb
    have hsz : D.toArray.size = n := by rw [← hlen, ← hD]; simp
    have hxs : ts.flatMap cellsT = D.flatMap TmB.enc := by rw [← hD, List.flatMap_map]; rfl
    have hfl := flatK_tm TmB.enc (fun _ => rfl) D
    have hH : HoldsK TmB.enc 2 w g 0 D.toArray := by
      intro j hj
      refine ⟨?_, World.ownsRow.frozenAt h (0 + j)⟩
      rw [size_flatK, hsz] at hj
      have h1 := World.ownsRow.cellAt h j (by omega)
      rw [Nat.zero_add, h1, hxs, ← hfl, Array.getElem?_toList]
      have : j < (flatK TmB.enc 2 D.toArray).size := by rw [size_flatK, hsz]; omega
      rw [getElem?_pos (flatK TmB.enc 2 D.toArray) j this, getElem!_pos (flatK TmB.enc 2 D.toArray) j this]
      rfl
    have hcon := Tryz.slices_SortFunc_k_f128 2 (fun w => by kernel_rfl) (fun w => by kernel_rfl) TmB.enc (fun _ => rfl) (fun x v hv => by
      simp [TmB.enc, cellsT] at hv
      rcases hv with rfl | rfl <;> rfl) tmCmp tm_swo 129 #[] g 0 d D.toArray w enters_tm (tm_lays w g _) hH (heap_lt hh) (by omega)
    rw [hsz] at hcon
    refine hcon.mono ?_
    rintro e w' ⟨rfl, d', m, os, hp, hsd, rfl⟩
    obtain ⟨p1, p2⟩ := permIn_list hsz hp
    have hso := sortedIn_list p1 hsd
    have hgr := sortWorld_grown id w g m (flatK TmB.enc 2 d') os
    have hfl' := flatK_tm TmB.enc (fun _ => rfl) d'.toList
    refine ⟨rfl, hgr, d'.toList.map (fun t : TmB => t.v), ?_, ?_, ?_⟩
    · have := p2.map (fun t : TmB => t.v)
      rw [show D.toArray.toList = D from rfl, hD] at this
      exact this.symm
    · rw [List.pairwise_map]
      refine hso.imp fun {a b} h9 => ?_
      rw [tm_lt] at h9
      simpa using h9
    · have := ownT_sorted (m := m) h (flatK TmB.enc 2 d') (by rw [size_flatK, p1]) os
      rw [show (flatK TmB.enc 2 d') = flatK TmB.enc 2 d'.toList.toArray by simp, hfl'] at this
      unfold OwnT
      rw [List.flatMap_map]
      exact this
theorem up_sorted : ∀ {ts qs : List (Int × Int)}, ts.Pairwise (fun a b => a.1.natAbs < b.1.natAbs) → ts.Perm qs → qs.Pairwise (fun x y => x.1.natAbs ≤ y.1.natAbs) → qs = ts := fun {ts qs} h1 hp h2 => by
  have hinj : ∀ a ∈ ts, ∀ b ∈ ts, a.1.natAbs = b.1.natAbs → a = b := fun a ha b hb e => by
    obtain ⟨i, hi, ei⟩ := List.getElem_of_mem ha
    obtain ⟨j, hj, ej⟩ := List.getElem_of_mem hb
    rcases Nat.lt_trichotomy i j with h | h | h
    · have := List.pairwise_iff_getElem.1 h1 i j hi hj h
      rw [ei, ej] at this
      omega
    · subst h; rw [← ei, ← ej]
    · have := List.pairwise_iff_getElem.1 h1 j i hj hi h
      rw [ei, ej] at this
      omega
  exact (List.Perm.eq_of_pairwise (le := fun x y => x.1.natAbs ≤ y.1.natAbs) (fun a b ha hb h3 h4 => hinj a (hp.mem_iff.2 ha) b hb (Nat.le_antisymm h3 h4)) h2 (h1.imp fun h => Nat.le_of_lt h) hp.symm)
end Go.Proofs.YtlfgcblijfflfaaGreat

/- The terms of a sum by a map of amounts, plainly. Of no program. -/
namespace Go.Proofs.YtlfgcblijfflfaaGreat
set_option linter.unusedSimpArgs false
set_option linter.unusedVariables false

def keyT (t : Int × Int) : Int := (t.1.natAbs : Int)
def amtT (t : Int × Int) : Int := if 0 < t.1 then t.2 else -t.2
/-- The amount at a variable. -/
def amF : List (Int × Int) → Int → Int
  | [], _ => 0
  | t :: r, x => (if x = keyT t then amtT t else 0) + amF r x
/-- The weights of the denied literals. -/
def bsF : List (Int × Int) → Int
  | [] => 0
  | t :: r => (if 0 < t.1 then 0 else t.2) + bsF r
def tmK (am : Int → Int) (k : Int) : List (Int × Int) := if 0 < am k then [(k, am k)] else if am k < 0 then [(-k, -am k)] else []
def mnF (am : Int → Int) (k : Int) : Int := if am k < 0 then am k else 0
def sumK (f : Int → Int) : List Int → Int
  | [] => 0
  | k :: r => f k + sumK f r
theorem amF_app : ∀ (l r : List (Int × Int)) (x : Int), amF (l ++ r) x = amF l x + amF r x
  | [], r, x => by simp [amF]
  | t :: l, r, x => by rw [List.cons_append, amF, amF, amF_app l r x]; omega
theorem bsF_app : ∀ (l r : List (Int × Int)), bsF (l ++ r) = bsF l + bsF r
  | [], r => by simp [bsF]
  | t :: l, r => by rw [List.cons_append, bsF, bsF, bsF_app l r]; omega
theorem sumK_app (f : Int → Int) : ∀ (l r : List Int), sumK f (l ++ r) = sumK f l + sumK f r
  | [], r => by simp [sumK]
  | t :: l, r => by rw [List.cons_append, sumK, sumK, sumK_app f l r]; omega
theorem sumK_perm {f : Int → Int} {l r : List Int} (h : l.Perm r) : sumK f l = sumK f r := by
  induction h with
  | nil => rfl
  | cons x _ ih => rw [sumK, sumK, ih]
  | swap x y l => rw [sumK, sumK, sumK, sumK]; omega
  | trans _ _ ih1 ih2 => rw [ih1, ih2]
theorem amF_none : ∀ {l : List (Int × Int)} {x : Int}, (∀ t ∈ l, x ≠ keyT t) → amF l x = 0
  | [], x, _ => rfl
  | t :: r, x, h => by
    rw [amF, if_neg (h t List.mem_cons_self), amF_none (fun y hy => h y (List.mem_cons_of_mem _ hy))]
    rfl
theorem amF_some {n : Int} : ∀ {l : List (Int × Int)}, UpT n l → ∀ t ∈ l, amF l (keyT t) = amtT t
  | [], _, t, ht => by cases ht
  | a :: r, h, t, ht => by
    have hp := (List.pairwise_cons.1 h.2).1
    rcases List.mem_cons.1 ht with rfl | ht
    · rw [amF, if_pos rfl, amF_none (fun y hy => by have := hp y hy; unfold keyT; omega)]
      omega
    · have := hp t ht
      rw [amF, if_neg (by unfold keyT; omega), amF_some h.tail t ht]
      omega
theorem keys_nodup {n : Int} {l : List (Int × Int)} (h : UpT n l) : (l.map keyT).Nodup := by
  unfold List.Nodup
  rw [List.pairwise_map]
  exact h.2.imp fun h => by unfold keyT; omega
theorem amF_fresh {n : Int} {l : List (Int × Int)} (h : UpT n l) {i : Nat} {t : Int × Int} (hi : l[i]? = some t) : amF (l.take i) (keyT t) = 0 := by
  apply amF_none
  intro y hy
  obtain ⟨j, hj, e⟩ := List.getElem_of_mem hy
  rw [List.length_take] at hj
  rw [List.getElem_take] at e
  obtain ⟨hil, e2⟩ := List.getElem?_eq_some_iff.1 hi
  have := List.pairwise_iff_getElem.1 h.2 j i (by omega) hil (by omega)
  rw [e, e2] at this
  unfold keyT
  omega
def tm1 (t : Int × Int) : List (Int × Int) := if 0 < t.2 then [t] else if t.2 < 0 then [(-t.1, -t.2)] else []
theorem tmF_flat : ∀ l : List (Int × Int), tmF l = l.flatMap tm1
  | [] => rfl
  | t :: r => by
    rw [List.flatMap_cons, ← tmF_flat r, tmF]
    unfold tm1
    split
    · simp
    · split <;> simp
theorem tm_keys {n : Int} {l : List (Int × Int)} (h : UpT n l) : (l.map keyT).flatMap (tmK (amF l)) = tmF l := by
  rw [List.flatMap_map, tmF_flat]
  have : ∀ t ∈ l, tmK (amF l) (keyT t) = tm1 t := fun t ht => by
    have h0 := (h.1 t ht).1
    unfold tmK tm1
    rw [amF_some h t ht]
    unfold amtT keyT
    by_cases h1 : 0 < t.1
    · simp only [h1, if_true]
      have : ((t.1.natAbs : Nat) : Int) = t.1 := by omega
      rw [this]
    · simp only [h1, if_false]
      have e1 : ((t.1.natAbs : Nat) : Int) = -t.1 := by omega
      rw [e1]
      by_cases h2 : 0 < t.2
      · have a1 : ¬ 0 < -t.2 := by omega
        have a2 : -t.2 < 0 := by omega
        have a3 : ¬ t.2 < 0 := by omega
        simp [h2, a1, a2, a3]
      · by_cases h3 : t.2 < 0
        · have a1 : 0 < -t.2 := by omega
          simp [h2, h3, a1]
        · have a1 : ¬ 0 < -t.2 := by omega
          have a2 : ¬ -t.2 < 0 := by omega
          simp [h2, h3, a1, a2]
  clear h
  have key : ∀ {α β : Type} (l : List α) (f g : α → List β), (∀ t ∈ l, f t = g t) → l.flatMap f = l.flatMap g := fun l f g h => by
    induction l with
    | nil => rfl
    | cons a r ih => rw [List.flatMap_cons, List.flatMap_cons, h a List.mem_cons_self, ih (fun t ht => h t (List.mem_cons_of_mem _ ht))]
  exact key l _ _ this
theorem tb_keys {n : Int} {l : List (Int × Int)} (h : UpT n l) : bsF l + sumK (mnF (amF l)) (l.map keyT) = tbF l := by
  have h1 : ∀ t ∈ l, (if 0 < t.1 then 0 else t.2) + mnF (amF l) (keyT t) = (if t.2 < 0 then t.2 else 0) := fun t ht => by
    have h0 := (h.1 t ht).1
    unfold mnF
    rw [amF_some h t ht]
    unfold amtT
    by_cases h1 : 0 < t.1
    · simp only [h1, if_true]; omega
    · simp only [h1, if_false]
      split <;> split <;> omega
  have key : ∀ (f : Int → Int) (r : List (Int × Int)), (∀ t ∈ r, (if 0 < t.1 then 0 else t.2) + f (keyT t) = (if t.2 < 0 then t.2 else 0)) → bsF r + sumK f (r.map keyT) = tbF r := fun f r => by
    induction r with
    | nil => intro _; rfl
    | cons t r ih =>
      intro hh
      have h2 := ih (fun x hx => hh x (List.mem_cons_of_mem _ hx))
      have h3 := hh t List.mem_cons_self
      rw [List.map_cons, bsF, sumK, tbF]
      omega
  exact key _ _ h1
theorem am_bd {n : Int} {l : List (Int × Int)} (h : UpT n l) (hb : ∀ t ∈ l, -1000000 ≤ t.2 ∧ t.2 ≤ 1000000) (x : Int) : -1000000 ≤ amF l x ∧ amF l x ≤ 1000000 := by
  by_cases hx : ∃ t ∈ l, x = keyT t
  · obtain ⟨t, ht, rfl⟩ := hx
    rw [amF_some h t ht]
    have := hb t ht
    unfold amtT
    split <;> omega
  · rw [amF_none (fun t ht e => hx ⟨t, ht, e⟩)]
    omega
theorem bs_bd : ∀ {l : List (Int × Int)}, (∀ t ∈ l, -1000000 ≤ t.2 ∧ t.2 ≤ 1000000) → -(1000000 * (l.length : Int)) ≤ bsF l ∧ bsF l ≤ 1000000 * (l.length : Int)
  | [], _ => by simp [bsF]
  | t :: r, h => by
    have ih := bs_bd (l := r) (fun x hx => h x (List.mem_cons_of_mem _ hx))
    have := h t List.mem_cons_self
    rw [bsF, List.length_cons]
    split <;> omega
theorem sumK_bd {f : Int → Int} (hf : ∀ x, -1000000 ≤ f x ∧ f x ≤ 1000000) : ∀ l : List Int, -(1000000 * (l.length : Int)) ≤ sumK f l ∧ sumK f l ≤ 1000000 * (l.length : Int)
  | [] => by simp [sumK]
  | t :: r => by
    have ih := sumK_bd hf r
    have := hf t
    rw [sumK, List.length_cons]
    omega
theorem tmK_len (am : Int → Int) (k : Int) : (tmK am k).length ≤ 1 := by
  unfold tmK
  split
  · simp
  · split <;> simp
theorem flatK_len (am : Int → Int) : ∀ l : List Int, (l.flatMap (tmK am)).length ≤ l.length
  | [] => Nat.le_refl _
  | k :: r => by
    have := tmK_len am k
    have := flatK_len am r
    rw [List.flatMap_cons, List.length_append, List.length_cons]
    omega
end Go.Proofs.YtlfgcblijfflfaaGreat

/- Contract of heap.terms: the terms of a sum with weights above zero, by variable, and what the sum is without them. -/
namespace Go.Proofs.YtlfgcblijfflfaaGreat
open Go.RowKit Go.Maps Go.WideMaps
set_option linter.unusedSimpArgs false
set_option linter.unusedVariables false

theorem keyed_int_ : Keyed Tryz.prog 3 := int_keyed Tryz.underlying3
theorem zero_int_ (w : World) : (zeroValue 3).run Tryz.prog w = .ok (.int .i64 0) w := by kernel_rfl
/-- A map from ints to ints of the call's own. -/
def MapZ (w : World) (b n : Nat) (D : DataW Unit) : Prop := w.ownsMap Tryz.prog 3 (plainElem Tryz.prog 3) b n D
theorem MapZ.keep {w w' : World} {b n : Nat} {D : DataW Unit} (h : MapZ w b n D) (hb : Below w.heap.size w w') : MapZ w' b n D := by
  have hlt := World.ownsMap.lt h
  obtain ⟨es, clock, h1, F, hs, hD⟩ := h
  exact ⟨es, clock, (hb.block b hlt).trans h1, F, hs, hD⟩
/-- The map has the amounts of these terms. -/
def AmtD (D : DataW Unit) (l : List (Int × Int)) : Prop := (∀ x : Int, D.atKey (.int .i64 x) (.lit (.int .i64 0)) = .lit (.int .i64 (amF l x))) ∧ ∀ x : Int, Maps.has D (.int .i64 x) = decide (x ∈ l.map keyT)
theorem AmtD.put {w : World} {b n : Nat} {D : DataW Unit} {l : List (Int × Int)} {t : Int × Int} (h : MapZ w b n D) (hD : AmtD D l) (h0 : amF l (keyT t) = 0) {x v : Int} (hx : x = keyT t) (hv : v = amtT t) : AmtD (D.put (.int .i64 x) (.lit (.int .i64 v))) (l ++ [t]) := by
  have hm := (World.ownsMap.tidy h keyed_int_).isMap
  subst hx
  subst hv
  refine ⟨fun x => ?_, fun x => ?_⟩
  · rw [amF_app]
    by_cases e : x = keyT t
    · subst e
      rw [Maps.atKey_put_same hm (k := .int .i64 (keyT t)) trivial, h0]
      simp [amF]
    · rw [Maps.atKey_put_other (by simpa using e), hD.1 x]
      simp [amF, e]
  · rw [List.map_append]
    by_cases e : x = keyT t
    · subst e
      rw [Maps.has_put_same hm (k := .int .i64 (keyT t)) trivial]
      simp
    · rw [Maps.has_put_other (by simpa using e), hD.2 x]
      simp [e]
theorem amt_look {w : World} {b n : Nat} {D : DataW Unit} {l : List (Int × Int)} (h : MapZ w b n D) (hD : AmtD D l) {x : Int} (hx : I64 x) : (Instr.lookup 167 (.map (some b)) (.int .i64 x) false).run Tryz.prog w = .ok (.int .i64 (amF l x)) w := by
  obtain ⟨c, hrun, hat, _⟩ := World.ownsMap.lookup_int h keyed_int_ Tryz.underlying167 Tryz.underlying3 (zero_int_ w) (keyOf_int_mk (P := Tryz.prog) Tryz.underlying3 (show (Lit.int .i64 x).wf = true from WalkArith.wf_i64 hx))
  rw [hD.1 x] at hat
  cases hat
  exact hrun
/-- The keys met so far. -/
def Met (D : DataW Unit) (left : Lit → Bool) (ks : List Int) : Prop := ks.Nodup ∧ (∀ x ∈ ks, left (.int .i64 x) = false) ∧ ∀ x : Int, (left (.int .i64 x) = true ∨ x ∈ ks) ↔ Maps.has D (.int .i64 x) = true
theorem Met.start (D : DataW Unit) : Met D (Maps.has D) [] := ⟨List.nodup_nil, by simp, by simp⟩
theorem Met.step {D : DataW Unit} {left : Lit → Bool} {ks : List Int} (h : Met D left ks) {x : Int} (hx : left (.int .i64 x) = true) : Met D (fun z => left z && !z.sameKey (.int .i64 x)) (ks ++ [x]) := by
  have hn : x ∉ ks := fun e => by have := h.2.1 x e; rw [hx] at this; cases this
  have same : ∀ y : Int, (Lit.int .i64 y).sameKey (.int .i64 x) = decide (y = x) := fun y => by
    by_cases e : y = x
    · subst e; simpa using WideAt.sameKey_self (a := .int .i64 y) trivial
    · rw [Maps.sameKey_ne (by simpa using e)]; simp [e]
  refine ⟨List.nodup_append.2 ⟨h.1, by simp, fun a ha b hb => by rw [List.mem_singleton.1 hb]; exact fun e => hn (e ▸ ha)⟩, fun y hy => ?_, fun y => ?_⟩
  · show (left (.int .i64 y) && !(Lit.int .i64 y).sameKey (.int .i64 x)) = false
    rw [same]
    rcases List.mem_append.1 hy with hy | hy
    · rw [h.2.1 y hy]; rfl
    · rw [List.mem_singleton.1 hy]; simp
  · show ((left (.int .i64 y) && !(Lit.int .i64 y).sameKey (.int .i64 x)) = true ∨ y ∈ ks ++ [x]) ↔ _
    rw [← h.2.2 y, same]
    by_cases e : y = x
    · subst e; simp [hx]
    · simp [e]
theorem Met.perm {D : DataW Unit} {left : Lit → Bool} {ks : List Int} {n : Int} {l : List (Int × Int)} (h : Met D left ks) (hD : AmtD D l) (hu : UpT n l) (h0 : ∀ kl, left kl = false) : ks.Perm (l.map keyT) := by
  rw [List.perm_ext_iff_of_nodup h.1 (keys_nodup hu)]
  intro x
  have := h.2.2 x
  rw [h0, hD.2 x] at this
  simpa using this
theorem Met.len {D : DataW Unit} {left : Lit → Bool} {ks : List Int} {l : List (Int × Int)} (h : Met D left ks) (hD : AmtD D l) : ks.length ≤ l.length := by
  have := length_le_of_sub ks (l.map keyT) h.1 (fun x hx => by
    have := (h.2.2 x).1 (.inr hx)
    rw [hD.2 x] at this
    simpa using this)
  simpa using this
theorem below_grown_ {w wr w' : World} {k : Option Nat} (hB : Below w.heap.size w wr) (hg : wr.grownBy w' k) (hk : ∀ j, k = some j → w.heap.size ≤ j) : Below w.heap.size w w' := hB.grown hg hB.size hk
theorem keepBox_grown {w w' : World} {b off k : Nat} {v : Value} (hg : w.grownBy w' (some k)) (hne : b ≠ k) (h : w.cell? ⟨b, off, none⟩ = some v) : w'.cell? ⟨b, off, none⟩ = some v := by
  have hb := hg.block b (cell_lt h).1 (fun e => hne (by cases e; rfl))
  unfold World.cell? at h ⊢
  rw [hb]
  exact h
theorem ownT_low {w : World} {base base' n d : Nat} {B : Option Addr} {ts : List (Int × Int)} (h : OwnT w base B n d ts) (hb : base' ≤ base) : OwnT w base' B n d ts := by
  refine ⟨h.1, ?_⟩
  rcases h.2 with h2 | ⟨g, cap, cur, hv, hg, r⟩
  · exact .inl h2
  · exact .inr ⟨g, cap, cur, hv, Nat.le_trans hb hg, r⟩
theorem ownT_cap_ {w : World} {base n d : Nat} {B : Option Addr} {ts : List (Int × Int)} (h : OwnT w base B n d ts) : d ≤ maxLen := by
  rcases h.form with ⟨_, _, e, _⟩ | ⟨g, cur, _, _, _, _, e, _⟩
  · rw [e]; exact Nat.zero_le _
  · exact e

set_option maxHeartbeats 8000000 in
set_option maxRecDepth 100000 in
theorem terms_any (L O : Option Addr) (n c d : Nat) (ts : List (Int × Int)) (w : World) (h1 : Ints w L n c (ts.map (·.1))) (h2 : Ints w O n d (ts.map (·.2))) (hu : UpT 1000 ts) (hn : n ≤ 24) (hb : ∀ t ∈ ts, -1000000 ≤ t.2 ∧ t.2 ≤ 1000000) :
    Calls Tryz.prog 102 #[.slice L n c, .slice O n d] w fun e w' => ∃ B m k, e = .returned (.tuple #[.slice B m k, .int .i64 (tbF ts)]) ∧ OwnT w' w.heap.size B m k (tmF ts) ∧ Below w.heap.size w w' := by
  have H1 := Lib.hid h1
  have H2 := Lib.hid h2
  have HU := Lib.hid hu
  have HBD := Lib.hid hb
  have hlen : Hid (ts.length = n) := by have := h1.len; rw [List.length_map] at this; exact this
  have hbd := h1.bd
  have hmm := @run_makeMap Tryz.prog
  obtain ⟨l0, hli0, hx0, hx1, hx2⟩ := info_parts term_info
  obtain ⟨w0, hw0⟩ : ∃ z : World, Hid (z = w.alloc (.map #[] 0)) := ⟨_, rfl⟩
  have HB0 : Hid (Below w.heap.size w w0) := by rw [Hid, hw0.out]; exact below_new _ _
  have HM0 : Hid (MapZ w0 w.heap.size 0 (.map [])) := by rw [Hid, hw0.out]; exact World.ownsMap_made (H := Unit) w Tryz.prog 3 (plainElem Tryz.prog 3)
  have HS0 : Hid (w.heap.size + 1 ≤ w0.heap.size) := by rw [Hid, hw0.out]; simp
  have HA0 : Hid (AmtD (.map []) (ts.take 0)) := ⟨fun x => rfl, fun x => rfl⟩
  clear h1 h2 hu hb
  go_enter Tryz.func102, Tryz.ntmps102
  go_wp2_with fail
  rw [← hw0.out]
  go_loopw [7, 16] (fun s7 s16 wr => ∃ (i : Nat) (D : DataW Unit), i ≤ n ∧ s7 = .int .i64 (bsF (ts.take i)) ∧ s16 = .int .i64 i ∧ Hid (Below w.heap.size w wr) ∧ Hid (w.heap.size + 1 ≤ wr.heap.size) ∧ Hid (MapZ wr w.heap.size i D) ∧ Hid (AmtD D (ts.take i))) (fun _ s _ => n - (intOf s).toNat)
  case atStart => exact ⟨0, _, Nat.zero_le _, rfl, rfl, HB0, HS0, HM0, HA0⟩
  case round =>
    clear HB0 HS0 HM0 HA0
    obtain ⟨i, D, hi, rfl, rfl, HB, HS, HM, HA⟩ := hrel
    by_cases hlt : i < n
    · have hx := H1.out.keep HB.out
      obtain ⟨b, off, y, hLe, hbb, hcell, y1, y2, hy⟩ := hx.round hlt
      have hoi := H2.out.keep HB.out
      obtain ⟨b2, off2, o, hOe, hb2, hcell2, o1, o2, hok⟩ := hoi.round hlt
      have hil : i < ts.length := by rw [hlen.out]; exact hlt
      have ht : ts[i]? = some (y, o) := by
        have e1 := hy.out
        have e2 := hok.out
        rw [List.getElem?_map, List.getElem?_eq_getElem hil] at e1 e2
        rw [List.getElem?_eq_getElem hil]
        simp at e1 e2
        rw [← e1, ← e2]
      have HT := Lib.hid ht
      have htm := List.mem_of_getElem? ht
      have hyb := HU.out.1 _ htm
      have hob := HBD.out _ htm
      simp only at hyb hob
      have hbs := bs_bd (l := ts.take i) (fun t ht => HBD.out t (List.mem_of_mem_take ht))
      have hil2 : (ts.take i).length ≤ 24 := by rw [List.length_take]; omega
      have hfr : Hid (amF (ts.take i) (keyT (y, o)) = 0) := amF_fresh HU.out ht
      have q0 : (0 : Int) ≤ (i : Int) := by omega
      have q1 : (i : Int) < (n : Int) := by omega
      obtain ⟨bs, hbs0⟩ : ∃ z, Hid (bsF (ts.take i) = z) := ⟨_, rfl⟩
      rw [hbs0.out] at hbs
      obtain ⟨wd, hwd⟩ : ∃ wd : World, wd = wr.drew := ⟨_, rfl⟩
      have hbd0 : Below wr.heap.size wr wd := by rw [hwd]; exact below_drewN _ 1
      have hcd := keepBox hbd0 hcell2
      have HMd := Lib.hid (HM.out.keep hbd0)
      have HBd := Lib.hid (below_next HB.out hbd0)
      have zb2 := (cell_lt hcd).1
      have HSd : Hid (w.heap.size + 1 ≤ wd.heap.size) := Nat.le_trans HS.out hbd0.size
      have hb2w : b2 < w.heap.size := by
        obtain ⟨b9, o9, e9, hlt9, _⟩ := H2.out.sl.at_ (by omega)
        rw [hOe] at e9
        cases e9
        exact hlt9
      clear hbd0
      subst hLe
      subst hOe
      rw [hbs0.out]
      have hbs64 : Hid (-24000000 ≤ bs ∧ bs ≤ 24000000) := by
        have : ((ts.take i).length : Int) ≤ 24 := by omega
        show _ ∧ _
        omega
      clear hx hoi hy hok htm ht hil
      by_cases hpos : 0 < y
      · have hkt : Hid (y = keyT (y, o)) := by show _ = _; unfold keyT; simp; omega
        have hav : Hid (o = amtT (y, o)) := by show _ = _; unfold amtT; simp [hpos]
        have hlk : (Instr.lookup 167 (.map (some w.heap.size)) (.int .i64 y) false).run Tryz.prog wd = .ok (.int .i64 0) wd := by
          have := amt_look HMd.out HA.out (x := y) (by unfold I64; omega)
          rw [hkt.out, hfr.out, ← hkt.out] at this
          exact this
        have hbs2 : Hid (bsF (ts.take (i + 1)) = bs) := by show _ = _; rw [take_snoc_of HT.out, bsF_app, hbs0.out]; simp [bsF, hpos]
        clear hbs
        go_wp2_with fail
        refine wp_region_still_tail 8 (by kernel_rfl) (by kernel_rfl) ?_
        change wpStill _ _ wr.drew (fun a' => wpList _ _ _ _ a' wr.drew) _ _
        rw [← hwd]
        clear hwd
        simp only [List.take_succ_cons, List.take_zero, List.drop_succ_cons, List.drop_zero]
        repeat still_step
        try refine wpStill_nil ?_
        rw [show IntKind.i64.wrap o = o from IntWalk.i64_in o (by omega)]
        go_wp2_with (first | (at_mapUpdate; refine wpList_mapUpdate_own _ rfl _ _ _ 167 rfl 3 3 keyed_int_ Tryz.underlying167 (plainElem (H := Unit) Tryz.prog 3) w.heap.size i D rfl HMd.out (by unfold maxLen; omega) _ _ _ rfl rfl (keyOf_int_mk (P := Tryz.prog) Tryz.underlying3 (show (Lit.int .i64 (y)).wf = true from WalkArith.wf_i64 (by omega))) _ [] (plainElem_int Tryz.underlying3 (WalkArith.wf_i64 (by omega))) ?_; intro w2 hown2 hg2))
        go_roundw
        case rel => exact ⟨i + 1, _, by omega, by rw [hbs2.out], by go_num, below_grown_ HBd.out hg2 (fun j hj => by cases hj; exact Nat.le_refl _), Nat.le_trans HSd.out hg2.size, hown2, by show AmtD _ _; rw [take_snoc_of HT.out]; exact HA.out.put HM.out hfr.out hkt.out hav.out⟩
        case measure => simp [intOf] <;> omega
      · have hkt : Hid (-y = keyT (y, o)) := by show _ = _; unfold keyT; simp; omega
        have hav : Hid (-o = amtT (y, o)) := by show _ = _; unfold amtT; simp [hpos]
        have hlk : (Instr.lookup 167 (.map (some w.heap.size)) (.int .i64 (-y)) false).run Tryz.prog wd = .ok (.int .i64 0) wd := by
          have := amt_look HMd.out HA.out (x := -y) (by unfold I64; omega)
          rw [hkt.out, hfr.out, ← hkt.out] at this
          exact this
        have hbs2 : Hid (bsF (ts.take (i + 1)) = bs + o) := by show _ = _; rw [take_snoc_of HT.out, bsF_app, hbs0.out]; simp [bsF, hpos]
        have zy : IntKind.i64.wrap (-y) = -y := IntWalk.i64_in _ (by omega)
        clear hbs
        go_wp2_with fail
        refine wp_region_still_tail 9 (by kernel_rfl) (by kernel_rfl) ?_
        change wpStill _ _ wr.drew (fun a' => wpList _ _ _ _ a' wr.drew) _ _
        rw [← hwd]
        clear hwd
        simp only [List.take_succ_cons, List.take_zero, List.drop_succ_cons, List.drop_zero]
        repeat (still_step; try rw [zy])
        try refine wpStill_nil ?_
        try simp only [Int.zero_sub]
        rw [show IntKind.i64.wrap (-o) = -o from IntWalk.i64_in _ (by omega)]
        go_wp2_with (first | (at_mapUpdate; refine wpList_mapUpdate_own _ rfl _ _ _ 167 rfl 3 3 keyed_int_ Tryz.underlying167 (plainElem (H := Unit) Tryz.prog 3) w.heap.size i D rfl HMd.out (by unfold maxLen; omega) _ _ _ rfl rfl (keyOf_int_mk (P := Tryz.prog) Tryz.underlying3 (show (Lit.int .i64 (-y)).wf = true from WalkArith.wf_i64 (by omega))) _ [] (plainElem_int Tryz.underlying3 (WalkArith.wf_i64 (by omega))) ?_; intro w2 hown2 hg2; have HBe : Hid (Below w.heap.size w w2) := below_grown_ HBd.out hg2 (fun j hj => by cases hj; exact Nat.le_refl _); have HSe : Hid (w.heap.size + 1 ≤ w2.heap.size) := Nat.le_trans HSd.out hg2.size; have HMe := Lib.hid hown2; replace hcd := keepBox_grown hg2 (show b2 ≠ w.heap.size by omega) hcd; have zb3 := (cell_lt hcd).1; clear hown2 hg2 hlk zb2))
        go_roundw
        case rel => exact ⟨i + 1, _, by omega, by rw [hbs2.out, show wrap64 (bs + o) = bs + o from IntWalk.wrap64_in _ (by have := hbs64.out; omega)], by go_num, HBe, HSe, HMe, by show AmtD _ _; rw [take_snoc_of HT.out]; exact HA.out.put HM.out hfr.out hkt.out hav.out⟩
        case measure => simp [intOf] <;> omega
    · obtain rfl : i = n := by omega
      have htk : ts.take i = ts := by rw [← hlen.out, List.take_length]
      rw [htk] at HA ⊢
      obtain ⟨bs, hbs0⟩ : ∃ z, Hid (bsF ts = z) := ⟨_, rfl⟩
      have hbs := bs_bd (l := ts) HBD.out
      rw [hbs0.out, hlen.out] at hbs
      rw [hbs0.out]
      have hbs64 : Hid (-24000000 ≤ bs ∧ bs ≤ 24000000) := by
        show _ ∧ _
        omega
      clear hbs htk
      go_wp2_with (first | (at_range; refine wpList_range_own _ rfl _ 167 rfl 3 3 keyed_int_ Tryz.underlying167 (plainElem (H := Unit) Tryz.prog 3) w.heap.size i D rfl HM.out ?_; intro w5 hrg5 hg5 hs5) | go_in)
      go_frame
      have HB5 : Hid (Below w.heap.size w w5) := HB.out.grown hg5 HB.out.size (fun j hj => by cases hj)
      obtain ⟨r, hr⟩ : ∃ z : Nat, Hid (wr.heap.size = z) := ⟨_, rfl⟩
      have HR : Hid (w.heap.size + 1 ≤ r) := by show _ ≤ _; rw [← hr.out]; exact HS.out
      have HS5 : Hid (r + 1 ≤ w5.heap.size) := by show _ ≤ _; rw [← hr.out, hs5]; exact Nat.le_refl _
      rw [hr.out] at hrg5 ⊢
      have HG5 := Lib.hid hrg5
      clear hrg5 hg5 hs5
      go_loopw [7, 10] (fun s7 s10 wq => ∃ (left : Lit → Bool) (cnt : Nat) (ks : List Int) (B : Option Addr) (m k : Nat), s7 = .int .i64 (bs + sumK (mnF (amF ts)) ks) ∧ s10 = .slice B m k ∧ Hid (wq.ranges Tryz.prog 3 (plainElem (H := Unit) Tryz.prog 3) w.heap.size r i D left cnt) ∧ Hid (Met D left ks) ∧ Hid (OwnT wq (r + 1) B m k (ks.flatMap (tmK (amF ts)))) ∧ Hid (Below w.heap.size w wq) ∧ Hid (r + 1 ≤ wq.heap.size)) (fun _ _ wq => wq.rangeLeft w.heap.size r)
      case atStart => exact ⟨_, _, [], none, 0, 0, by simp [sumK], rfl, HG5, Met.start D, OwnT.nil _ _, HB5, HS5⟩
      case round =>
        clear HG5 HB5 HS5
        obtain ⟨left, cnt, ks, B, m, k, rfl, rfl, HG, HT, HO, HBq, HSq⟩ := hrel
        go_wp2_with (first | (at_next; refine wpList_next_ranges_ii _ rfl _ rfl 3 3 .i64 .i64 keyed_int_ Tryz.underlying3 Tryz.underlying3 w.heap.size r i D left cnt rfl HG.out ?_ ?_) | go_in)
        · intro hc0 hl0
          have hp := Met.perm HT.out HA.out HU.out hl0
          have hP1 : (ks.flatMap (tmK (amF ts))).Perm (tmF ts) := by
            rw [← tm_keys HU.out]
            exact hp.flatMap_right _
          have hP2 : bs + sumK (mnF (amF ts)) ks = tbF ts := by rw [← tb_keys HU.out, hbs0.out, sumK_perm hp]
          have hup := HU.out.tm
          have hlit : ∀ t ∈ ks.flatMap (tmK (amF ts)), -1000000 ≤ t.1 ∧ t.1 ≤ 1000000 := fun t ht => by
            have := hup.1 t (hP1.mem_iff.1 ht)
            omega
          have hm : m ≤ 1000000 := by
            have h1 := HO.out.len
            have h2 := flatK_len (amF ts) ks
            have h3 := HT.out.len HA.out
            have h4 := hlen.out
            omega
          have HUP := Lib.hid hup
          have HP1 := Lib.hid hP1
          have hsrt := sort_tms (r + 1) m k B _ wr HO.out hm hlit
          rw [hP2]
          clear hp hP1 hP2 hup hlit hc0 hl0
          go_wp2_with (go_at_call 128; refine hsrt.mono ?_; rintro e w8 ⟨rfl, hg8, qs, hp8, hs8, hO8⟩)
          go_ret2
          have hqs := up_sorted HUP.out.2 (HP1.out.symm.trans hp8) hs8
          rw [hqs] at hO8
          have hB8 : Below w.heap.size w w8 := HBq.out.grown hg8 HBq.out.size (fun j hj => by have := (HO.out.at_base hj).1; have := HR.out; omega)
          exact ⟨B, m, k, rfl, ownT_low hO8 (by have := HR.out; omega), hB8⟩
        · intro x v w1 cnt1 hwx hwc hlx hat hrg1 hlt1 hg1 hs1 hen
          have hv : v = amF ts x := by
            have h1 := HA.out.1 x
            have h2 := hat (.lit (.int .i64 0))
            rw [h1] at h2
            cases h2
            rfl
          have hvb := am_bd HU.out HBD.out x
          rw [← hv] at hvb
          have HV : Hid (amF ts x = v) := hv.symm
          have hxb : 1 ≤ x ∧ x ≤ 1000 := by
            have h1 := (HT.out.2.2 x).1 (.inl hlx)
            rw [HA.out.2 x] at h1
            simp only [decide_eq_true_eq, List.mem_map] at h1
            obtain ⟨t, ht, rfl⟩ := h1
            have := HU.out.1 t ht
            unfold keyT
            omega
          have HT1 := Lib.hid (Met.step HT.out hlx)
          have HO1 := Lib.hid (HO.out.kept hg1 (.inr (fun e => by have := (HO.out.at_base e).1; omega)))
          have HB1 : Hid (Below w.heap.size w w1) := HBq.out.grown hg1 HBq.out.size (fun j hj => by cases hj; have := HR.out; omega)
          have HS1 : Hid (r + 1 ≤ w1.heap.size) := by show _ ≤ _; rw [hs1]; exact HSq.out
          have HG1 := Lib.hid hrg1
          have hm : Hid (m ≤ 24) := by
            have h1 := HO.out.len
            have h2 := flatK_len (amF ts) ks
            have h3 := HT.out.len HA.out
            have h4 := hlen.out
            show _ ≤ _
            omega
          have HSB : Hid (-24000000 ≤ sumK (mnF (amF ts)) ks ∧ sumK (mnF (amF ts)) ks ≤ 24000000) := by
            have h1 := sumK_bd (f := mnF (amF ts)) (fun y => by have := am_bd HU.out HBD.out y; unfold mnF; split <;> omega) ks
            have h3 := HT.out.len HA.out
            have h4 := hlen.out
            show _ ∧ _
            omega
          have HL0 := Lib.hid HG.out.left_eq
          clear hv hat hrg1 hg1 hs1 hwx hwc hlx HG HT HO HBq HSq
          by_cases hp : 0 < v
          · have htk : tmK (amF ts) x = [(x, v)] := by unfold tmK; rw [HV.out, if_pos hp]
            have hmn : mnF (amF ts) x = 0 := by unfold mnF; rw [HV.out, if_neg (by omega)]
            have HFL : Hid ((ks ++ [x]).flatMap (tmK (amF ts)) = ks.flatMap (tmK (amF ts)) ++ [(x, v)]) := by show _ = _; rw [List.flatMap_append]; simp [htk]
            have HSU : Hid (sumK (mnF (amF ts)) (ks ++ [x]) = sumK (mnF (amF ts)) ks) := by show _ = _; rw [sumK_app]; simp [sumK, hmn]
            have hbn : Below w1.heap.size w1 (w1.alloc (.cells #[.int .i64 x, .int .i64 v] 149)) := below_new _ _
            have HO2 := Lib.hid (HO1.out.keep hbn)
            have HB2 := Lib.hid (below_next HB1.out hbn)
            have hnc : ∀ j u, (cellsT (x, v))[j]? = some u → (w1.alloc (.cells #[.int .i64 x, .int .i64 v] 149)).cell? ⟨w1.heap.size, j, none⟩ = some u := fun j u hu => by
              rw [(Blk.new w1 149 #[.int .i64 x, .int .i64 v]).cell j]
              simpa [cellsT] using hu
            have HNC := Lib.hid hnc
            have h1c : ∀ u ∈ cellsT (x, v), u.oneCell' = true := fun u hu => by
              simp [cellsT] at hu
              rcases hu with rfl | rfl <;> rfl
            have H1C := Lib.hid h1c
            have hm9 := hm.out
            have hz9 := HS1.out
            clear htk hmn hbn hnc h1c
            go_wp2_with (first
              | (at_builtin
                 refine wpList_append_tm _ rfl (.tmp 57) (.tmp 61) _ rfl 2 16 (r + 1) 149 l0 _ Tryz.underlying145 hli0 hx0 hx1 hx2 rfl (by omega) B m k _ rfl HO2.out w1.heap.size (cellsT (x, v)) rfl rfl HNC.out H1C.out (by simp only [maxLen]; omega) (by omega) (by simp; omega) ?_
                 intro B2 k2 w6 hR2 hg6))
            have HG6 := Lib.hid ((HG1.out.alloc (.cells #[.int .i64 x, .int .i64 v] 149)).kept hg6 (fun e => by have := (HO2.out.at_base e.symm).1; have := HR.out; omega) (fun e => by have := (HO2.out.at_base e.symm).1; omega))
            have HB6 : Hid (Below w.heap.size w w6) := HB2.out.grown hg6 HB2.out.size (fun j hj => by have := (HO2.out.at_base hj).1; have := HR.out; omega)
            have HS6 : Hid (r + 1 ≤ w6.heap.size) := Nat.le_trans HS1.out (Nat.le_trans (below_new _ _).size hg6.size)
            have HO6 : Hid (OwnT w6 (r + 1) B2 (m + 1) k2 ((ks ++ [x]).flatMap (tmK (amF ts)))) := by
              show OwnT _ _ _ _ _ _
              rw [HFL.out]
              unfold OwnT
              rw [List.flatMap_append]
              simpa using hR2
            go_roundw
            case rel => exact ⟨_, cnt1, ks ++ [x], B2, m + 1, k2, by rw [HSU.out], rfl, HG6, HT1, HO6, HB6, HS6⟩
            case measure => rw [HG6.out.left_eq, HL0.out]; exact hlt1
          · by_cases hq : v < 0
            · have htk : tmK (amF ts) x = [(-x, -v)] := by unfold tmK; rw [HV.out, if_neg hp, if_pos hq]
              have hmn : mnF (amF ts) x = v := by unfold mnF; rw [HV.out, if_pos hq]
              have HFL : Hid ((ks ++ [x]).flatMap (tmK (amF ts)) = ks.flatMap (tmK (amF ts)) ++ [(-x, -v)]) := by show _ = _; rw [List.flatMap_append]; simp [htk]
              have HSU : Hid (sumK (mnF (amF ts)) (ks ++ [x]) = sumK (mnF (amF ts)) ks + v) := by show _ = _; rw [sumK_app]; simp [sumK, hmn]
              have hbn : Below w1.heap.size w1 (w1.alloc (.cells #[.int .i64 (-x), .int .i64 (-v)] 149)) := below_new _ _
              have HO2 := Lib.hid (HO1.out.keep hbn)
              have HB2 := Lib.hid (below_next HB1.out hbn)
              have hnc : ∀ j u, (cellsT (-x, -v))[j]? = some u → (w1.alloc (.cells #[.int .i64 (-x), .int .i64 (-v)] 149)).cell? ⟨w1.heap.size, j, none⟩ = some u := fun j u hu => by
                rw [(Blk.new w1 149 #[.int .i64 (-x), .int .i64 (-v)]).cell j]
                simpa [cellsT] using hu
              have HNC := Lib.hid hnc
              have h1c : ∀ u ∈ cellsT (-x, -v), u.oneCell' = true := fun u hu => by
                simp [cellsT] at hu
                rcases hu with rfl | rfl <;> rfl
              have H1C := Lib.hid h1c
              have hm9 := hm.out
              have hz9 := HS1.out
              clear htk hmn hbn hnc h1c
              go_wp2_with (first
                | (at_builtin
                   refine wpList_append_tm _ rfl (.tmp 66) (.tmp 72) _ rfl 2 16 (r + 1) 149 l0 _ Tryz.underlying145 hli0 hx0 hx1 hx2 rfl (by omega) B m k _ rfl HO2.out w1.heap.size (cellsT (-x, -v)) rfl rfl HNC.out H1C.out (by simp only [maxLen]; omega) (by omega) (by simp; omega) ?_
                   intro B2 k2 w6 hR2 hg6))
              have HG6 := Lib.hid ((HG1.out.alloc (.cells #[.int .i64 (-x), .int .i64 (-v)] 149)).kept hg6 (fun e => by have := (HO2.out.at_base e.symm).1; have := HR.out; omega) (fun e => by have := (HO2.out.at_base e.symm).1; omega))
              have HB6 : Hid (Below w.heap.size w w6) := HB2.out.grown hg6 HB2.out.size (fun j hj => by have := (HO2.out.at_base hj).1; have := HR.out; omega)
              have HS6 : Hid (r + 1 ≤ w6.heap.size) := Nat.le_trans HS1.out (Nat.le_trans (below_new _ _).size hg6.size)
              have HO6 : Hid (OwnT w6 (r + 1) B2 (m + 1) k2 ((ks ++ [x]).flatMap (tmK (amF ts)))) := by
                show OwnT _ _ _ _ _ _
                rw [HFL.out]
                unfold OwnT
                rw [List.flatMap_append]
                simpa using hR2
              go_roundw
              case rel => exact ⟨_, cnt1, ks ++ [x], B2, m + 1, k2, by rw [HSU.out, IntWalk.wrap64_in _ (by have := HSB.out; have := hbs64.out; omega), Int.add_assoc], rfl, HG6, HT1, HO6, HB6, HS6⟩
              case measure => rw [HG6.out.left_eq, HL0.out]; exact hlt1
            · have htk : tmK (amF ts) x = [] := by unfold tmK; rw [HV.out, if_neg hp, if_neg hq]
              have hmn : mnF (amF ts) x = 0 := by unfold mnF; rw [HV.out, if_neg hq]
              have HFL : Hid ((ks ++ [x]).flatMap (tmK (amF ts)) = ks.flatMap (tmK (amF ts))) := by show _ = _; rw [List.flatMap_append]; simp [htk]
              have HSU : Hid (sumK (mnF (amF ts)) (ks ++ [x]) = sumK (mnF (amF ts)) ks) := by show _ = _; rw [sumK_app]; simp [sumK, hmn]
              clear htk hmn
              obtain rfl : v = 0 := by omega
              go_wp2_with fail
              go_roundw
              case rel => exact ⟨_, cnt1, ks ++ [x], B, m, k, by rw [HSU.out], rfl, HG1, HT1, by show OwnT _ _ _ _ _ _; rw [HFL.out]; exact HO1.out, HB1, HS1⟩
              case measure => rw [HG1.out.left_eq, HL0.out]; exact hlt1
end Go.Proofs.YtlfgcblijfflfaaGreat

/- Sums of literals, plainly: bounds of the normal form. -/
namespace Go.Proofs.YtlfgcblijfflfaaGreat
set_option linter.unusedSimpArgs false
set_option linter.unusedVariables false

theorem all_app : ∀ (l : List (Int × Int)) (t : Int × Int), wtT (l ++ [t]) = wtT l + t.2
  | [], t => by simp [wtT]
  | x :: r, t => by
    show x.2 + wtT (r ++ [t]) = x.2 + wtT r + t.2
    rw [all_app r t]
    omega
theorem gcdT_app : ∀ (l : List (Int × Int)) (t : Int × Int) (g : Nat), gcdT (l ++ [t]) g = Nat.gcd t.2.natAbs (gcdT l g)
  | [], t, g => rfl
  | x :: r, t, g => gcdT_app r t _
theorem all_bd {M : Int} : ∀ {ts : List (Int × Int)}, (∀ t ∈ ts, 0 < t.2 ∧ t.2 ≤ M) → 0 ≤ wtT ts ∧ wtT ts ≤ M * ts.length
  | [], _ => by simp [wtT]
  | t :: r, h => by
    have ih := all_bd (ts := r) (fun x hx => h x (List.mem_cons_of_mem _ hx))
    have h0 := h t List.mem_cons_self
    have e : M * ((t :: r).length : Int) = M * (r.length : Int) + M := by rw [List.length_cons, Int.natCast_succ, Int.mul_add, Int.mul_one]
    have e2 : wtT (t :: r) = t.2 + wtT r := rfl
    rw [e, e2]
    omega
theorem tb_bd {M : Int} : ∀ {ts : List (Int × Int)}, (∀ t ∈ ts, -M ≤ t.2 ∧ t.2 ≤ M) → 0 ≤ M → -(M * ts.length) ≤ tbF ts ∧ tbF ts ≤ 0
  | [], _, _ => by simp [tbF]
  | t :: r, h, hM => by
    have ih := tb_bd (ts := r) (fun x hx => h x (List.mem_cons_of_mem _ hx)) hM
    have h0 := h t List.mem_cons_self
    have e : M * ((t :: r).length : Int) = M * (r.length : Int) + M := by rw [List.length_cons, Int.natCast_succ, Int.mul_add, Int.mul_one]
    have e2 : tbF (t :: r) = (if t.2 < 0 then t.2 else 0) + tbF r := rfl
    rw [e, e2]
    split <;> omega
theorem tm_bd {M : Int} {ts : List (Int × Int)} (h : ∀ t ∈ ts, -M ≤ t.2 ∧ t.2 ≤ M) : ∀ t ∈ tmF ts, 0 < t.2 ∧ t.2 ≤ M := fun t ht => by
  have h0 := tm_pos t ht
  obtain ⟨x, hx, _, _, e⟩ := tm_abs ht
  have := h x hx
  omega
theorem gcd_le {M : Nat} {ts : List (Int × Int)} (h : ∀ t ∈ ts, 0 < t.2 ∧ t.2 ≤ M) : gcdT ts 0 ≤ M ∧ (ts ≠ [] → 0 < gcdT ts 0) ∧ (∀ t ∈ ts, (gcdT ts 0 : Int) ∣ t.2 ∧ (gcdT ts 0 : Int) ≤ t.2) := by
  have hd := (gcdT_dvd ts 0).2
  have hle : ∀ t ∈ ts, gcdT ts 0 ≤ t.2.natAbs := fun t ht => Nat.le_of_dvd (by have := h t ht; omega) (hd t ht)
  refine ⟨?_, ?_, fun t ht => ⟨int_dvd_ (hd t ht), by have := hle t ht; have := h t ht; omega⟩⟩
  · cases ts with
    | nil => exact Nat.zero_le _
    | cons t r =>
      have := hle t List.mem_cons_self
      have := h t List.mem_cons_self
      omega
  · intro hne
    cases ts with
    | nil => exact absurd rfl hne
    | cons t r =>
      rcases Nat.eq_zero_or_pos (gcdT (t :: r) 0) with e | e
      · have := hd t List.mem_cons_self
        rw [e] at this
        have := Nat.eq_zero_of_zero_dvd this
        have := h t List.mem_cons_self
        omega
      · exact e
/-- The quotient of a weight. -/
theorem quo_bd {x : Int} {g : Nat} (hg : 0 < g) (hx : 0 < x) (hd : (g : Int) ≤ x) : x.tdiv g = x / g ∧ 0 < x.tdiv g ∧ x.tdiv g ≤ x := by
  have e := Int.tdiv_eq_ediv_of_nonneg (a := x) (b := (g : Int)) (by omega)
  rw [e]
  refine ⟨rfl, ?_, ?_⟩
  · have : 1 ≤ x / (g : Int) := Int.le_ediv_of_mul_le (by omega) (by omega)
    omega
  · exact Int.ediv_le_self _ (by omega)
theorem up_bd {a : Int} {g : Nat} (hg : 0 < g) (ha : 0 < a) : (a + g - 1).tdiv g = (a + g - 1) / g ∧ 0 < (a + g - 1).tdiv g ∧ (a + g - 1).tdiv g ≤ a := by
  have e := Int.tdiv_eq_ediv_of_nonneg (a := a + g - 1) (b := (g : Int)) (by omega)
  rw [e]
  refine ⟨rfl, ?_, ?_⟩
  · have : 1 ≤ (a + g - 1) / (g : Int) := Int.le_ediv_of_mul_le (by omega) (by omega)
    omega
  · have : (a + g - 1) / (g : Int) < a + 1 := Int.ediv_lt_of_lt_mul (by omega) (by
      have : a * 1 ≤ a * (g : Int) := Int.mul_le_mul_of_nonneg_left (by omega) (by omega)
      rw [Int.add_mul]
      omega)
    omega
theorem nrm_bd {M : Int} {ts : List (Int × Int)} {a : Int} (h : ∀ t ∈ ts, 0 < t.2 ∧ t.2 ≤ M) : (∀ t ∈ (nrmF ts a).1, 0 < t.2 ∧ t.2 ≤ M) ∧ 0 ≤ (nrmF ts a).2 ∧ (nrmF ts a).2 ≤ max a 1 := by
  obtain ⟨p1, p2, p3, p4⟩ := nrm_pos (ts := ts) (a := a) (fun t ht => (h t ht).1)
  refine ⟨fun t ht => ⟨p1 t ht, ?_⟩, p2, ?_⟩
  · obtain ⟨x, hx, _, e⟩ := p4 t ht
    have := (h x hx).2
    omega
  · unfold nrmF
    split
    · simp; omega
    · split
      · simp; omega
      · rename_i h1 h2
        have hne : ts ≠ [] := fun e => by subst e; simp [wtT] at h2; omega
        have hg := (gcd_le (M := M.toNat) (ts := ts) (fun t ht => by have := h t ht; omega)).2.1 hne
        have := (up_bd (a := a) hg (by omega)).2.2
        simp only
        omega
/-- What the loop has met. -/
theorem nrm_none {ts : List (Int × Int)} {a : Int} (h : a ≤ 0) : nrmF ts a = ([], 0) := by unfold nrmF; rw [if_pos h]
theorem nrm_never {ts : List (Int × Int)} {a : Int} (h : 0 < a) (h2 : wtT ts < a) : nrmF ts a = ([], 1) := by unfold nrmF; rw [if_neg (by omega), if_pos h2]
theorem nrm_some {ts : List (Int × Int)} {a : Int} (h : 0 < a) (h2 : a ≤ wtT ts) : nrmF ts a = (ts.map (fun t => (t.1, t.2.tdiv (gcdT ts 0))), (a + gcdT ts 0 - 1).tdiv (gcdT ts 0)) := by unfold nrmF; rw [if_neg (by omega), if_neg (by omega)]
theorem take_snocT {ts : List (Int × Int)} {i : Nat} {t : Int × Int} (h : ts[i]? = some t) : ts.take (i + 1) = ts.take i ++ [t] := by
  rw [List.take_add_one, h]
  rfl
/-- Saturated weights. -/
def minT (a : Int) (ts : List (Int × Int)) : List (Int × Int) := ts.map (fun t => (t.1, min t.2 a))
theorem minT_bd {a M : Int} {ts : List (Int × Int)} (ha : 0 < a) (h : ∀ t ∈ ts, 0 < t.2 ∧ t.2 ≤ M) : ∀ t ∈ minT a ts, 0 < t.2 ∧ t.2 ≤ M := fun t ht => by
  obtain ⟨x, hx, rfl⟩ := List.mem_map.1 ht
  have := h x hx
  show 0 < min x.2 a ∧ min x.2 a ≤ M
  omega
end Go.Proofs.YtlfgcblijfflfaaGreat

/- What heap.normal's walk knows: its boxes, and two rows of the call's own in unlike blocks. -/
namespace Go.Proofs.YtlfgcblijfflfaaGreat
open Go.RowKit
set_option linter.unusedSimpArgs false
set_option linter.unusedVariables false

/-- Two rows lie in unlike blocks. -/
def Dif (A B : Option Addr) : Prop := blockOf A = none ∨ blockOf A ≠ blockOf B
theorem Dif.symm {A B : Option Addr} (h : Dif A B) : Dif B A := by
  unfold Dif at *
  cases hB : blockOf B with
  | none => exact .inl rfl
  | some g =>
    right
    rcases h with h | h
    · rw [h]; exact fun e => by cases e
    · rw [hB] at h; exact fun e => h e.symm
theorem own_blk_lt {e : TypeId} {w : World} {base n c g : Nat} {A : Option Addr} {xs : List Value} (h : Own e w base A n c xs) (hg : blockOf A = some g) : g < w.heap.size ∧ base ≤ g ∧ Typed e w g := by
  rcases h.form with ⟨rfl, _⟩ | ⟨g', cur, rfl, hb, hh, _⟩
  · cases hg
  · cases hg; exact ⟨heap_lt hh, hb, ⟨_, _, hh⟩⟩
/-- The first row is moved to a new block, or stays. -/
theorem Dif.moved {e : TypeId} {w : World} {base n c : Nat} {A A' B : Option Addr} {xs : List Value} (h : Dif A B) (hB : Own e w base B n c xs) (hm : blockOf A' = blockOf A ∨ blockOf A' = some w.heap.size) : Dif A' B := by
  unfold Dif at *
  rcases hm with hm | hm
  · rw [hm]; exact h
  · right
    rw [hm]
    intro e
    have := (own_blk_lt hB e.symm).1
    omega
theorem Dif.nil (A : Option Addr) : Dif none A := .inl rfl
theorem typed_one {w : World} {k : Nat} {t u : TypeId} {cs : Array Value} (h : w.heap[k]? = some (.cells cs t (0, 0))) (hT : Typed u w k) : t = u := by
  obtain ⟨c, f, hc⟩ := hT
  rw [h] at hc
  injection hc with hc
  injection hc with _ h3
theorem Blk.ownGrown {e t : TypeId} {w w' : World} {base n c g : Nat} {A : Option Addr} {xs : List Value} {cs : Array Value} (h : Blk w g t cs) (ho : Own e w base A n c xs) (hg : w.grownBy w' (blockOf A)) (hne : t ≠ e) : Blk w' g t cs :=
  h.grown hg (fun e9 => hne (typed_one h (own_blk_lt ho e9.symm).2.2))
/-- The boxes of normal. -/
structure NrSt (w0 : World) (gx : Nat) (W : World) (K : Option Addr) (nk ck : Nat) (N : Option Addr) (nn cn : Nat) (a : Int) : Prop where
  bl : Below w0.heap.size w0 W
  r0 : Blk W w0.heap.size 54 #[.slice none 0 0, .slice none 0 0, .int .i64 0]
  r1 : Blk W (w0.heap.size + 1) 28 #[.int .i64 0, .int .i64 0]
  tb : Blk W gx 54 #[.slice K nk ck, .slice N nn cn, .int .i64 a]
  gl : w0.heap.size + 2 ≤ gx
theorem NrSt.keep {w0 W W' : World} {gx : Nat} {K : Option Addr} {nk ck : Nat} {N : Option Addr} {nn cn : Nat} {a : Int} (h : NrSt w0 gx W K nk ck N nn cn a) (hb : Below W.heap.size W W') : NrSt w0 gx W' K nk ck N nn cn a :=
  ⟨below_next h.bl hb, h.r0.keep hb, h.r1.keep hb, h.tb.keep hb, h.gl⟩
theorem NrSt.grow {w0 W W' : World} {gx : Nat} {K : Option Addr} {nk ck : Nat} {N : Option Addr} {nn cn : Nat} {a : Int} {A : Option Addr} {n c : Nat} {xs : List Value} (h : NrSt w0 gx W K nk ck N nn cn a) (ho : Own 3 W w0.heap.size A n c xs) (hg : W.grownBy W' (blockOf A)) : NrSt w0 gx W' K nk ck N nn cn a :=
  ⟨below_grown h.bl ho (Nat.le_refl _) hg, h.r0.ownGrown ho hg (by decide), h.r1.ownGrown ho hg (by decide), h.tb.ownGrown ho hg (by decide), h.gl⟩
theorem NrSt.put {w0 W : World} {gx : Nat} {K K' : Option Addr} {nk ck nk' ck' : Nat} {N N' : Option Addr} {nn cn nn' cn' : Nat} {a : Int} (h : NrSt w0 gx W K nk ck N nn cn a) : NrSt w0 gx ((W.setCell ⟨gx, 0, none⟩ (.slice K' nk' ck')).setCell ⟨gx, 1, none⟩ (.slice N' nn' cn')) K' nk' ck' N' nn' cn' a := by
  have hgl := h.gl
  refine ⟨(h.bl.setCell (p := ⟨gx, 0, none⟩) (show w0.heap.size ≤ gx by omega) _).setCell (p := ⟨gx, 1, none⟩) (show w0.heap.size ≤ gx by omega) _, ?_, ?_, ?_, hgl⟩
  · exact (h.r0.far (p := ⟨gx, 0, none⟩) (show w0.heap.size ≠ gx by omega) _).far (p := ⟨gx, 1, none⟩) (show w0.heap.size ≠ gx by omega) _
  · exact (h.r1.far (p := ⟨gx, 0, none⟩) (show w0.heap.size + 1 ≠ gx by omega) _).far (p := ⟨gx, 1, none⟩) (show w0.heap.size + 1 ≠ gx by omega) _
  · have := (h.tb.set_ 0 (.slice K' nk' ck')).set_ 1 (.slice N' nn' cn')
    simpa using this
/-- A row of ints stays when a cell of another type is written. -/
theorem Own.typedSet {e t : TypeId} {w : World} {base n c g : Nat} {A : Option Addr} {xs : List Value} {cs : Array Value} (h : Own e w base A n c xs) (hb : Blk w g t cs) (hne : e ≠ t) (i : Nat) (u : Value) : Own e (w.setCell ⟨g, i, none⟩ u) base A n c xs :=
  h.kept (grown_setCell w ⟨g, i, none⟩ u) (h.ne_typed (Typed.of_blk hb) hne)
theorem Own.put2 {w : World} {base n c g : Nat} {A : Option Addr} {xs : List Value} {cs : Array Value} (h : Own 3 w base A n c xs) (hb : Blk w g 54 cs) (u v : Value) : Own 3 ((w.setCell ⟨g, 0, none⟩ u).setCell ⟨g, 1, none⟩ v) base A n c xs :=
  (h.typedSet hb (by decide) 0 u).typedSet (hb.set_ 0 u) (by decide) 1 v
end Go.Proofs.YtlfgcblijfflfaaGreat

/- Contract of heap.normal: the normal form of a sum. (Printed by wip/tools/hnorm.py.) -/
namespace Go.Proofs.YtlfgcblijfflfaaGreat
open Go.RowKit
set_option linter.unusedSimpArgs false
set_option linter.unusedVariables false

/-- A sum of the call's own and no fault. -/
def RetHeap (h : List (Int × Int) × Int) (w : World) (e : Ending) (w' : World) : Prop :=
  ∃ (K N : Option Addr) (m ck cn : Nat), e = .returned (.tuple #[.agg #[.slice K m ck, .slice N m cn, .int .i64 h.2], .agg #[.int .i64 0, .int .i64 0]]) ∧
    Own 3 w' w.heap.size K m ck ((h.1.map (·.1)).map (Value.int .i64)) ∧ Own 3 w' w.heap.size N m cn ((h.1.map (·.2)).map (Value.int .i64)) ∧ Dif K N ∧ Below w.heap.size w w'
/-- What the walk knows ahead of the box of the result. -/
structure NrP (w0 W : World) (B : Option Addr) (m k : Nat) (l : List (Int × Int)) : Prop where
  bl : Below w0.heap.size w0 W
  r0 : Blk W w0.heap.size 54 #[.slice none 0 0, .slice none 0 0, .int .i64 0]
  r1 : Blk W (w0.heap.size + 1) 28 #[.int .i64 0, .int .i64 0]
  t : OwnT W (w0.heap.size + 2) B m k l
  sz : w0.heap.size + 2 ≤ W.heap.size
theorem NrP.keep {w0 W W' : World} {B : Option Addr} {m k : Nat} {l : List (Int × Int)} (h : NrP w0 W B m k l) (hb : Below W.heap.size W W') : NrP w0 W' B m k l :=
  ⟨below_next h.bl hb, h.r0.keep hb, h.r1.keep hb, h.t.keep hb, Nat.le_trans h.sz hb.size⟩
theorem ownT_apart {w w' : World} {base n d : Nat} {B : Option Addr} {ts : List (Int × Int)} {A : Option Addr} {base' n' c' : Nat} {xs : List Value} (h : OwnT w base B n d ts) (ho : Own 3 w base' A n' c' xs) (hg : w.grownBy w' (blockOf A)) : OwnT w' base B n d ts := by
  refine h.kept hg ?_
  cases hB : blockOf B with
  | none => exact .inl rfl
  | some g =>
    right
    intro e
    obtain ⟨c1, f1, h1⟩ := (h.at_base hB).2
    obtain ⟨c2, f2, h2⟩ := (own_blk_lt ho e.symm).2.2
    rw [h1] at h2
    injection h2 with h2
    injection h2 with _ h3
    exact absurd h3 (by decide)
theorem ownT_setHeap {w : World} {base n d : Nat} {B : Option Addr} {ts : List (Int × Int)} {g : Nat} {cs : Array Value} (h : OwnT w base B n d ts) (hb : Blk w g 54 cs) (i : Nat) (u : Value) : OwnT (w.setCell ⟨g, i, none⟩ u) base B n d ts := by
  refine h.kept (grown_setCell w ⟨g, i, none⟩ u) ?_
  cases hB : blockOf B with
  | none => exact .inl rfl
  | some g' =>
    right
    intro e
    have e' : g' = g := by simpa using e
    subst e'
    exact absurd (typed_one hb (h.at_base hB).2) (by decide)
theorem snd_take {l : List (Int × Int)} {i : Nat} {x o : Int} (h : l[i]? = some (x, o)) (g : Nat) : wtT (l.take (i + 1)) = wtT (l.take i) + o ∧ gcdT (l.take (i + 1)) g = Nat.gcd o.natAbs (gcdT (l.take i) g) ∧
    (l.take (i + 1)).map (·.1) = (l.take i).map (·.1) ++ [x] ∧ ∀ q : Int, (l.take (i + 1)).map (fun t => t.2.tdiv q) = (l.take i).map (fun t => t.2.tdiv q) ++ [o.tdiv q] := by
  rw [take_snocT h]
  exact ⟨all_app _ _, gcdT_app _ _ _, by simp, fun q => by simp⟩

set_option maxHeartbeats 8000000 in
set_option maxRecDepth 100000 in
theorem normal_any (L O : Option Addr) (n c d : Nat) (ts : List (Int × Int)) (a : Int) (w : World) (h1 : Ints w L n c (ts.map (·.1))) (h2 : Ints w O n d (ts.map (·.2))) (hu : UpT 1000 ts) (hn : n ≤ 24) (hb : ∀ t ∈ ts, -10000 ≤ t.2 ∧ t.2 ≤ 10000) (ha : -100000 ≤ a ∧ a ≤ 100000) :
    Calls Tryz.prog 84 #[.slice L n c, .slice O n d, .int .i64 a] w (RetHeap (nrmF (tmF ts) (a - tbF ts)) w) := by
  have hlen : Hid (ts.length = n) := by have := h1.len; rw [List.length_map] at this; exact this
  have HU := Lib.hid hu
  have HBD := Lib.hid hb
  obtain ⟨w2, hw2⟩ : ∃ z : World, Hid (z = (w.alloc (.cells #[.slice none 0 0, .slice none 0 0, .int .i64 0] 54)).alloc (.cells #[.int .i64 0, .int .i64 0] 28)) := ⟨_, rfl⟩
  have HB0 : Hid (Below w.heap.size w w2) := by rw [Hid, hw2.out]; exact below_alloc (below_new _ _) _
  have HR0 : Hid (Blk w2 w.heap.size 54 #[.slice none 0 0, .slice none 0 0, .int .i64 0]) := by rw [hw2.out]; exact (Blk.new _ _ _).alloc _
  have HR1 : Hid (Blk w2 (w.heap.size + 1) 28 #[.int .i64 0, .int .i64 0]) := by rw [hw2.out]; have := Blk.new (w.alloc (.cells #[.slice none 0 0, .slice none 0 0, .int .i64 0] 54)) 28 #[.int .i64 0, .int .i64 0]; simpa [Hid] using this
  have HS0 : Hid (w.heap.size + 2 ≤ w2.heap.size) := by rw [Hid, hw2.out]; simp
  have htb := tb_bd (M := 10000) (ts := ts) hb (by omega)
  rw [hlen.out] at htb
  have htm := Lib.hid (tm_bd (M := 10000) hb)
  have hup := Lib.hid hu.tm
  have hml : Hid ((tmF ts).length ≤ 24) := by have := tm_len ts; have := hlen.out; show _ ≤ _; omega
  have HT := terms_any L O n c d ts w2 (h1.keep (by rw [hw2.out]; exact below_next (below_new _ _) (below_new _ _))) (h2.keep (by rw [hw2.out]; exact below_next (below_new _ _) (below_new _ _))) hu hn (fun t ht => by have := hb t ht; omega)
  obtain ⟨l, hl⟩ : ∃ z, Hid (tmF ts = z) := ⟨_, rfl⟩
  obtain ⟨tb, htbv⟩ : ∃ z, Hid (tbF ts = z) := ⟨_, rfl⟩
  obtain ⟨a1, ha1⟩ : ∃ z, Hid (a - tb = z) := ⟨_, rfl⟩
  rw [htbv.out] at htb
  rw [hl.out] at htm hup hml HT
  have ha1b : Hid (-400000 ≤ a1 ∧ a1 ≤ 400000) := by have := ha1.out; show _ ∧ _; omega
  rw [htbv.out] at HT ⊢
  rw [hl.out, ha1.out]
  have hwr : wrap64 (a - tb) = a1 := by rw [ha1.out]; exact IntWalk.wrap64_in _ (by have := ha1b.out; have := ha1.out; omega)
  have hbd := h1.bd
  clear h1 h2 hu hb htb HBD HU hl
  go_enter Tryz.func84, Tryz.ntmps84
  go_wp2_with fail
  rw [← hw2.out]
  refine HT.mono ?_
  rintro e w3 ⟨B, m, k, rfl, hO3, hb3⟩
  have HP : Hid (NrP w w3 B m k l) := ⟨below_next HB0.out hb3, HR0.out.keep hb3, HR1.out.keep hb3, ownT_low hO3 HS0.out, Nat.le_trans HS0.out hb3.size⟩
  have hm : m ≤ 24 := by rw [← hO3.len]; exact hml.out
  have hmlen : Hid (l.length = m) := hO3.len
  clear HT HB0 HR0 HR1 HS0 hw2 hO3 hb3
  go_wp2_with fail
  try rw [hwr]
  clear hwr
  go_loopw [10, 11, 29] (fun s10 s11 s29 wr => ∃ i : Nat, i ≤ m ∧ s10 = .int .i64 (wtT (l.take i)) ∧ s11 = .int .i64 ((gcdT (l.take i) 0 : Nat) : Int) ∧ s29 = .int .i64 i ∧ Hid (NrP w wr B m k l)) (fun _ _ s _ => m - (intOf s).toNat)
  case atStart => exact ⟨0, Nat.zero_le _, rfl, rfl, rfl, HP⟩
  case round =>
    clear HP
    obtain ⟨i, hi, rfl, rfl, rfl, HP⟩ := hrel
    by_cases hlt : i < m
    · obtain ⟨g, x, o, rfl, hgb, hgl, hc0, hc1, hto⟩ := HP.out.t.round hlt
      have hob := htm.out _ (List.mem_of_getElem? hto.out)
      simp only at hob
      obtain ⟨p, rfl⟩ : ∃ p : Nat, o = (p : Int) := ⟨o.toNat, by omega⟩
      obtain ⟨e1, e2, _, _⟩ := snd_take hto.out 0
      have hgl2 := (gcd_le (M := 10000) (ts := l.take i) (fun t ht => htm.out t (List.mem_of_mem_take ht))).1
      have hal := all_bd (M := 10000) (ts := l.take i) (fun t ht => htm.out t (List.mem_of_mem_take ht))
      have hil : (l.take i).length ≤ 24 := by rw [List.length_take]; omega
      obtain ⟨A, hA⟩ : ∃ z, Hid (wtT (l.take i) = z) := ⟨_, rfl⟩
      obtain ⟨G, hG⟩ : ∃ z, Hid (gcdT (l.take i) 0 = z) := ⟨_, rfl⟩
      have E1 : Hid (wtT (l.take (i + 1)) = A + p) := by show _ = _; rw [e1, hA.out]
      have E2 : Hid (gcdT (l.take (i + 1)) 0 = Nat.gcd p G) := by show _ = _; rw [e2, hG.out]; rfl
      rw [hA.out] at hal
      rw [hG.out] at hgl2
      have hab : 0 ≤ A ∧ A ≤ 240000 := by
        have : (10000 : Int) * ((l.take i).length : Int) ≤ 240000 := by omega
        omega
      rw [hA.out, hG.out]
      obtain ⟨wa, hwa⟩ : ∃ z : World, Hid (z = wr.alloc (.cells #[.int .i64 x, .int .i64 p] 149)) := ⟨_, rfl⟩
      have hba : Below wr.heap.size wr wa := by rw [hwa.out]; exact below_new _ _
      have HPa := Lib.hid (HP.out.keep hba)
      have ka : Blk wa wr.heap.size 149 #[.int .i64 x, .int .i64 p] := by rw [hwa.out]; exact Blk.new _ _ _
      have ka0 := ka.cell 0
      have ka1 := ka.cell 1
      have kal := ka.lt
      simp at ka0 ka1
      have q0 : (0 : Int) ≤ (i : Int) := by omega
      have q1 : (i : Int) < (m : Int) := by omega
      clear e1 e2 hal hA hG hba ka HP hto
      go_wp2_with fail
      try rw [← hwa.out]
      clear hwa hc0 hc1
      refine (gcd_any p G wa (by omega) (by omega)).mono ?_
      rintro e w5 ⟨rfl, n5, hw5⟩
      have hb5 : Below wa.heap.size wa w5 := by rw [hw5]; exact below_drewN _ _
      have HP5 := Lib.hid (HPa.out.keep hb5)
      clear hb5 HPa ka0 ka1 hw5
      go_wp2_with fail
      go_roundw
      case rel => exact ⟨i + 1, by omega, by rw [E1.out], by rw [E2.out], by go_num, HP5⟩
      case measure => simp [intOf] <;> omega
    · obtain rfl : i = m := by omega
      rw [show l.take i = l by rw [← hmlen.out, List.take_length]]
      have hal := all_bd (M := 10000) (ts := l) htm.out
      have hgl2 := gcd_le (M := 10000) (ts := l) htm.out
      obtain ⟨A, hA⟩ : ∃ z, Hid (wtT l = z) := ⟨_, rfl⟩
      obtain ⟨G, hG⟩ : ∃ z, Hid (gcdT l 0 = z) := ⟨_, rfl⟩
      rw [hA.out] at hal
      rw [hG.out] at hgl2
      have hab : 0 ≤ A ∧ A ≤ 240000 := by
        have : (10000 : Int) * (l.length : Int) ≤ 240000 := by have := hml.out; omega
        omega
      have hG1 : Hid (G ≤ 10000) := hgl2.1
      have hG2 := Lib.hid hgl2.2.1
      have hG3 := Lib.hid hgl2.2.2
      rw [hA.out, hG.out]
      clear hal hgl2
      have r00 := HP.out.r0.cell 0
      have r01 := HP.out.r0.cell 1
      have r02 := HP.out.r0.cell 2
      have r03 := HP.out.r0.frozen 0
      have r04 := HP.out.r0.frozen 1
      have r05 := HP.out.r0.frozen 2
      have r10 := HP.out.r1.cell 0
      have r11 := HP.out.r1.cell 1
      have r12 := HP.out.r1.frozen 0
      have r13 := HP.out.r1.frozen 1
      have rl0 := HP.out.r0.lt
      have rl1 := HP.out.r1.lt
      simp at r00 r01 r02 r10 r11
      by_cases hc1 : a1 ≤ 0
      · have hnr := Lib.hid (nrm_none (ts := l) hc1)
        have S0 : Hid (RetHeap (nrmF l a1) w (.returned (.tuple #[.agg #[.slice none 0 0, .slice none 0 0, .int .i64 0], .agg #[.int .i64 0, .int .i64 0]])) wr) := by rw [hnr.out]; exact ⟨none, none, 0, 0, 0, rfl, Own.nil _ _ _, Own.nil _ _ _, Dif.nil _, HP.out.bl⟩
        have Z : Hid (((((wr.setCell ⟨w.heap.size, 0, none⟩ (.slice none 0 0)).setCell ⟨w.heap.size, 1, none⟩ (.slice none 0 0)).setCell ⟨w.heap.size, 2, none⟩ (.int .i64 0)).setCell ⟨w.heap.size + 1, 0, none⟩ (.int .i64 0)).setCell ⟨w.heap.size + 1, 1, none⟩ (.int .i64 0) = wr) := by
          rw [Hid, setCell_id HP.out.r0 rfl, setCell_id HP.out.r0 rfl, setCell_id HP.out.r0 rfl, setCell_id HP.out.r1 rfl, setCell_id HP.out.r1 rfl]
        go_wp2_with fail
        rw [Z.out]
        exact bodyPost_ret (v := .tuple #[.agg #[.slice none 0 0, .slice none 0 0, .int .i64 0], .agg #[.int .i64 0, .int .i64 0]]) (by simp [results, Tryz.results84, go_sem, r00, r01, r02, r10, r11, rl0, rl1]) rfl S0.out
      by_cases hc2 : A < a1
      · have hnr := Lib.hid (nrm_never (ts := l) (a := a1) (by omega) (by rw [hA.out]; exact hc2))
        have Z : Hid ((wr.setCell ⟨w.heap.size, 0, none⟩ (.slice none 0 0)).setCell ⟨w.heap.size, 1, none⟩ (.slice none 0 0) = wr) := by
          rw [Hid, setCell_id HP.out.r0 rfl, setCell_id HP.out.r0 rfl]
        have K5 : Hid (Blk (wr.setCell ⟨w.heap.size, 2, none⟩ (.int .i64 1)) w.heap.size 54 #[.slice none 0 0, .slice none 0 0, .int .i64 1]) := by have := HP.out.r0.set_ 2 (.int .i64 1); simpa [Hid] using this
        have K6 : Hid (Blk (wr.setCell ⟨w.heap.size, 2, none⟩ (.int .i64 1)) (w.heap.size + 1) 28 #[.int .i64 0, .int .i64 0]) := HP.out.r1.far (p := ⟨w.heap.size, 2, none⟩) (show w.heap.size + 1 ≠ w.heap.size by omega) _
        have Z2 : Hid (((wr.setCell ⟨w.heap.size, 2, none⟩ (.int .i64 1)).setCell ⟨w.heap.size + 1, 0, none⟩ (.int .i64 0)).setCell ⟨w.heap.size + 1, 1, none⟩ (.int .i64 0) = wr.setCell ⟨w.heap.size, 2, none⟩ (.int .i64 1)) := by
          rw [Hid, setCell_id K6.out rfl, setCell_id K6.out rfl]
        have S0 : Hid (RetHeap (nrmF l a1) w (.returned (.tuple #[.agg #[.slice none 0 0, .slice none 0 0, .int .i64 1], .agg #[.int .i64 0, .int .i64 0]])) (wr.setCell ⟨w.heap.size, 2, none⟩ (.int .i64 1))) := by rw [hnr.out]; exact ⟨none, none, 0, 0, 0, rfl, Own.nil _ _ _, Own.nil _ _ _, Dif.nil _, HP.out.bl.setCell (p := ⟨w.heap.size, 2, none⟩) (Nat.le_refl _) _⟩
        have s00 := K5.out.cell 0
        have s01 := K5.out.cell 1
        have s02 := K5.out.cell 2
        have s10 := K6.out.cell 0
        have s11 := K6.out.cell 1
        have sl0 := K5.out.lt
        have sl1 := K6.out.lt
        simp only [List.getElem?_toArray, List.getElem?_cons_zero, List.getElem?_cons_succ] at s00 s01 s02 s10 s11
        go_wp2_with fail
        rw [Z.out, Z2.out]
        exact bodyPost_ret (v := .tuple #[.agg #[.slice none 0 0, .slice none 0 0, .int .i64 1], .agg #[.int .i64 0, .int .i64 0]]) (by simp [results, Tryz.results84, go_sem, s00, s01, s02, s10, s11, sl0, sl1]) rfl S0.out
      have hnr := Lib.hid (nrm_some (ts := l) (a := a1) (by omega) (by rw [hA.out]; omega))
      have hne : l ≠ [] := fun e => by have := hA.out; rw [e] at this; simp [wtT] at this; omega
      have hg0 : 0 < G := hG2.out hne
      obtain ⟨a2, ha2⟩ : ∃ z, Hid ((a1 + G - 1).tdiv G = z) := ⟨_, rfl⟩
      have hup2 := up_bd (a := a1) hg0 (by omega)
      rw [ha2.out] at hup2
      have ha3 := Lib.hid hup2.1
      replace hup2 := hup2.2
      have hG1b := hG1.out
      have ha1c := ha1b.out
      obtain ⟨wx, hwx⟩ : ∃ z : World, Hid (z = wr.alloc (.cells #[.slice none 0 0, .slice none 0 0, .int .i64 a2] 54)) := ⟨_, rfl⟩
      have hbx : Below wr.heap.size wr wx := by rw [hwx.out]; exact below_new _ _
      have HPx := HP.out.keep hbx
      have kx : Blk wx wr.heap.size 54 #[.slice none 0 0, .slice none 0 0, .int .i64 a2] := by rw [hwx.out]; exact Blk.new _ _ _
      have HX : Hid (NrSt w wr.heap.size wx none 0 0 none 0 0 a2) := ⟨HPx.bl, HPx.r0, HPx.r1, kx, HP.out.sz⟩
      have HTX := Lib.hid HPx.t
      have g2 := kx.cell 2
      have glt := kx.lt
      simp at g2
      obtain ⟨gx, hgx⟩ : ∃ z, Hid (wr.heap.size = z) := ⟨_, rfl⟩
      have z1 : IntKind.i64.wrap (a1 + G) = a1 + G := IntWalk.i64_in _ (by omega)
      have z2 : IntKind.i64.wrap (a1 + G - 1) = a1 + G - 1 := IntWalk.i64_in _ (by omega)
      have z3 : ¬ (G : Int) = 0 := by omega
      have z4 : decide ((24 : Int) < (i : Int)) = false := decide_eq_false (by omega)
      have z5 : decide ((1000000 : Int) < a2) = false := decide_eq_false (by omega)
      have z6 : ((G : Int) == 0) = false := by rw [beq_eq_false_iff_ne]; exact z3
      have z7 : ((G : Int) != 0) = true := by rw [bne_iff_ne]; exact z3
      go_wp2_with fail
      rw [← ha3.out, z5]
      rw [← hwx.out]
      rw [hgx.out] at HX g2 glt ⊢
      clear hwx hgx HP r00 r01 r02 r03 r04 r05 r10 r11 r12 r13 rl0 rl1 hbx HPx kx
      go_loopw [15, 70] (fun s15 s70 wq => ∃ (j ck cn : Nat) (K N : Option Addr), j ≤ i ∧ s15 = .bool false ∧ s70 = .int .i64 j ∧ Hid (NrSt w gx wq K j ck N j cn a2) ∧ Hid (OwnT wq (w.heap.size + 2) B i k l) ∧ Hid (Own 3 wq w.heap.size K j ck (((l.take j).map (·.1)).map (Value.int .i64))) ∧ Hid (Own 3 wq w.heap.size N j cn (((l.take j).map (fun t => t.2.tdiv (G : Int))).map (Value.int .i64))) ∧ Hid (Dif K N)) (fun _ s _ => i - (intOf s).toNat)
      case atStart => exact ⟨0, 0, 0, none, none, Nat.zero_le _, rfl, rfl, HX, HTX, Own.nil _ _ _, Own.nil _ _ _, Dif.nil _⟩
      case round =>
        clear HX HTX g2 glt
        obtain ⟨j, ck, cn, K, N, hj, rfl, rfl, HX, HTX, HK, HN, HD⟩ := hrel
        by_cases hjl : j < i
        · obtain ⟨g, x, o, rfl, hgb, hgl, hc0, hc1, hto⟩ := HTX.out.round hjl
          have hob := htm.out _ (List.mem_of_getElem? hto.out)
          simp only at hob
          have hog := hG3.out _ (List.mem_of_getElem? hto.out)
          simp only at hog
          have hqb := quo_bd (x := o) hg0 hob.1 hog.2
          obtain ⟨o2, ho2⟩ : ∃ z, Hid (o.tdiv (G : Int) = z) := ⟨_, rfl⟩
          obtain ⟨_, _, e3, e4⟩ := snd_take hto.out 0
          have e4 := e4 (G : Int)
          rw [ho2.out] at hqb e4
          have E3 : Hid ((l.take (j + 1)).map (·.1) = (l.take j).map (·.1) ++ [x]) := e3
          have E4 : Hid ((l.take (j + 1)).map (fun t => t.2.tdiv (G : Int)) = (l.take j).map (fun t => t.2.tdiv (G : Int)) ++ [o2]) := e4
          obtain ⟨xs, hxs⟩ : ∃ z, Hid ((l.take j).map (·.1) = z) := ⟨_, rfl⟩
          obtain ⟨ys, hys⟩ : ∃ z, Hid ((l.take j).map (fun t => t.2.tdiv (G : Int)) = z) := ⟨_, rfl⟩
          rw [hxs.out] at HK E3
          rw [hys.out] at HN E4
          obtain ⟨wa, hwa⟩ : ∃ z : World, Hid (z = wr.alloc (.cells #[.int .i64 x, .int .i64 o] 149)) := ⟨_, rfl⟩
          have hba : Below wr.heap.size wr wa := by rw [hwa.out]; exact below_new _ _
          have HXa := Lib.hid (HX.out.keep hba)
          have HTa := Lib.hid (HTX.out.keep hba)
          have HKa := Lib.hid (HK.out.keep hba)
          have HNa := Lib.hid (HN.out.keep hba)
          have ka : Blk wa wr.heap.size 149 #[.int .i64 x, .int .i64 o] := by rw [hwa.out]; exact Blk.new _ _ _
          have HA := Lib.hid ka
          obtain ⟨gt, hgt⟩ : ∃ z, Hid (wr.heap.size = z) := ⟨_, rfl⟩
          rw [hgt.out] at HA
          have q0 : (0 : Int) ≤ (j : Int) := by omega
          have q1 : (j : Int) < (i : Int) := by omega
          have z8 : decide ((1000000 : Int) < o2) = false := decide_eq_false (by omega)
          have ho3 : Hid (o / (G : Int) = o2) := hqb.1.symm
          have z9 : ¬ G = 0 := by omega
          have z10 : IntKind.i64.wrap (o.tdiv (G : Int)) = o2 := by rw [ho2.out]; exact IntWalk.i64_in _ (by omega)
          obtain ⟨i0, hi0, hz0, hz1, hz2⟩ := info_parts int_info
          clear e3 e4 hba ka HX HTX HK HN hto hxs hys
          go_wp2_with fail
          try rw [← hwa.out]
          rw [hgt.out]
          obtain ⟨W0, hwd⟩ : ∃ z : World, z = wa.drew := ⟨_, rfl⟩
          have hbd0 : Below wa.heap.size wa W0 := by rw [hwd]; exact below_drewN _ 1
          have HX0 := Lib.hid (HXa.out.keep hbd0)
          have HT0 := Lib.hid (HTa.out.keep hbd0)
          have HK0 := Lib.hid (HKa.out.keep hbd0)
          have HN0 := Lib.hid (HNa.out.keep hbd0)
          have HA0 := Lib.hid (HA.out.keep hbd0)
          have HD0 := HD
          clear hbd0 HXa HTa HKa HNa HA hwa hgt hc0 hc1
          have hS0 : W0.cell? ⟨gx, 0, none⟩ = some (.slice K j ck) ∧ W0.cell? ⟨gx, 1, none⟩ = some (.slice N j cn) ∧ W0.cell? ⟨gt, 0, none⟩ = some (.int .i64 x) ∧ W0.cell? ⟨gt, 1, none⟩ = some (.int .i64 o) ∧ gx < W0.heap.size ∧ gt < W0.heap.size := ⟨by have := HX0.out.tb.cell 0; simpa using this, by have := HX0.out.tb.cell 1; simpa using this, by have := HA0.out.cell 0; simpa using this, by have := HA0.out.cell 1; simpa using this, HX0.out.tb.lt, HA0.out.lt⟩
          have hS := hS0
          refine wp_region_tail (fun w' => w'.cell? ⟨gx, 0, none⟩ = some (.slice K j ck) ∧ w'.cell? ⟨gx, 1, none⟩ = some (.slice N j cn) ∧ w'.cell? ⟨gt, 0, none⟩ = some (.int .i64 x) ∧ w'.cell? ⟨gt, 1, none⟩ = some (.int .i64 o) ∧ gx < w'.heap.size ∧ gt < w'.heap.size) [15, 17] (by kernel_rfl) ?_
          change wpAnyT _ _ _ _ _ _ _ _ _ wa.drew
          rw [← hwd]
          clear hwd
          refine take0 (i := 0) (oi := _) (v := ?_) rfl (by kernel_rfl) (by kernel_rfl) (by kernel_rfl) (fun _ _ _ h => h) rfl (Or.inl ⟨by rfl, ?_⟩) (fun _ => hS) ?_
          rotate_left
          · intro w0; go_simp; with_reducible rfl
          (try simp only [Act.put, List.setIfInBounds_toArray, List.set_cons_zero, List.set_cons_succ])
          refine takeS (i := 1) (oi := _) (v := ?_) rfl (by kernel_rfl) (by kernel_rfl) (by kernel_rfl) (fun _ _ _ h => h) rfl (by kernel_rfl) (by kernel_rfl) (Or.inl ⟨by rfl, ?_⟩) hS ?_
          rotate_left
          · intro w0 hSw; (try dsimp only at hSw); go_simp; with_reducible rfl
          (try simp only [Act.put, List.setIfInBounds_toArray, List.set_cons_zero, List.set_cons_succ])
          refine take0 (i := 2) (oi := _) (v := ?_) rfl (by kernel_rfl) (by kernel_rfl) (by kernel_rfl) (fun _ _ _ h => h) rfl (Or.inl ⟨by rfl, ?_⟩) (fun _ => hS) ?_
          rotate_left
          · intro w0; go_simp; with_reducible rfl
          (try simp only [Act.put, List.setIfInBounds_toArray, List.set_cons_zero, List.set_cons_succ])
          refine takeS (i := 3) (oi := _) (v := ?_) rfl (by kernel_rfl) (by kernel_rfl) (by kernel_rfl) (fun _ _ _ h => h) rfl (by kernel_rfl) (by kernel_rfl) (Or.inl ⟨by rfl, ?_⟩) hS ?_
          rotate_left
          · intro w0 hSw; (try dsimp only at hSw); go_simp; with_reducible rfl
          (try simp only [Act.put, List.setIfInBounds_toArray, List.set_cons_zero, List.set_cons_succ])
          refine take0 (i := 6) (oi := _) (v := ?_) rfl (by kernel_rfl) (by kernel_rfl) (by kernel_rfl) (fun _ _ _ h => h) rfl (Or.inl ⟨by rfl, ?_⟩) (fun _ => hS) ?_
          rotate_left
          · intro w0; go_simp; with_reducible rfl
          (try simp only [Act.put, List.setIfInBounds_toArray, List.set_cons_zero, List.set_cons_succ])
          refine takeS (i := 7) (oi := _) (v := ?_) rfl (by kernel_rfl) (by kernel_rfl) (by kernel_rfl) (fun _ _ _ h => h) rfl (by kernel_rfl) (by kernel_rfl) (Or.inl ⟨by rfl, ?_⟩) hS ?_
          rotate_left
          · intro w0 hSw; (try dsimp only at hSw); go_simp; with_reducible rfl
          (try simp only [Act.put, List.setIfInBounds_toArray, List.set_cons_zero, List.set_cons_succ])
          refine take0 (i := 8) (oi := _) (v := ?_) rfl (by kernel_rfl) (by kernel_rfl) (by kernel_rfl) (fun _ _ _ h => h) rfl (Or.inl ⟨by rfl, ?_⟩) (fun _ => hS) ?_
          rotate_left
          · intro w0; go_simp; with_reducible rfl
          (try simp only [Act.put, List.setIfInBounds_toArray, List.set_cons_zero, List.set_cons_succ])
          refine take0 (i := 10) (oi := _) (v := ?_) rfl (by kernel_rfl) (by kernel_rfl) (by kernel_rfl) (fun _ _ _ h => h) rfl (Or.inl ⟨by rfl, ?_⟩) (fun _ => hS) ?_
          rotate_left
          · intro w0; go_simp; with_reducible rfl
          (try simp only [Act.put, List.setIfInBounds_toArray, List.set_cons_zero, List.set_cons_succ])
          refine twoT (i := 4) (j := 9) (by kernel_rfl) rfl (by rfl) rfl (by rfl) (fun Kq hK => ?_) (fun Kq hK => ?_)
          · go_simp
            obtain ⟨W1, hv1⟩ : ∃ v1 : World, v1 = W0.alloc (.cells #[.int .i64 x] 3) := ⟨_, rfl⟩
            have bv1 : Below W0.heap.size W0 W1 := by rw [hv1]; exact below_new _ _
            have SA1 : Hid (Own 3 W1 W0.heap.size (some ⟨W0.heap.size, 0, none⟩) 1 1 [.int .i64 x]) := by rw [hv1]; exact own_new 3 W0 W0.heap.size [.int .i64 x] rfl (Nat.le_refl _) (by simp [maxLen])
            have HX1 := Lib.hid (HX0.out.keep bv1)
            have HT1 := Lib.hid (HT0.out.keep bv1)
            have HK1 := Lib.hid (HK0.out.keep bv1)
            have HN1 := Lib.hid (HN0.out.keep bv1)
            have HA1 := Lib.hid (HA0.out.keep bv1)
            have HD1 := HD0
            have hS1 : W1.cell? ⟨gx, 0, none⟩ = some (.slice K j ck) ∧ W1.cell? ⟨gx, 1, none⟩ = some (.slice N j cn) ∧ W1.cell? ⟨gt, 0, none⟩ = some (.int .i64 x) ∧ W1.cell? ⟨gt, 1, none⟩ = some (.int .i64 o) ∧ gx < W1.heap.size ∧ gt < W1.heap.size := ⟨by have := HX1.out.tb.cell 0; simpa using this, by have := HX1.out.tb.cell 1; simpa using this, by have := HA1.out.cell 0; simpa using this, by have := HA1.out.cell 1; simpa using this, HX1.out.tb.lt, HA1.out.lt⟩
            rw [← hv1]
            clear hv1 bv1
            refine hK _ _ (fun _ => hS1) ?_
            clear hK
            (try simp only [Act.put, List.setIfInBounds_toArray, List.set_cons_zero, List.set_cons_succ])
            refine twoT (i := 5) (j := 9) (by kernel_rfl) rfl (by rfl) rfl (by rfl) (fun Kq hK => ?_) (fun Kq hK => ?_)
            · have hz9 := HX1.out.bl.size
              refine wp_append_sl _ (.tmp 75) (.tmp 78) 22 rfl w.heap.size 3 i0 _ 8 Tryz.underlying22 hi0 hz0 hz1 hz2 rfl K j ck _ rfl HK1.out (some ⟨W0.heap.size, 0, none⟩) 1 1 [.int .i64 x] rfl SA1.out.sl (by simp [Value.oneCell']) (by simp only [maxLen]; omega) (by omega) hz9 ?_
              intro K2 ck2 W2 hO2 hG2 hA2
              have HX2 := Lib.hid (HX1.out.grow HK1.out hG2)
              have HT2 := Lib.hid (ownT_apart HT1.out HK1.out hG2)
              have HA2 := Lib.hid (HA1.out.ownGrown HK1.out hG2 (by decide))
              have HK2 := Lib.hid hO2
              have HN2 := Lib.hid (HN1.out.kept hG2 (HD1.out.symm))
              have HD2 := Lib.hid (HD1.out.moved HN1.out hA2)
              have hS2 : W2.cell? ⟨gx, 0, none⟩ = some (.slice K j ck) ∧ W2.cell? ⟨gx, 1, none⟩ = some (.slice N j cn) ∧ W2.cell? ⟨gt, 0, none⟩ = some (.int .i64 x) ∧ W2.cell? ⟨gt, 1, none⟩ = some (.int .i64 o) ∧ gx < W2.heap.size ∧ gt < W2.heap.size := ⟨by have := HX2.out.tb.cell 0; simpa using this, by have := HX2.out.tb.cell 1; simpa using this, by have := HA2.out.cell 0; simpa using this, by have := HA2.out.cell 1; simpa using this, HX2.out.tb.lt, HA2.out.lt⟩
              refine hK _ _ (fun _ => hS2) ?_
              clear hK
              (try simp only [Act.put, List.setIfInBounds_toArray, List.set_cons_zero, List.set_cons_succ])
              (try simp only [Nat.zero_add])
              refine take0 (i := 14) (oi := _) (v := ?_) rfl (by kernel_rfl) (by kernel_rfl) (by kernel_rfl) (fun _ _ _ h => h) rfl (Or.inl ⟨by rfl, ?_⟩) (fun _ => hS2) ?_
              rotate_left
              · intro w0; go_simp; with_reducible rfl
              (try simp only [Act.put, List.setIfInBounds_toArray, List.set_cons_zero, List.set_cons_succ])
              refine oneT (i := 9) (by kernel_rfl) rfl (by rfl) (fun Kq hK => ?_)
              have hA3 := hS2.2.2.2.1
              have hA5 := hS2.2.2.2.2.2
              go_simp
              refine hK _ _ (fun _ => hS2) ?_
              clear hK
              (try simp only [Act.put, List.setIfInBounds_toArray, List.set_cons_zero, List.set_cons_succ])
              clear hA3 hA5
              refine take0 (i := 11) (oi := _) (v := ?_) rfl (by kernel_rfl) (by kernel_rfl) (by kernel_rfl) (fun _ _ _ h => h) rfl (Or.inl ⟨by rfl, ?_⟩) (fun _ => hS2) ?_
              rotate_left
              · intro w0; go_simp; (try simp only [z9, if_false, z10]); (try rw [ho3.out]); try with_reducible rfl
              (try simp only [Act.put, List.setIfInBounds_toArray, List.set_cons_zero, List.set_cons_succ])
              refine oneT (i := 12) (by kernel_rfl) rfl (by rfl) (fun Kq hK => ?_)
              go_simp
              try rw [ho2.out]
              try rw [ho3.out]
              obtain ⟨W3, hv1⟩ : ∃ v1 : World, v1 = W2.alloc (.cells #[.int .i64 o2] 3) := ⟨_, rfl⟩
              have bv1 : Below W2.heap.size W2 W3 := by rw [hv1]; exact below_new _ _
              have SB3 : Hid (Own 3 W3 W2.heap.size (some ⟨W2.heap.size, 0, none⟩) 1 1 [.int .i64 o2]) := by rw [hv1]; exact own_new 3 W2 W2.heap.size [.int .i64 o2] rfl (Nat.le_refl _) (by simp [maxLen])
              have HX3 := Lib.hid (HX2.out.keep bv1)
              have HT3 := Lib.hid (HT2.out.keep bv1)
              have HK3 := Lib.hid (HK2.out.keep bv1)
              have HN3 := Lib.hid (HN2.out.keep bv1)
              have HA3 := Lib.hid (HA2.out.keep bv1)
              have HD3 := HD2
              have hS3 : W3.cell? ⟨gx, 0, none⟩ = some (.slice K j ck) ∧ W3.cell? ⟨gx, 1, none⟩ = some (.slice N j cn) ∧ W3.cell? ⟨gt, 0, none⟩ = some (.int .i64 x) ∧ W3.cell? ⟨gt, 1, none⟩ = some (.int .i64 o) ∧ gx < W3.heap.size ∧ gt < W3.heap.size := ⟨by have := HX3.out.tb.cell 0; simpa using this, by have := HX3.out.tb.cell 1; simpa using this, by have := HA3.out.cell 0; simpa using this, by have := HA3.out.cell 1; simpa using this, HX3.out.tb.lt, HA3.out.lt⟩
              rw [← hv1]
              clear hv1 bv1
              refine hK _ _ (fun _ => hS3) ?_
              clear hK
              (try simp only [Act.put, List.setIfInBounds_toArray, List.set_cons_zero, List.set_cons_succ])
              refine oneT (i := 13) (by kernel_rfl) rfl (by rfl) (fun Kq hK => ?_)
              have hz9 := HX3.out.bl.size
              refine wp_append_sl _ (.tmp 81) (.tmp 86) 22 rfl w.heap.size 3 i0 _ 8 Tryz.underlying22 hi0 hz0 hz1 hz2 rfl N j cn _ rfl HN3.out (some ⟨W2.heap.size, 0, none⟩) 1 1 [.int .i64 o2] rfl SB3.out.sl (by simp [Value.oneCell']) (by simp only [maxLen]; omega) (by omega) hz9 ?_
              intro N2 cn2 W4 hO2 hG2 hA2
              have HX4 := Lib.hid (HX3.out.grow HN3.out hG2)
              have HT4 := Lib.hid (ownT_apart HT3.out HN3.out hG2)
              have HA4 := Lib.hid (HA3.out.ownGrown HN3.out hG2 (by decide))
              have HN4 := Lib.hid hO2
              have HK4 := Lib.hid (HK3.out.kept hG2 HD3.out)
              have HD4 := Lib.hid (Dif.symm ((HD3.out.symm).moved HK3.out hA2))
              have hS4 : W4.cell? ⟨gx, 0, none⟩ = some (.slice K j ck) ∧ W4.cell? ⟨gx, 1, none⟩ = some (.slice N j cn) ∧ W4.cell? ⟨gt, 0, none⟩ = some (.int .i64 x) ∧ W4.cell? ⟨gt, 1, none⟩ = some (.int .i64 o) ∧ gx < W4.heap.size ∧ gt < W4.heap.size := ⟨by have := HX4.out.tb.cell 0; simpa using this, by have := HX4.out.tb.cell 1; simpa using this, by have := HA4.out.cell 0; simpa using this, by have := HA4.out.cell 1; simpa using this, HX4.out.tb.lt, HA4.out.lt⟩
              refine hK _ _ (fun _ => hS4) ?_
              clear hK
              (try simp only [Act.put, List.setIfInBounds_toArray, List.set_cons_zero, List.set_cons_succ])
              (try simp only [Nat.zero_add])
              have kf0 := HX4.out.tb.frozen 0
              have kf1 := HX4.out.tb.frozen 1
              refine oneT (i := 15) (by kernel_rfl) rfl (by rfl) (fun K hK => ?_)
              go_simp
              refine hK _ _ (noT_no (by kernel_rfl)) ?_
              clear hK
              refine take0 (i := 16) (oi := _) (v := ?_) rfl (by kernel_rfl) (by kernel_rfl) (by kernel_rfl) (fun _ _ _ h => h) rfl (Or.inl ⟨by rfl, ?_⟩) (noT_no (by kernel_rfl)) ?_
              rotate_left
              · intro w0; go_simp; with_reducible rfl
              (try simp only [Act.put, List.setIfInBounds_toArray, List.set_cons_zero, List.set_cons_succ])
              refine oneT (i := 17) (by kernel_rfl) rfl (by rfl) (fun K hK => ?_)
              go_simp
              refine hK _ _ (noT_no (by kernel_rfl)) ?_
              clear hK
              refine doneT (by kernel_rfl) ?_ _
              obtain ⟨W9, hw9⟩ : ∃ z : World, z = (W4.setCell ⟨gx, 0, none⟩ (.slice K2 (j + 1) ck2)).setCell ⟨gx, 1, none⟩ (.slice N2 (j + 1) cn2) := ⟨_, rfl⟩
              have HX9 : Hid (NrSt w gx W9 K2 (j + 1) ck2 N2 (j + 1) cn2 a2) := by rw [hw9]; exact HX4.out.put
              have HT9 : Hid (OwnT W9 (w.heap.size + 2) (some ⟨g, 0, none⟩) i k l) := by rw [hw9]; exact ownT_setHeap (ownT_setHeap HT4.out HX4.out.tb 0 _) (HX4.out.tb.set_ 0 _) 1 _
              have HK9 : Hid (Own 3 W9 w.heap.size K2 (j + 1) ck2 (((l.take (j + 1)).map (·.1)).map (Value.int .i64))) := by rw [E3.out, hw9, List.map_append]; exact Own.put2 HK4.out HX4.out.tb _ _
              have HN9 : Hid (Own 3 W9 w.heap.size N2 (j + 1) cn2 (((l.take (j + 1)).map (fun t => t.2.tdiv (G : Int))).map (Value.int .i64))) := by rw [E4.out, hw9, List.map_append]; exact Own.put2 HN4.out HX4.out.tb _ _
              have HA9 : Hid (Blk W9 gt 149 #[.int .i64 x, .int .i64 o]) := by rw [hw9]; exact (HA4.out.far (p := ⟨gx, 0, none⟩) (fun e => absurd (typed_one HA4.out (by rw [e]; exact Typed.of_blk HX4.out.tb)) (by decide)) _).far (p := ⟨gx, 1, none⟩) (fun e => absurd (typed_one HA4.out (by rw [e]; exact Typed.of_blk HX4.out.tb)) (by decide)) _
              try rw [← hw9]
              have ka1 := HA9.out.cell 1
              have kal := HA9.out.lt
              simp at ka1
              clear hw9 hS
              go_wp2_with fail
              try rw [ho3.out]
              try rw [ho2.out]
              go_wp2_with fail
              go_roundw
              case rel => exact ⟨j + 1, ck2, cn2, K2, N2, by omega, by rw [z8], by go_num, HX9, HT9, HK9, HN9, HD4⟩
              case measure => simp [intOf] <;> omega
            · have hA3 := hS1.2.2.2.1
              have hA5 := hS1.2.2.2.2.2
              go_simp
              refine hK _ _ (fun _ => hS1) ?_
              clear hK
              (try simp only [Act.put, List.setIfInBounds_toArray, List.set_cons_zero, List.set_cons_succ])
              clear hA3 hA5
              refine take0 (i := 11) (oi := _) (v := ?_) rfl (by kernel_rfl) (by kernel_rfl) (by kernel_rfl) (fun _ _ _ h => h) rfl (Or.inl ⟨by rfl, ?_⟩) (fun _ => hS1) ?_
              rotate_left
              · intro w0; go_simp; (try simp only [z9, if_false, z10]); (try rw [ho3.out]); try with_reducible rfl
              (try simp only [Act.put, List.setIfInBounds_toArray, List.set_cons_zero, List.set_cons_succ])
              refine twoT (i := 5) (j := 12) (by kernel_rfl) rfl (by rfl) rfl (by rfl) (fun Kq hK => ?_) (fun Kq hK => ?_)
              · have hz9 := HX1.out.bl.size
                refine wp_append_sl _ (.tmp 75) (.tmp 78) 22 rfl w.heap.size 3 i0 _ 8 Tryz.underlying22 hi0 hz0 hz1 hz2 rfl K j ck _ rfl HK1.out (some ⟨W0.heap.size, 0, none⟩) 1 1 [.int .i64 x] rfl SA1.out.sl (by simp [Value.oneCell']) (by simp only [maxLen]; omega) (by omega) hz9 ?_
                intro K2 ck2 W2 hO2 hG2 hA2
                have HX2 := Lib.hid (HX1.out.grow HK1.out hG2)
                have HT2 := Lib.hid (ownT_apart HT1.out HK1.out hG2)
                have HA2 := Lib.hid (HA1.out.ownGrown HK1.out hG2 (by decide))
                have HK2 := Lib.hid hO2
                have HN2 := Lib.hid (HN1.out.kept hG2 (HD1.out.symm))
                have HD2 := Lib.hid (HD1.out.moved HN1.out hA2)
                have hS2 : W2.cell? ⟨gx, 0, none⟩ = some (.slice K j ck) ∧ W2.cell? ⟨gx, 1, none⟩ = some (.slice N j cn) ∧ W2.cell? ⟨gt, 0, none⟩ = some (.int .i64 x) ∧ W2.cell? ⟨gt, 1, none⟩ = some (.int .i64 o) ∧ gx < W2.heap.size ∧ gt < W2.heap.size := ⟨by have := HX2.out.tb.cell 0; simpa using this, by have := HX2.out.tb.cell 1; simpa using this, by have := HA2.out.cell 0; simpa using this, by have := HA2.out.cell 1; simpa using this, HX2.out.tb.lt, HA2.out.lt⟩
                refine hK _ _ (fun _ => hS2) ?_
                clear hK
                (try simp only [Act.put, List.setIfInBounds_toArray, List.set_cons_zero, List.set_cons_succ])
                (try simp only [Nat.zero_add])
                refine take0 (i := 14) (oi := _) (v := ?_) rfl (by kernel_rfl) (by kernel_rfl) (by kernel_rfl) (fun _ _ _ h => h) rfl (Or.inl ⟨by rfl, ?_⟩) (fun _ => hS2) ?_
                rotate_left
                · intro w0; go_simp; with_reducible rfl
                (try simp only [Act.put, List.setIfInBounds_toArray, List.set_cons_zero, List.set_cons_succ])
                refine oneT (i := 12) (by kernel_rfl) rfl (by rfl) (fun Kq hK => ?_)
                go_simp
                try rw [ho2.out]
                try rw [ho3.out]
                obtain ⟨W3, hv1⟩ : ∃ v1 : World, v1 = W2.alloc (.cells #[.int .i64 o2] 3) := ⟨_, rfl⟩
                have bv1 : Below W2.heap.size W2 W3 := by rw [hv1]; exact below_new _ _
                have SB3 : Hid (Own 3 W3 W2.heap.size (some ⟨W2.heap.size, 0, none⟩) 1 1 [.int .i64 o2]) := by rw [hv1]; exact own_new 3 W2 W2.heap.size [.int .i64 o2] rfl (Nat.le_refl _) (by simp [maxLen])
                have HX3 := Lib.hid (HX2.out.keep bv1)
                have HT3 := Lib.hid (HT2.out.keep bv1)
                have HK3 := Lib.hid (HK2.out.keep bv1)
                have HN3 := Lib.hid (HN2.out.keep bv1)
                have HA3 := Lib.hid (HA2.out.keep bv1)
                have HD3 := HD2
                have hS3 : W3.cell? ⟨gx, 0, none⟩ = some (.slice K j ck) ∧ W3.cell? ⟨gx, 1, none⟩ = some (.slice N j cn) ∧ W3.cell? ⟨gt, 0, none⟩ = some (.int .i64 x) ∧ W3.cell? ⟨gt, 1, none⟩ = some (.int .i64 o) ∧ gx < W3.heap.size ∧ gt < W3.heap.size := ⟨by have := HX3.out.tb.cell 0; simpa using this, by have := HX3.out.tb.cell 1; simpa using this, by have := HA3.out.cell 0; simpa using this, by have := HA3.out.cell 1; simpa using this, HX3.out.tb.lt, HA3.out.lt⟩
                rw [← hv1]
                clear hv1 bv1
                refine hK _ _ (fun _ => hS3) ?_
                clear hK
                (try simp only [Act.put, List.setIfInBounds_toArray, List.set_cons_zero, List.set_cons_succ])
                refine oneT (i := 13) (by kernel_rfl) rfl (by rfl) (fun Kq hK => ?_)
                have hz9 := HX3.out.bl.size
                refine wp_append_sl _ (.tmp 81) (.tmp 86) 22 rfl w.heap.size 3 i0 _ 8 Tryz.underlying22 hi0 hz0 hz1 hz2 rfl N j cn _ rfl HN3.out (some ⟨W2.heap.size, 0, none⟩) 1 1 [.int .i64 o2] rfl SB3.out.sl (by simp [Value.oneCell']) (by simp only [maxLen]; omega) (by omega) hz9 ?_
                intro N2 cn2 W4 hO2 hG2 hA2
                have HX4 := Lib.hid (HX3.out.grow HN3.out hG2)
                have HT4 := Lib.hid (ownT_apart HT3.out HN3.out hG2)
                have HA4 := Lib.hid (HA3.out.ownGrown HN3.out hG2 (by decide))
                have HN4 := Lib.hid hO2
                have HK4 := Lib.hid (HK3.out.kept hG2 HD3.out)
                have HD4 := Lib.hid (Dif.symm ((HD3.out.symm).moved HK3.out hA2))
                have hS4 : W4.cell? ⟨gx, 0, none⟩ = some (.slice K j ck) ∧ W4.cell? ⟨gx, 1, none⟩ = some (.slice N j cn) ∧ W4.cell? ⟨gt, 0, none⟩ = some (.int .i64 x) ∧ W4.cell? ⟨gt, 1, none⟩ = some (.int .i64 o) ∧ gx < W4.heap.size ∧ gt < W4.heap.size := ⟨by have := HX4.out.tb.cell 0; simpa using this, by have := HX4.out.tb.cell 1; simpa using this, by have := HA4.out.cell 0; simpa using this, by have := HA4.out.cell 1; simpa using this, HX4.out.tb.lt, HA4.out.lt⟩
                refine hK _ _ (fun _ => hS4) ?_
                clear hK
                (try simp only [Act.put, List.setIfInBounds_toArray, List.set_cons_zero, List.set_cons_succ])
                (try simp only [Nat.zero_add])
                have kf0 := HX4.out.tb.frozen 0
                have kf1 := HX4.out.tb.frozen 1
                refine oneT (i := 15) (by kernel_rfl) rfl (by rfl) (fun K hK => ?_)
                go_simp
                refine hK _ _ (noT_no (by kernel_rfl)) ?_
                clear hK
                refine take0 (i := 16) (oi := _) (v := ?_) rfl (by kernel_rfl) (by kernel_rfl) (by kernel_rfl) (fun _ _ _ h => h) rfl (Or.inl ⟨by rfl, ?_⟩) (noT_no (by kernel_rfl)) ?_
                rotate_left
                · intro w0; go_simp; with_reducible rfl
                (try simp only [Act.put, List.setIfInBounds_toArray, List.set_cons_zero, List.set_cons_succ])
                refine oneT (i := 17) (by kernel_rfl) rfl (by rfl) (fun K hK => ?_)
                go_simp
                refine hK _ _ (noT_no (by kernel_rfl)) ?_
                clear hK
                refine doneT (by kernel_rfl) ?_ _
                obtain ⟨W9, hw9⟩ : ∃ z : World, z = (W4.setCell ⟨gx, 0, none⟩ (.slice K2 (j + 1) ck2)).setCell ⟨gx, 1, none⟩ (.slice N2 (j + 1) cn2) := ⟨_, rfl⟩
                have HX9 : Hid (NrSt w gx W9 K2 (j + 1) ck2 N2 (j + 1) cn2 a2) := by rw [hw9]; exact HX4.out.put
                have HT9 : Hid (OwnT W9 (w.heap.size + 2) (some ⟨g, 0, none⟩) i k l) := by rw [hw9]; exact ownT_setHeap (ownT_setHeap HT4.out HX4.out.tb 0 _) (HX4.out.tb.set_ 0 _) 1 _
                have HK9 : Hid (Own 3 W9 w.heap.size K2 (j + 1) ck2 (((l.take (j + 1)).map (·.1)).map (Value.int .i64))) := by rw [E3.out, hw9, List.map_append]; exact Own.put2 HK4.out HX4.out.tb _ _
                have HN9 : Hid (Own 3 W9 w.heap.size N2 (j + 1) cn2 (((l.take (j + 1)).map (fun t => t.2.tdiv (G : Int))).map (Value.int .i64))) := by rw [E4.out, hw9, List.map_append]; exact Own.put2 HN4.out HX4.out.tb _ _
                have HA9 : Hid (Blk W9 gt 149 #[.int .i64 x, .int .i64 o]) := by rw [hw9]; exact (HA4.out.far (p := ⟨gx, 0, none⟩) (fun e => absurd (typed_one HA4.out (by rw [e]; exact Typed.of_blk HX4.out.tb)) (by decide)) _).far (p := ⟨gx, 1, none⟩) (fun e => absurd (typed_one HA4.out (by rw [e]; exact Typed.of_blk HX4.out.tb)) (by decide)) _
                try rw [← hw9]
                have ka1 := HA9.out.cell 1
                have kal := HA9.out.lt
                simp at ka1
                clear hw9 hS
                go_wp2_with fail
                try rw [ho3.out]
                try rw [ho2.out]
                go_wp2_with fail
                go_roundw
                case rel => exact ⟨j + 1, ck2, cn2, K2, N2, by omega, by rw [z8], by go_num, HX9, HT9, HK9, HN9, HD4⟩
                case measure => simp [intOf] <;> omega
              · go_simp
                try rw [ho2.out]
                try rw [ho3.out]
                obtain ⟨W2, hv1⟩ : ∃ v1 : World, v1 = W1.alloc (.cells #[.int .i64 o2] 3) := ⟨_, rfl⟩
                have bv1 : Below W1.heap.size W1 W2 := by rw [hv1]; exact below_new _ _
                have SB2 : Hid (Own 3 W2 W1.heap.size (some ⟨W1.heap.size, 0, none⟩) 1 1 [.int .i64 o2]) := by rw [hv1]; exact own_new 3 W1 W1.heap.size [.int .i64 o2] rfl (Nat.le_refl _) (by simp [maxLen])
                have hltW1 : Hid (∀ g, blockOf K = some g → g < W1.heap.size) := fun g hg => (own_blk_lt HK1.out hg).1
                have HX2 := Lib.hid (HX1.out.keep bv1)
                have HT2 := Lib.hid (HT1.out.keep bv1)
                have HK2 := Lib.hid (HK1.out.keep bv1)
                have HN2 := Lib.hid (HN1.out.keep bv1)
                have HA2 := Lib.hid (HA1.out.keep bv1)
                have HD2 := HD1
                have SA2 := Lib.hid (SA1.out.keep bv1)
                have hS2 : W2.cell? ⟨gx, 0, none⟩ = some (.slice K j ck) ∧ W2.cell? ⟨gx, 1, none⟩ = some (.slice N j cn) ∧ W2.cell? ⟨gt, 0, none⟩ = some (.int .i64 x) ∧ W2.cell? ⟨gt, 1, none⟩ = some (.int .i64 o) ∧ gx < W2.heap.size ∧ gt < W2.heap.size := ⟨by have := HX2.out.tb.cell 0; simpa using this, by have := HX2.out.tb.cell 1; simpa using this, by have := HA2.out.cell 0; simpa using this, by have := HA2.out.cell 1; simpa using this, HX2.out.tb.lt, HA2.out.lt⟩
                rw [← hv1]
                clear hv1 bv1
                refine hK _ _ (fun _ => hS2) ?_
                clear hK
                (try simp only [Act.put, List.setIfInBounds_toArray, List.set_cons_zero, List.set_cons_succ])
                refine oneT (i := 5) (by kernel_rfl) rfl (by rfl) (fun Kq hK => ?_)
                have hz9 := HX2.out.bl.size
                refine wp_append_sl _ (.tmp 75) (.tmp 78) 22 rfl w.heap.size 3 i0 _ 8 Tryz.underlying22 hi0 hz0 hz1 hz2 rfl K j ck _ rfl HK2.out (some ⟨W0.heap.size, 0, none⟩) 1 1 [.int .i64 x] rfl SA2.out.sl (by simp [Value.oneCell']) (by simp only [maxLen]; omega) (by omega) hz9 ?_
                intro K2 ck2 W3 hO2 hG2 hA2
                have HX3 := Lib.hid (HX2.out.grow HK2.out hG2)
                have HT3 := Lib.hid (ownT_apart HT2.out HK2.out hG2)
                have HA3 := Lib.hid (HA2.out.ownGrown HK2.out hG2 (by decide))
                have HK3 := Lib.hid hO2
                have HN3 := Lib.hid (HN2.out.kept hG2 (HD2.out.symm))
                have HD3 := Lib.hid (HD2.out.moved HN2.out hA2)
                have SB3 := Lib.hid (SB2.out.kept hG2 (.inr (fun e => Nat.lt_irrefl _ (hltW1.out _ e.symm))))
                have hS3 : W3.cell? ⟨gx, 0, none⟩ = some (.slice K j ck) ∧ W3.cell? ⟨gx, 1, none⟩ = some (.slice N j cn) ∧ W3.cell? ⟨gt, 0, none⟩ = some (.int .i64 x) ∧ W3.cell? ⟨gt, 1, none⟩ = some (.int .i64 o) ∧ gx < W3.heap.size ∧ gt < W3.heap.size := ⟨by have := HX3.out.tb.cell 0; simpa using this, by have := HX3.out.tb.cell 1; simpa using this, by have := HA3.out.cell 0; simpa using this, by have := HA3.out.cell 1; simpa using this, HX3.out.tb.lt, HA3.out.lt⟩
                refine hK _ _ (fun _ => hS3) ?_
                clear hK
                (try simp only [Act.put, List.setIfInBounds_toArray, List.set_cons_zero, List.set_cons_succ])
                (try simp only [Nat.zero_add])
                refine take0 (i := 14) (oi := _) (v := ?_) rfl (by kernel_rfl) (by kernel_rfl) (by kernel_rfl) (fun _ _ _ h => h) rfl (Or.inl ⟨by rfl, ?_⟩) (fun _ => hS3) ?_
                rotate_left
                · intro w0; go_simp; with_reducible rfl
                (try simp only [Act.put, List.setIfInBounds_toArray, List.set_cons_zero, List.set_cons_succ])
                refine oneT (i := 13) (by kernel_rfl) rfl (by rfl) (fun Kq hK => ?_)
                have hz9 := HX3.out.bl.size
                refine wp_append_sl _ (.tmp 81) (.tmp 86) 22 rfl w.heap.size 3 i0 _ 8 Tryz.underlying22 hi0 hz0 hz1 hz2 rfl N j cn _ rfl HN3.out (some ⟨W1.heap.size, 0, none⟩) 1 1 [.int .i64 o2] rfl SB3.out.sl (by simp [Value.oneCell']) (by simp only [maxLen]; omega) (by omega) hz9 ?_
                intro N2 cn2 W4 hO2 hG2 hA2
                have HX4 := Lib.hid (HX3.out.grow HN3.out hG2)
                have HT4 := Lib.hid (ownT_apart HT3.out HN3.out hG2)
                have HA4 := Lib.hid (HA3.out.ownGrown HN3.out hG2 (by decide))
                have HN4 := Lib.hid hO2
                have HK4 := Lib.hid (HK3.out.kept hG2 HD3.out)
                have HD4 := Lib.hid (Dif.symm ((HD3.out.symm).moved HK3.out hA2))
                have hS4 : W4.cell? ⟨gx, 0, none⟩ = some (.slice K j ck) ∧ W4.cell? ⟨gx, 1, none⟩ = some (.slice N j cn) ∧ W4.cell? ⟨gt, 0, none⟩ = some (.int .i64 x) ∧ W4.cell? ⟨gt, 1, none⟩ = some (.int .i64 o) ∧ gx < W4.heap.size ∧ gt < W4.heap.size := ⟨by have := HX4.out.tb.cell 0; simpa using this, by have := HX4.out.tb.cell 1; simpa using this, by have := HA4.out.cell 0; simpa using this, by have := HA4.out.cell 1; simpa using this, HX4.out.tb.lt, HA4.out.lt⟩
                refine hK _ _ (fun _ => hS4) ?_
                clear hK
                (try simp only [Act.put, List.setIfInBounds_toArray, List.set_cons_zero, List.set_cons_succ])
                (try simp only [Nat.zero_add])
                have kf0 := HX4.out.tb.frozen 0
                have kf1 := HX4.out.tb.frozen 1
                refine oneT (i := 15) (by kernel_rfl) rfl (by rfl) (fun K hK => ?_)
                go_simp
                refine hK _ _ (noT_no (by kernel_rfl)) ?_
                clear hK
                refine take0 (i := 16) (oi := _) (v := ?_) rfl (by kernel_rfl) (by kernel_rfl) (by kernel_rfl) (fun _ _ _ h => h) rfl (Or.inl ⟨by rfl, ?_⟩) (noT_no (by kernel_rfl)) ?_
                rotate_left
                · intro w0; go_simp; with_reducible rfl
                (try simp only [Act.put, List.setIfInBounds_toArray, List.set_cons_zero, List.set_cons_succ])
                refine oneT (i := 17) (by kernel_rfl) rfl (by rfl) (fun K hK => ?_)
                go_simp
                refine hK _ _ (noT_no (by kernel_rfl)) ?_
                clear hK
                refine doneT (by kernel_rfl) ?_ _
                obtain ⟨W9, hw9⟩ : ∃ z : World, z = (W4.setCell ⟨gx, 0, none⟩ (.slice K2 (j + 1) ck2)).setCell ⟨gx, 1, none⟩ (.slice N2 (j + 1) cn2) := ⟨_, rfl⟩
                have HX9 : Hid (NrSt w gx W9 K2 (j + 1) ck2 N2 (j + 1) cn2 a2) := by rw [hw9]; exact HX4.out.put
                have HT9 : Hid (OwnT W9 (w.heap.size + 2) (some ⟨g, 0, none⟩) i k l) := by rw [hw9]; exact ownT_setHeap (ownT_setHeap HT4.out HX4.out.tb 0 _) (HX4.out.tb.set_ 0 _) 1 _
                have HK9 : Hid (Own 3 W9 w.heap.size K2 (j + 1) ck2 (((l.take (j + 1)).map (·.1)).map (Value.int .i64))) := by rw [E3.out, hw9, List.map_append]; exact Own.put2 HK4.out HX4.out.tb _ _
                have HN9 : Hid (Own 3 W9 w.heap.size N2 (j + 1) cn2 (((l.take (j + 1)).map (fun t => t.2.tdiv (G : Int))).map (Value.int .i64))) := by rw [E4.out, hw9, List.map_append]; exact Own.put2 HN4.out HX4.out.tb _ _
                have HA9 : Hid (Blk W9 gt 149 #[.int .i64 x, .int .i64 o]) := by rw [hw9]; exact (HA4.out.far (p := ⟨gx, 0, none⟩) (fun e => absurd (typed_one HA4.out (by rw [e]; exact Typed.of_blk HX4.out.tb)) (by decide)) _).far (p := ⟨gx, 1, none⟩) (fun e => absurd (typed_one HA4.out (by rw [e]; exact Typed.of_blk HX4.out.tb)) (by decide)) _
                try rw [← hw9]
                have ka1 := HA9.out.cell 1
                have kal := HA9.out.lt
                simp at ka1
                clear hw9 hS
                go_wp2_with fail
                try rw [ho3.out]
                try rw [ho2.out]
                go_wp2_with fail
                go_roundw
                case rel => exact ⟨j + 1, ck2, cn2, K2, N2, by omega, by rw [z8], by go_num, HX9, HT9, HK9, HN9, HD4⟩
                case measure => simp [intOf] <;> omega
          · have hA3 := hS0.2.2.2.1
            have hA5 := hS0.2.2.2.2.2
            go_simp
            refine hK _ _ (fun _ => hS0) ?_
            clear hK
            (try simp only [Act.put, List.setIfInBounds_toArray, List.set_cons_zero, List.set_cons_succ])
            clear hA3 hA5
            refine take0 (i := 11) (oi := _) (v := ?_) rfl (by kernel_rfl) (by kernel_rfl) (by kernel_rfl) (fun _ _ _ h => h) rfl (Or.inl ⟨by rfl, ?_⟩) (fun _ => hS0) ?_
            rotate_left
            · intro w0; go_simp; (try simp only [z9, if_false, z10]); (try rw [ho3.out]); try with_reducible rfl
            (try simp only [Act.put, List.setIfInBounds_toArray, List.set_cons_zero, List.set_cons_succ])
            refine twoT (i := 4) (j := 12) (by kernel_rfl) rfl (by rfl) rfl (by rfl) (fun Kq hK => ?_) (fun Kq hK => ?_)
            · go_simp
              obtain ⟨W1, hv1⟩ : ∃ v1 : World, v1 = W0.alloc (.cells #[.int .i64 x] 3) := ⟨_, rfl⟩
              have bv1 : Below W0.heap.size W0 W1 := by rw [hv1]; exact below_new _ _
              have SA1 : Hid (Own 3 W1 W0.heap.size (some ⟨W0.heap.size, 0, none⟩) 1 1 [.int .i64 x]) := by rw [hv1]; exact own_new 3 W0 W0.heap.size [.int .i64 x] rfl (Nat.le_refl _) (by simp [maxLen])
              have HX1 := Lib.hid (HX0.out.keep bv1)
              have HT1 := Lib.hid (HT0.out.keep bv1)
              have HK1 := Lib.hid (HK0.out.keep bv1)
              have HN1 := Lib.hid (HN0.out.keep bv1)
              have HA1 := Lib.hid (HA0.out.keep bv1)
              have HD1 := HD0
              have hS1 : W1.cell? ⟨gx, 0, none⟩ = some (.slice K j ck) ∧ W1.cell? ⟨gx, 1, none⟩ = some (.slice N j cn) ∧ W1.cell? ⟨gt, 0, none⟩ = some (.int .i64 x) ∧ W1.cell? ⟨gt, 1, none⟩ = some (.int .i64 o) ∧ gx < W1.heap.size ∧ gt < W1.heap.size := ⟨by have := HX1.out.tb.cell 0; simpa using this, by have := HX1.out.tb.cell 1; simpa using this, by have := HA1.out.cell 0; simpa using this, by have := HA1.out.cell 1; simpa using this, HX1.out.tb.lt, HA1.out.lt⟩
              rw [← hv1]
              clear hv1 bv1
              refine hK _ _ (fun _ => hS1) ?_
              clear hK
              (try simp only [Act.put, List.setIfInBounds_toArray, List.set_cons_zero, List.set_cons_succ])
              refine twoT (i := 5) (j := 12) (by kernel_rfl) rfl (by rfl) rfl (by rfl) (fun Kq hK => ?_) (fun Kq hK => ?_)
              · have hz9 := HX1.out.bl.size
                refine wp_append_sl _ (.tmp 75) (.tmp 78) 22 rfl w.heap.size 3 i0 _ 8 Tryz.underlying22 hi0 hz0 hz1 hz2 rfl K j ck _ rfl HK1.out (some ⟨W0.heap.size, 0, none⟩) 1 1 [.int .i64 x] rfl SA1.out.sl (by simp [Value.oneCell']) (by simp only [maxLen]; omega) (by omega) hz9 ?_
                intro K2 ck2 W2 hO2 hG2 hA2
                have HX2 := Lib.hid (HX1.out.grow HK1.out hG2)
                have HT2 := Lib.hid (ownT_apart HT1.out HK1.out hG2)
                have HA2 := Lib.hid (HA1.out.ownGrown HK1.out hG2 (by decide))
                have HK2 := Lib.hid hO2
                have HN2 := Lib.hid (HN1.out.kept hG2 (HD1.out.symm))
                have HD2 := Lib.hid (HD1.out.moved HN1.out hA2)
                have hS2 : W2.cell? ⟨gx, 0, none⟩ = some (.slice K j ck) ∧ W2.cell? ⟨gx, 1, none⟩ = some (.slice N j cn) ∧ W2.cell? ⟨gt, 0, none⟩ = some (.int .i64 x) ∧ W2.cell? ⟨gt, 1, none⟩ = some (.int .i64 o) ∧ gx < W2.heap.size ∧ gt < W2.heap.size := ⟨by have := HX2.out.tb.cell 0; simpa using this, by have := HX2.out.tb.cell 1; simpa using this, by have := HA2.out.cell 0; simpa using this, by have := HA2.out.cell 1; simpa using this, HX2.out.tb.lt, HA2.out.lt⟩
                refine hK _ _ (fun _ => hS2) ?_
                clear hK
                (try simp only [Act.put, List.setIfInBounds_toArray, List.set_cons_zero, List.set_cons_succ])
                (try simp only [Nat.zero_add])
                refine take0 (i := 14) (oi := _) (v := ?_) rfl (by kernel_rfl) (by kernel_rfl) (by kernel_rfl) (fun _ _ _ h => h) rfl (Or.inl ⟨by rfl, ?_⟩) (fun _ => hS2) ?_
                rotate_left
                · intro w0; go_simp; with_reducible rfl
                (try simp only [Act.put, List.setIfInBounds_toArray, List.set_cons_zero, List.set_cons_succ])
                refine oneT (i := 12) (by kernel_rfl) rfl (by rfl) (fun Kq hK => ?_)
                go_simp
                try rw [ho2.out]
                try rw [ho3.out]
                obtain ⟨W3, hv1⟩ : ∃ v1 : World, v1 = W2.alloc (.cells #[.int .i64 o2] 3) := ⟨_, rfl⟩
                have bv1 : Below W2.heap.size W2 W3 := by rw [hv1]; exact below_new _ _
                have SB3 : Hid (Own 3 W3 W2.heap.size (some ⟨W2.heap.size, 0, none⟩) 1 1 [.int .i64 o2]) := by rw [hv1]; exact own_new 3 W2 W2.heap.size [.int .i64 o2] rfl (Nat.le_refl _) (by simp [maxLen])
                have HX3 := Lib.hid (HX2.out.keep bv1)
                have HT3 := Lib.hid (HT2.out.keep bv1)
                have HK3 := Lib.hid (HK2.out.keep bv1)
                have HN3 := Lib.hid (HN2.out.keep bv1)
                have HA3 := Lib.hid (HA2.out.keep bv1)
                have HD3 := HD2
                have hS3 : W3.cell? ⟨gx, 0, none⟩ = some (.slice K j ck) ∧ W3.cell? ⟨gx, 1, none⟩ = some (.slice N j cn) ∧ W3.cell? ⟨gt, 0, none⟩ = some (.int .i64 x) ∧ W3.cell? ⟨gt, 1, none⟩ = some (.int .i64 o) ∧ gx < W3.heap.size ∧ gt < W3.heap.size := ⟨by have := HX3.out.tb.cell 0; simpa using this, by have := HX3.out.tb.cell 1; simpa using this, by have := HA3.out.cell 0; simpa using this, by have := HA3.out.cell 1; simpa using this, HX3.out.tb.lt, HA3.out.lt⟩
                rw [← hv1]
                clear hv1 bv1
                refine hK _ _ (fun _ => hS3) ?_
                clear hK
                (try simp only [Act.put, List.setIfInBounds_toArray, List.set_cons_zero, List.set_cons_succ])
                refine oneT (i := 13) (by kernel_rfl) rfl (by rfl) (fun Kq hK => ?_)
                have hz9 := HX3.out.bl.size
                refine wp_append_sl _ (.tmp 81) (.tmp 86) 22 rfl w.heap.size 3 i0 _ 8 Tryz.underlying22 hi0 hz0 hz1 hz2 rfl N j cn _ rfl HN3.out (some ⟨W2.heap.size, 0, none⟩) 1 1 [.int .i64 o2] rfl SB3.out.sl (by simp [Value.oneCell']) (by simp only [maxLen]; omega) (by omega) hz9 ?_
                intro N2 cn2 W4 hO2 hG2 hA2
                have HX4 := Lib.hid (HX3.out.grow HN3.out hG2)
                have HT4 := Lib.hid (ownT_apart HT3.out HN3.out hG2)
                have HA4 := Lib.hid (HA3.out.ownGrown HN3.out hG2 (by decide))
                have HN4 := Lib.hid hO2
                have HK4 := Lib.hid (HK3.out.kept hG2 HD3.out)
                have HD4 := Lib.hid (Dif.symm ((HD3.out.symm).moved HK3.out hA2))
                have hS4 : W4.cell? ⟨gx, 0, none⟩ = some (.slice K j ck) ∧ W4.cell? ⟨gx, 1, none⟩ = some (.slice N j cn) ∧ W4.cell? ⟨gt, 0, none⟩ = some (.int .i64 x) ∧ W4.cell? ⟨gt, 1, none⟩ = some (.int .i64 o) ∧ gx < W4.heap.size ∧ gt < W4.heap.size := ⟨by have := HX4.out.tb.cell 0; simpa using this, by have := HX4.out.tb.cell 1; simpa using this, by have := HA4.out.cell 0; simpa using this, by have := HA4.out.cell 1; simpa using this, HX4.out.tb.lt, HA4.out.lt⟩
                refine hK _ _ (fun _ => hS4) ?_
                clear hK
                (try simp only [Act.put, List.setIfInBounds_toArray, List.set_cons_zero, List.set_cons_succ])
                (try simp only [Nat.zero_add])
                have kf0 := HX4.out.tb.frozen 0
                have kf1 := HX4.out.tb.frozen 1
                refine oneT (i := 15) (by kernel_rfl) rfl (by rfl) (fun K hK => ?_)
                go_simp
                refine hK _ _ (noT_no (by kernel_rfl)) ?_
                clear hK
                refine take0 (i := 16) (oi := _) (v := ?_) rfl (by kernel_rfl) (by kernel_rfl) (by kernel_rfl) (fun _ _ _ h => h) rfl (Or.inl ⟨by rfl, ?_⟩) (noT_no (by kernel_rfl)) ?_
                rotate_left
                · intro w0; go_simp; with_reducible rfl
                (try simp only [Act.put, List.setIfInBounds_toArray, List.set_cons_zero, List.set_cons_succ])
                refine oneT (i := 17) (by kernel_rfl) rfl (by rfl) (fun K hK => ?_)
                go_simp
                refine hK _ _ (noT_no (by kernel_rfl)) ?_
                clear hK
                refine doneT (by kernel_rfl) ?_ _
                obtain ⟨W9, hw9⟩ : ∃ z : World, z = (W4.setCell ⟨gx, 0, none⟩ (.slice K2 (j + 1) ck2)).setCell ⟨gx, 1, none⟩ (.slice N2 (j + 1) cn2) := ⟨_, rfl⟩
                have HX9 : Hid (NrSt w gx W9 K2 (j + 1) ck2 N2 (j + 1) cn2 a2) := by rw [hw9]; exact HX4.out.put
                have HT9 : Hid (OwnT W9 (w.heap.size + 2) (some ⟨g, 0, none⟩) i k l) := by rw [hw9]; exact ownT_setHeap (ownT_setHeap HT4.out HX4.out.tb 0 _) (HX4.out.tb.set_ 0 _) 1 _
                have HK9 : Hid (Own 3 W9 w.heap.size K2 (j + 1) ck2 (((l.take (j + 1)).map (·.1)).map (Value.int .i64))) := by rw [E3.out, hw9, List.map_append]; exact Own.put2 HK4.out HX4.out.tb _ _
                have HN9 : Hid (Own 3 W9 w.heap.size N2 (j + 1) cn2 (((l.take (j + 1)).map (fun t => t.2.tdiv (G : Int))).map (Value.int .i64))) := by rw [E4.out, hw9, List.map_append]; exact Own.put2 HN4.out HX4.out.tb _ _
                have HA9 : Hid (Blk W9 gt 149 #[.int .i64 x, .int .i64 o]) := by rw [hw9]; exact (HA4.out.far (p := ⟨gx, 0, none⟩) (fun e => absurd (typed_one HA4.out (by rw [e]; exact Typed.of_blk HX4.out.tb)) (by decide)) _).far (p := ⟨gx, 1, none⟩) (fun e => absurd (typed_one HA4.out (by rw [e]; exact Typed.of_blk HX4.out.tb)) (by decide)) _
                try rw [← hw9]
                have ka1 := HA9.out.cell 1
                have kal := HA9.out.lt
                simp at ka1
                clear hw9 hS
                go_wp2_with fail
                try rw [ho3.out]
                try rw [ho2.out]
                go_wp2_with fail
                go_roundw
                case rel => exact ⟨j + 1, ck2, cn2, K2, N2, by omega, by rw [z8], by go_num, HX9, HT9, HK9, HN9, HD4⟩
                case measure => simp [intOf] <;> omega
              · go_simp
                try rw [ho2.out]
                try rw [ho3.out]
                obtain ⟨W2, hv1⟩ : ∃ v1 : World, v1 = W1.alloc (.cells #[.int .i64 o2] 3) := ⟨_, rfl⟩
                have bv1 : Below W1.heap.size W1 W2 := by rw [hv1]; exact below_new _ _
                have SB2 : Hid (Own 3 W2 W1.heap.size (some ⟨W1.heap.size, 0, none⟩) 1 1 [.int .i64 o2]) := by rw [hv1]; exact own_new 3 W1 W1.heap.size [.int .i64 o2] rfl (Nat.le_refl _) (by simp [maxLen])
                have hltW1 : Hid (∀ g, blockOf K = some g → g < W1.heap.size) := fun g hg => (own_blk_lt HK1.out hg).1
                have HX2 := Lib.hid (HX1.out.keep bv1)
                have HT2 := Lib.hid (HT1.out.keep bv1)
                have HK2 := Lib.hid (HK1.out.keep bv1)
                have HN2 := Lib.hid (HN1.out.keep bv1)
                have HA2 := Lib.hid (HA1.out.keep bv1)
                have HD2 := HD1
                have SA2 := Lib.hid (SA1.out.keep bv1)
                have hS2 : W2.cell? ⟨gx, 0, none⟩ = some (.slice K j ck) ∧ W2.cell? ⟨gx, 1, none⟩ = some (.slice N j cn) ∧ W2.cell? ⟨gt, 0, none⟩ = some (.int .i64 x) ∧ W2.cell? ⟨gt, 1, none⟩ = some (.int .i64 o) ∧ gx < W2.heap.size ∧ gt < W2.heap.size := ⟨by have := HX2.out.tb.cell 0; simpa using this, by have := HX2.out.tb.cell 1; simpa using this, by have := HA2.out.cell 0; simpa using this, by have := HA2.out.cell 1; simpa using this, HX2.out.tb.lt, HA2.out.lt⟩
                rw [← hv1]
                clear hv1 bv1
                refine hK _ _ (fun _ => hS2) ?_
                clear hK
                (try simp only [Act.put, List.setIfInBounds_toArray, List.set_cons_zero, List.set_cons_succ])
                refine oneT (i := 5) (by kernel_rfl) rfl (by rfl) (fun Kq hK => ?_)
                have hz9 := HX2.out.bl.size
                refine wp_append_sl _ (.tmp 75) (.tmp 78) 22 rfl w.heap.size 3 i0 _ 8 Tryz.underlying22 hi0 hz0 hz1 hz2 rfl K j ck _ rfl HK2.out (some ⟨W0.heap.size, 0, none⟩) 1 1 [.int .i64 x] rfl SA2.out.sl (by simp [Value.oneCell']) (by simp only [maxLen]; omega) (by omega) hz9 ?_
                intro K2 ck2 W3 hO2 hG2 hA2
                have HX3 := Lib.hid (HX2.out.grow HK2.out hG2)
                have HT3 := Lib.hid (ownT_apart HT2.out HK2.out hG2)
                have HA3 := Lib.hid (HA2.out.ownGrown HK2.out hG2 (by decide))
                have HK3 := Lib.hid hO2
                have HN3 := Lib.hid (HN2.out.kept hG2 (HD2.out.symm))
                have HD3 := Lib.hid (HD2.out.moved HN2.out hA2)
                have SB3 := Lib.hid (SB2.out.kept hG2 (.inr (fun e => Nat.lt_irrefl _ (hltW1.out _ e.symm))))
                have hS3 : W3.cell? ⟨gx, 0, none⟩ = some (.slice K j ck) ∧ W3.cell? ⟨gx, 1, none⟩ = some (.slice N j cn) ∧ W3.cell? ⟨gt, 0, none⟩ = some (.int .i64 x) ∧ W3.cell? ⟨gt, 1, none⟩ = some (.int .i64 o) ∧ gx < W3.heap.size ∧ gt < W3.heap.size := ⟨by have := HX3.out.tb.cell 0; simpa using this, by have := HX3.out.tb.cell 1; simpa using this, by have := HA3.out.cell 0; simpa using this, by have := HA3.out.cell 1; simpa using this, HX3.out.tb.lt, HA3.out.lt⟩
                refine hK _ _ (fun _ => hS3) ?_
                clear hK
                (try simp only [Act.put, List.setIfInBounds_toArray, List.set_cons_zero, List.set_cons_succ])
                (try simp only [Nat.zero_add])
                refine take0 (i := 14) (oi := _) (v := ?_) rfl (by kernel_rfl) (by kernel_rfl) (by kernel_rfl) (fun _ _ _ h => h) rfl (Or.inl ⟨by rfl, ?_⟩) (fun _ => hS3) ?_
                rotate_left
                · intro w0; go_simp; with_reducible rfl
                (try simp only [Act.put, List.setIfInBounds_toArray, List.set_cons_zero, List.set_cons_succ])
                refine oneT (i := 13) (by kernel_rfl) rfl (by rfl) (fun Kq hK => ?_)
                have hz9 := HX3.out.bl.size
                refine wp_append_sl _ (.tmp 81) (.tmp 86) 22 rfl w.heap.size 3 i0 _ 8 Tryz.underlying22 hi0 hz0 hz1 hz2 rfl N j cn _ rfl HN3.out (some ⟨W1.heap.size, 0, none⟩) 1 1 [.int .i64 o2] rfl SB3.out.sl (by simp [Value.oneCell']) (by simp only [maxLen]; omega) (by omega) hz9 ?_
                intro N2 cn2 W4 hO2 hG2 hA2
                have HX4 := Lib.hid (HX3.out.grow HN3.out hG2)
                have HT4 := Lib.hid (ownT_apart HT3.out HN3.out hG2)
                have HA4 := Lib.hid (HA3.out.ownGrown HN3.out hG2 (by decide))
                have HN4 := Lib.hid hO2
                have HK4 := Lib.hid (HK3.out.kept hG2 HD3.out)
                have HD4 := Lib.hid (Dif.symm ((HD3.out.symm).moved HK3.out hA2))
                have hS4 : W4.cell? ⟨gx, 0, none⟩ = some (.slice K j ck) ∧ W4.cell? ⟨gx, 1, none⟩ = some (.slice N j cn) ∧ W4.cell? ⟨gt, 0, none⟩ = some (.int .i64 x) ∧ W4.cell? ⟨gt, 1, none⟩ = some (.int .i64 o) ∧ gx < W4.heap.size ∧ gt < W4.heap.size := ⟨by have := HX4.out.tb.cell 0; simpa using this, by have := HX4.out.tb.cell 1; simpa using this, by have := HA4.out.cell 0; simpa using this, by have := HA4.out.cell 1; simpa using this, HX4.out.tb.lt, HA4.out.lt⟩
                refine hK _ _ (fun _ => hS4) ?_
                clear hK
                (try simp only [Act.put, List.setIfInBounds_toArray, List.set_cons_zero, List.set_cons_succ])
                (try simp only [Nat.zero_add])
                have kf0 := HX4.out.tb.frozen 0
                have kf1 := HX4.out.tb.frozen 1
                refine oneT (i := 15) (by kernel_rfl) rfl (by rfl) (fun K hK => ?_)
                go_simp
                refine hK _ _ (noT_no (by kernel_rfl)) ?_
                clear hK
                refine take0 (i := 16) (oi := _) (v := ?_) rfl (by kernel_rfl) (by kernel_rfl) (by kernel_rfl) (fun _ _ _ h => h) rfl (Or.inl ⟨by rfl, ?_⟩) (noT_no (by kernel_rfl)) ?_
                rotate_left
                · intro w0; go_simp; with_reducible rfl
                (try simp only [Act.put, List.setIfInBounds_toArray, List.set_cons_zero, List.set_cons_succ])
                refine oneT (i := 17) (by kernel_rfl) rfl (by rfl) (fun K hK => ?_)
                go_simp
                refine hK _ _ (noT_no (by kernel_rfl)) ?_
                clear hK
                refine doneT (by kernel_rfl) ?_ _
                obtain ⟨W9, hw9⟩ : ∃ z : World, z = (W4.setCell ⟨gx, 0, none⟩ (.slice K2 (j + 1) ck2)).setCell ⟨gx, 1, none⟩ (.slice N2 (j + 1) cn2) := ⟨_, rfl⟩
                have HX9 : Hid (NrSt w gx W9 K2 (j + 1) ck2 N2 (j + 1) cn2 a2) := by rw [hw9]; exact HX4.out.put
                have HT9 : Hid (OwnT W9 (w.heap.size + 2) (some ⟨g, 0, none⟩) i k l) := by rw [hw9]; exact ownT_setHeap (ownT_setHeap HT4.out HX4.out.tb 0 _) (HX4.out.tb.set_ 0 _) 1 _
                have HK9 : Hid (Own 3 W9 w.heap.size K2 (j + 1) ck2 (((l.take (j + 1)).map (·.1)).map (Value.int .i64))) := by rw [E3.out, hw9, List.map_append]; exact Own.put2 HK4.out HX4.out.tb _ _
                have HN9 : Hid (Own 3 W9 w.heap.size N2 (j + 1) cn2 (((l.take (j + 1)).map (fun t => t.2.tdiv (G : Int))).map (Value.int .i64))) := by rw [E4.out, hw9, List.map_append]; exact Own.put2 HN4.out HX4.out.tb _ _
                have HA9 : Hid (Blk W9 gt 149 #[.int .i64 x, .int .i64 o]) := by rw [hw9]; exact (HA4.out.far (p := ⟨gx, 0, none⟩) (fun e => absurd (typed_one HA4.out (by rw [e]; exact Typed.of_blk HX4.out.tb)) (by decide)) _).far (p := ⟨gx, 1, none⟩) (fun e => absurd (typed_one HA4.out (by rw [e]; exact Typed.of_blk HX4.out.tb)) (by decide)) _
                try rw [← hw9]
                have ka1 := HA9.out.cell 1
                have kal := HA9.out.lt
                simp at ka1
                clear hw9 hS
                go_wp2_with fail
                try rw [ho3.out]
                try rw [ho2.out]
                go_wp2_with fail
                go_roundw
                case rel => exact ⟨j + 1, ck2, cn2, K2, N2, by omega, by rw [z8], by go_num, HX9, HT9, HK9, HN9, HD4⟩
                case measure => simp [intOf] <;> omega
            · go_simp
              try rw [ho2.out]
              try rw [ho3.out]
              obtain ⟨W1, hv1⟩ : ∃ v1 : World, v1 = W0.alloc (.cells #[.int .i64 o2] 3) := ⟨_, rfl⟩
              have bv1 : Below W0.heap.size W0 W1 := by rw [hv1]; exact below_new _ _
              have SB1 : Hid (Own 3 W1 W0.heap.size (some ⟨W0.heap.size, 0, none⟩) 1 1 [.int .i64 o2]) := by rw [hv1]; exact own_new 3 W0 W0.heap.size [.int .i64 o2] rfl (Nat.le_refl _) (by simp [maxLen])
              have hltW0 : Hid (∀ g, blockOf K = some g → g < W0.heap.size) := fun g hg => (own_blk_lt HK0.out hg).1
              have HX1 := Lib.hid (HX0.out.keep bv1)
              have HT1 := Lib.hid (HT0.out.keep bv1)
              have HK1 := Lib.hid (HK0.out.keep bv1)
              have HN1 := Lib.hid (HN0.out.keep bv1)
              have HA1 := Lib.hid (HA0.out.keep bv1)
              have HD1 := HD0
              have hS1 : W1.cell? ⟨gx, 0, none⟩ = some (.slice K j ck) ∧ W1.cell? ⟨gx, 1, none⟩ = some (.slice N j cn) ∧ W1.cell? ⟨gt, 0, none⟩ = some (.int .i64 x) ∧ W1.cell? ⟨gt, 1, none⟩ = some (.int .i64 o) ∧ gx < W1.heap.size ∧ gt < W1.heap.size := ⟨by have := HX1.out.tb.cell 0; simpa using this, by have := HX1.out.tb.cell 1; simpa using this, by have := HA1.out.cell 0; simpa using this, by have := HA1.out.cell 1; simpa using this, HX1.out.tb.lt, HA1.out.lt⟩
              rw [← hv1]
              clear hv1 bv1
              refine hK _ _ (fun _ => hS1) ?_
              clear hK
              (try simp only [Act.put, List.setIfInBounds_toArray, List.set_cons_zero, List.set_cons_succ])
              refine oneT (i := 4) (by kernel_rfl) rfl (by rfl) (fun Kq hK => ?_)
              go_simp
              obtain ⟨W2, hv1⟩ : ∃ v1 : World, v1 = W1.alloc (.cells #[.int .i64 x] 3) := ⟨_, rfl⟩
              have bv1 : Below W1.heap.size W1 W2 := by rw [hv1]; exact below_new _ _
              have SA2 : Hid (Own 3 W2 W1.heap.size (some ⟨W1.heap.size, 0, none⟩) 1 1 [.int .i64 x]) := by rw [hv1]; exact own_new 3 W1 W1.heap.size [.int .i64 x] rfl (Nat.le_refl _) (by simp [maxLen])
              have HX2 := Lib.hid (HX1.out.keep bv1)
              have HT2 := Lib.hid (HT1.out.keep bv1)
              have HK2 := Lib.hid (HK1.out.keep bv1)
              have HN2 := Lib.hid (HN1.out.keep bv1)
              have HA2 := Lib.hid (HA1.out.keep bv1)
              have HD2 := HD1
              have SB2 := Lib.hid (SB1.out.keep bv1)
              have hS2 : W2.cell? ⟨gx, 0, none⟩ = some (.slice K j ck) ∧ W2.cell? ⟨gx, 1, none⟩ = some (.slice N j cn) ∧ W2.cell? ⟨gt, 0, none⟩ = some (.int .i64 x) ∧ W2.cell? ⟨gt, 1, none⟩ = some (.int .i64 o) ∧ gx < W2.heap.size ∧ gt < W2.heap.size := ⟨by have := HX2.out.tb.cell 0; simpa using this, by have := HX2.out.tb.cell 1; simpa using this, by have := HA2.out.cell 0; simpa using this, by have := HA2.out.cell 1; simpa using this, HX2.out.tb.lt, HA2.out.lt⟩
              rw [← hv1]
              clear hv1 bv1
              refine hK _ _ (fun _ => hS2) ?_
              clear hK
              (try simp only [Act.put, List.setIfInBounds_toArray, List.set_cons_zero, List.set_cons_succ])
              refine oneT (i := 5) (by kernel_rfl) rfl (by rfl) (fun Kq hK => ?_)
              have hz9 := HX2.out.bl.size
              refine wp_append_sl _ (.tmp 75) (.tmp 78) 22 rfl w.heap.size 3 i0 _ 8 Tryz.underlying22 hi0 hz0 hz1 hz2 rfl K j ck _ rfl HK2.out (some ⟨W1.heap.size, 0, none⟩) 1 1 [.int .i64 x] rfl SA2.out.sl (by simp [Value.oneCell']) (by simp only [maxLen]; omega) (by omega) hz9 ?_
              intro K2 ck2 W3 hO2 hG2 hA2
              have HX3 := Lib.hid (HX2.out.grow HK2.out hG2)
              have HT3 := Lib.hid (ownT_apart HT2.out HK2.out hG2)
              have HA3 := Lib.hid (HA2.out.ownGrown HK2.out hG2 (by decide))
              have HK3 := Lib.hid hO2
              have HN3 := Lib.hid (HN2.out.kept hG2 (HD2.out.symm))
              have HD3 := Lib.hid (HD2.out.moved HN2.out hA2)
              have SB3 := Lib.hid (SB2.out.kept hG2 (.inr (fun e => Nat.lt_irrefl _ (hltW0.out _ e.symm))))
              have hS3 : W3.cell? ⟨gx, 0, none⟩ = some (.slice K j ck) ∧ W3.cell? ⟨gx, 1, none⟩ = some (.slice N j cn) ∧ W3.cell? ⟨gt, 0, none⟩ = some (.int .i64 x) ∧ W3.cell? ⟨gt, 1, none⟩ = some (.int .i64 o) ∧ gx < W3.heap.size ∧ gt < W3.heap.size := ⟨by have := HX3.out.tb.cell 0; simpa using this, by have := HX3.out.tb.cell 1; simpa using this, by have := HA3.out.cell 0; simpa using this, by have := HA3.out.cell 1; simpa using this, HX3.out.tb.lt, HA3.out.lt⟩
              refine hK _ _ (fun _ => hS3) ?_
              clear hK
              (try simp only [Act.put, List.setIfInBounds_toArray, List.set_cons_zero, List.set_cons_succ])
              (try simp only [Nat.zero_add])
              refine take0 (i := 14) (oi := _) (v := ?_) rfl (by kernel_rfl) (by kernel_rfl) (by kernel_rfl) (fun _ _ _ h => h) rfl (Or.inl ⟨by rfl, ?_⟩) (fun _ => hS3) ?_
              rotate_left
              · intro w0; go_simp; with_reducible rfl
              (try simp only [Act.put, List.setIfInBounds_toArray, List.set_cons_zero, List.set_cons_succ])
              refine oneT (i := 13) (by kernel_rfl) rfl (by rfl) (fun Kq hK => ?_)
              have hz9 := HX3.out.bl.size
              refine wp_append_sl _ (.tmp 81) (.tmp 86) 22 rfl w.heap.size 3 i0 _ 8 Tryz.underlying22 hi0 hz0 hz1 hz2 rfl N j cn _ rfl HN3.out (some ⟨W0.heap.size, 0, none⟩) 1 1 [.int .i64 o2] rfl SB3.out.sl (by simp [Value.oneCell']) (by simp only [maxLen]; omega) (by omega) hz9 ?_
              intro N2 cn2 W4 hO2 hG2 hA2
              have HX4 := Lib.hid (HX3.out.grow HN3.out hG2)
              have HT4 := Lib.hid (ownT_apart HT3.out HN3.out hG2)
              have HA4 := Lib.hid (HA3.out.ownGrown HN3.out hG2 (by decide))
              have HN4 := Lib.hid hO2
              have HK4 := Lib.hid (HK3.out.kept hG2 HD3.out)
              have HD4 := Lib.hid (Dif.symm ((HD3.out.symm).moved HK3.out hA2))
              have hS4 : W4.cell? ⟨gx, 0, none⟩ = some (.slice K j ck) ∧ W4.cell? ⟨gx, 1, none⟩ = some (.slice N j cn) ∧ W4.cell? ⟨gt, 0, none⟩ = some (.int .i64 x) ∧ W4.cell? ⟨gt, 1, none⟩ = some (.int .i64 o) ∧ gx < W4.heap.size ∧ gt < W4.heap.size := ⟨by have := HX4.out.tb.cell 0; simpa using this, by have := HX4.out.tb.cell 1; simpa using this, by have := HA4.out.cell 0; simpa using this, by have := HA4.out.cell 1; simpa using this, HX4.out.tb.lt, HA4.out.lt⟩
              refine hK _ _ (fun _ => hS4) ?_
              clear hK
              (try simp only [Act.put, List.setIfInBounds_toArray, List.set_cons_zero, List.set_cons_succ])
              (try simp only [Nat.zero_add])
              have kf0 := HX4.out.tb.frozen 0
              have kf1 := HX4.out.tb.frozen 1
              refine oneT (i := 15) (by kernel_rfl) rfl (by rfl) (fun K hK => ?_)
              go_simp
              refine hK _ _ (noT_no (by kernel_rfl)) ?_
              clear hK
              refine take0 (i := 16) (oi := _) (v := ?_) rfl (by kernel_rfl) (by kernel_rfl) (by kernel_rfl) (fun _ _ _ h => h) rfl (Or.inl ⟨by rfl, ?_⟩) (noT_no (by kernel_rfl)) ?_
              rotate_left
              · intro w0; go_simp; with_reducible rfl
              (try simp only [Act.put, List.setIfInBounds_toArray, List.set_cons_zero, List.set_cons_succ])
              refine oneT (i := 17) (by kernel_rfl) rfl (by rfl) (fun K hK => ?_)
              go_simp
              refine hK _ _ (noT_no (by kernel_rfl)) ?_
              clear hK
              refine doneT (by kernel_rfl) ?_ _
              obtain ⟨W9, hw9⟩ : ∃ z : World, z = (W4.setCell ⟨gx, 0, none⟩ (.slice K2 (j + 1) ck2)).setCell ⟨gx, 1, none⟩ (.slice N2 (j + 1) cn2) := ⟨_, rfl⟩
              have HX9 : Hid (NrSt w gx W9 K2 (j + 1) ck2 N2 (j + 1) cn2 a2) := by rw [hw9]; exact HX4.out.put
              have HT9 : Hid (OwnT W9 (w.heap.size + 2) (some ⟨g, 0, none⟩) i k l) := by rw [hw9]; exact ownT_setHeap (ownT_setHeap HT4.out HX4.out.tb 0 _) (HX4.out.tb.set_ 0 _) 1 _
              have HK9 : Hid (Own 3 W9 w.heap.size K2 (j + 1) ck2 (((l.take (j + 1)).map (·.1)).map (Value.int .i64))) := by rw [E3.out, hw9, List.map_append]; exact Own.put2 HK4.out HX4.out.tb _ _
              have HN9 : Hid (Own 3 W9 w.heap.size N2 (j + 1) cn2 (((l.take (j + 1)).map (fun t => t.2.tdiv (G : Int))).map (Value.int .i64))) := by rw [E4.out, hw9, List.map_append]; exact Own.put2 HN4.out HX4.out.tb _ _
              have HA9 : Hid (Blk W9 gt 149 #[.int .i64 x, .int .i64 o]) := by rw [hw9]; exact (HA4.out.far (p := ⟨gx, 0, none⟩) (fun e => absurd (typed_one HA4.out (by rw [e]; exact Typed.of_blk HX4.out.tb)) (by decide)) _).far (p := ⟨gx, 1, none⟩) (fun e => absurd (typed_one HA4.out (by rw [e]; exact Typed.of_blk HX4.out.tb)) (by decide)) _
              try rw [← hw9]
              have ka1 := HA9.out.cell 1
              have kal := HA9.out.lt
              simp at ka1
              clear hw9 hS
              go_wp2_with fail
              try rw [ho3.out]
              try rw [ho2.out]
              go_wp2_with fail
              go_roundw
              case rel => exact ⟨j + 1, ck2, cn2, K2, N2, by omega, by rw [z8], by go_num, HX9, HT9, HK9, HN9, HD4⟩
              case measure => simp [intOf] <;> omega
        · obtain rfl : j = i := by omega
          rw [show l.take j = l by rw [← hmlen.out, List.take_length]] at HK HN
          have s00 := HX.out.tb.cell 0
          have s01 := HX.out.tb.cell 1
          have s02 := HX.out.tb.cell 2
          have sl0 := HX.out.tb.lt
          have r00 := HX.out.r0.cell 0
          have r01 := HX.out.r0.cell 1
          have r02 := HX.out.r0.cell 2
          have r03 := HX.out.r0.frozen 0
          have r04 := HX.out.r0.frozen 1
          have r05 := HX.out.r0.frozen 2
          have r10 := HX.out.r1.cell 0
          have r11 := HX.out.r1.cell 1
          have r12 := HX.out.r1.frozen 0
          have r13 := HX.out.r1.frozen 1
          have rl0 := HX.out.r0.lt
          have rl1 := HX.out.r1.lt
          simp at r00 r01 r02 r10 r11
          simp at s00 s01 s02
          obtain ⟨W3, hW3⟩ : ∃ z : World, Hid (z = ((wr.setCell ⟨w.heap.size, 0, none⟩ (.slice K j ck)).setCell ⟨w.heap.size, 1, none⟩ (.slice N j cn)).setCell ⟨w.heap.size, 2, none⟩ (.int .i64 a2)) := ⟨_, rfl⟩
          have K5 : Hid (Blk W3 w.heap.size 54 #[.slice K j ck, .slice N j cn, .int .i64 a2]) := by rw [hW3.out]; have := ((HX.out.r0.set_ 0 (.slice K j ck)).set_ 1 (.slice N j cn)).set_ 2 (.int .i64 a2); simpa [Hid] using this
          have hne9 : w.heap.size + 1 ≠ w.heap.size := by omega
          have K6 : Hid (Blk W3 (w.heap.size + 1) 28 #[.int .i64 0, .int .i64 0]) := by rw [hW3.out]; exact ((HX.out.r1.far (p := ⟨w.heap.size, 0, none⟩) hne9 _).far (p := ⟨w.heap.size, 1, none⟩) hne9 _).far (p := ⟨w.heap.size, 2, none⟩) hne9 _
          have Z2 : Hid ((W3.setCell ⟨w.heap.size + 1, 0, none⟩ (.int .i64 0)).setCell ⟨w.heap.size + 1, 1, none⟩ (.int .i64 0) = W3) := by
            rw [Hid, setCell_id K6.out rfl, setCell_id K6.out rfl]
          have HB9 : Hid (Below w.heap.size w W3) := by rw [hW3.out]; exact ((HX.out.bl.setCell (p := ⟨w.heap.size, 0, none⟩) (Nat.le_refl _) _).setCell (p := ⟨w.heap.size, 1, none⟩) (Nat.le_refl _) _).setCell (p := ⟨w.heap.size, 2, none⟩) (Nat.le_refl _) _
          have own3 : ∀ {A : Option Addr} {n' c' : Nat} {xs : List Value}, Own 3 wr w.heap.size A n' c' xs → Own 3 W3 w.heap.size A n' c' xs := fun h => by
            rw [hW3.out]
            exact ((h.typedSet HX.out.r0 (by decide) 0 _).typedSet (HX.out.r0.set_ 0 _) (by decide) 1 _).typedSet ((HX.out.r0.set_ 0 _).set_ 1 _) (by decide) 2 _
          have S0 : Hid (RetHeap (nrmF l a1) w (.returned (.tuple #[.agg #[.slice K j ck, .slice N j cn, .int .i64 a2], .agg #[.int .i64 0, .int .i64 0]])) W3) := by
            rw [hnr.out, hG.out, ha2.out]
            exact ⟨K, N, j, ck, cn, rfl, by simpa [List.map_map, Function.comp_def] using own3 HK.out, by simpa [List.map_map, Function.comp_def] using own3 HN.out, HD.out, HB9.out⟩
          have s10 := K5.out.cell 0
          have s11 := K5.out.cell 1
          have s12 := K5.out.cell 2
          have s13 := K6.out.cell 0
          have s14 := K6.out.cell 1
          have sl3 := K5.out.lt
          have sl4 := K6.out.lt
          simp only [List.getElem?_toArray, List.getElem?_cons_zero, List.getElem?_cons_succ] at s10 s11 s12 s13 s14
          go_wp2_with fail
          rw [← hW3.out, Z2.out]
          exact bodyPost_ret (v := .tuple #[.agg #[.slice K j ck, .slice N j cn, .int .i64 a2], .agg #[.int .i64 0, .int .i64 0]]) (by simp [results, Tryz.results84, go_sem, s10, s11, s12, s13, s14, sl3, sl4]) rfl S0.out

end Go.Proofs.YtlfgcblijfflfaaGreat

/- Contract of heap.Tidy: a sum in normal form. -/
namespace Go.Proofs.YtlfgcblijfflfaaGreat
open Go.RowKit
set_option linter.unusedSimpArgs false
set_option linter.unusedVariables false

theorem UpT.wide {n m : Int} {ts : List (Int × Int)} (h : UpT n ts) (hm : n ≤ m) : UpT m ts := ⟨fun t ht => by have := h.1 t ht; omega, h.2⟩
theorem UpT.lits {n : Int} {ts : List (Int × Int)} (h : UpT n ts) : (∀ l ∈ ts.map (·.1), l ≠ 0 ∧ -n ≤ l ∧ l ≤ n) ∧ (ts.map (·.1)).Pairwise (fun x y => x.natAbs ≠ y.natAbs) := by
  refine ⟨fun l hl => ?_, List.pairwise_map.2 (h.2.imp fun h9 => by omega)⟩
  obtain ⟨t, ht, rfl⟩ := List.mem_map.1 hl
  exact h.1 t ht
/-- A sum is written into the result's box, no fault into the other one. -/
theorem heap_stored {w W : World} {r r' : Nat} {x0 x1 x2 : Value} (h0 : Blk W r 54 #[x0, x1, x2]) (h1 : Blk W r' 28 #[.int .i64 0, .int .i64 0]) (hne : r' ≠ r) (hb : Below w.heap.size w W) (hr : w.heap.size ≤ r) (u v x : Value)
    {W3 : World} (hW3 : W3 = ((W.setCell ⟨r, 0, none⟩ u).setCell ⟨r, 1, none⟩ v).setCell ⟨r, 2, none⟩ x) :
    (W3.setCell ⟨r', 0, none⟩ (.int .i64 0)).setCell ⟨r', 1, none⟩ (.int .i64 0) = W3 ∧ Blk W3 r 54 #[u, v, x] ∧ Blk W3 r' 28 #[.int .i64 0, .int .i64 0] ∧ Below w.heap.size w W3 ∧
      (∀ {A : Option Addr} {base n' c' : Nat} {xs : List Value}, Own 3 W base A n' c' xs → Own 3 W3 base A n' c' xs) := by
  have K5 : Blk W3 r 54 #[u, v, x] := by rw [hW3]; have := ((h0.set_ 0 u).set_ 1 v).set_ 2 x; simpa using this
  have K6 : Blk W3 r' 28 #[.int .i64 0, .int .i64 0] := by rw [hW3]; exact ((h1.far (p := ⟨r, 0, none⟩) hne _).far (p := ⟨r, 1, none⟩) hne _).far (p := ⟨r, 2, none⟩) hne _
  refine ⟨by rw [setCell_id K6 rfl, setCell_id K6 rfl], K5, K6, ?_, fun h => ?_⟩
  · rw [hW3]; exact ((hb.setCell (p := ⟨r, 0, none⟩) hr _).setCell (p := ⟨r, 1, none⟩) hr _).setCell (p := ⟨r, 2, none⟩) hr _
  · rw [hW3]
    exact ((h.typedSet h0 (by decide) 0 _).typedSet (h0.set_ 0 _) (by decide) 1 _).typedSet ((h0.set_ 0 _).set_ 1 _) (by decide) 2 _

set_option maxHeartbeats 4000000 in
set_option maxRecDepth 100000 in
theorem tidy_any (L O : Option Addr) (n c d : Nat) (ts : List (Int × Int)) (a : Int) (w : World) (h1 : Ints w L n c (ts.map (·.1))) (h2 : Ints w O n d (ts.map (·.2))) (hu : UpT 120 ts) (hn : n ≤ 24) (hb : ∀ t ∈ ts, -10000 ≤ t.2 ∧ t.2 ≤ 10000) (ha : -100000 ≤ a ∧ a ≤ 100000) :
    Calls Tryz.prog 83 #[.agg #[.slice L n c, .slice O n d, .int .i64 a]] w (RetHeap (nrmF (tmF ts) (a - tbF ts)) w) := by
  have HU := Lib.hid hu
  have HBD := Lib.hid hb
  have hbd1 := h1.bd
  have hbd2 := h2.bd
  obtain ⟨wA, hwA⟩ : ∃ z : World, Hid (z = ((w.alloc (.cells #[.slice L n c, .slice O n d, .int .i64 a] 54)).alloc (.cells #[.slice none 0 0, .slice none 0 0, .int .i64 0] 54)).alloc (.cells #[.int .i64 0, .int .i64 0] 28)) := ⟨_, rfl⟩
  obtain ⟨k1, k2, k3, hB, hS⟩ := blk3 (w := w) (wr := wA) (t := 54) (t' := 54) (t'' := 28) (cs := #[.slice L n c, .slice O n d, .int .i64 a]) (cs' := #[.slice none 0 0, .slice none 0 0, .int .i64 0]) (cs'' := #[.int .i64 0, .int .i64 0]) (by rw [hwA.out]; exact Below.refl _ _)
  have H1 := Lib.hid (h1.keep hB)
  have H2 := Lib.hid (h2.keep hB)
  have c0 := k1.cell 0
  have c1 := k1.cell 1
  have c2 := k1.cell 2
  have cl := k1.lt
  simp at c0 c1 c2
  have HC := check_heap L O n c d _ _ a 120 wA H1.out H2.out hn (by omega) (by omega) hu.lits.1 hu.lits.2 (fun o ho => by obtain ⟨t, ht, rfl⟩ := List.mem_map.1 ho; have := hb t ht; omega) (by omega) (by omega)
  have K1 := Lib.hid k1
  have K2 := Lib.hid k2
  have K3 := Lib.hid k3
  have HB := Lib.hid hB
  clear h1 h2 hu hb k1 k2 k3 hB
  go_enter Tryz.func83, Tryz.ntmps83
  go_wp2_with fail
  rw [← hwA.out]
  refine HC.mono ?_
  rintro e w1 ⟨rfl, hb1⟩
  obtain ⟨w2, hw2⟩ : ∃ z : World, Hid (z = w1.alloc (.cells #[.int .i64 0, .int .i64 0] 28)) := ⟨_, rfl⟩
  have hb2 : Below wA.heap.size wA w2 := by rw [hw2.out]; exact below_next hb1 (below_new _ _)
  have f2 : Blk w2 w1.heap.size 28 #[.int .i64 0, .int .i64 0] := by rw [hw2.out]; exact Blk.new _ _ _
  have e0 := f2.cell 0
  have e1 := f2.cell 1
  have el := f2.lt
  simp at e0 e1
  have J1 := Lib.hid (K1.out.keep hb2)
  have J2 := Lib.hid (K2.out.keep hb2)
  have J3 := Lib.hid (K3.out.keep hb2)
  have HB2 := Lib.hid (below_next HB.out hb2)
  have j1 := K1.out.keep hb1
  have c0 := j1.cell 0
  have c1 := j1.cell 1
  have c2 := j1.cell 2
  have cl := j1.lt
  simp at c0 c1 c2
  have HN := normal_any L O n c d ts a w2 (H1.out.keep hb2) (H2.out.keep hb2) (HU.out.wide (by omega)) hn HBD.out ha
  clear hb1 hb2 f2 K1 K2 K3 HB H1 H2 HC j1 e0 e1 el
  go_wp2_with fail
  rw [← hw2.out]
  refine HN.mono ?_
  rintro e w5 ⟨K, N, m, ck, cn, rfl, hK, hN, hD, hb5⟩
  have I2 := Lib.hid (J2.out.keep hb5)
  have I3 := Lib.hid (J3.out.keep hb5)
  have HB5 := Lib.hid (below_next HB2.out hb5)
  have HK := Lib.hid (hK.mono HB2.out.size)
  have HNN := Lib.hid (hN.mono HB2.out.size)
  have HD := Lib.hid hD
  have g0 := I2.out.cell 0
  have g1 := I2.out.cell 1
  have g2 := I2.out.cell 2
  have g3 := I2.out.frozen 0
  have g4 := I2.out.frozen 1
  have g5 := I2.out.frozen 2
  have gl := I2.out.lt
  have g6 := I3.out.cell 0
  have g7 := I3.out.cell 1
  have g8 := I3.out.frozen 0
  have g9 := I3.out.frozen 1
  have gl2 := I3.out.lt
  simp at g0 g1 g2 g6 g7
  obtain ⟨res, hres⟩ : ∃ z, Hid (nrmF (tmF ts) (a - tbF ts) = z) := ⟨_, rfl⟩
  obtain ⟨rl, ra⟩ := res
  rw [hres.out] at HK HNN ⊢
  simp only at HK HNN
  obtain ⟨W3, hW3⟩ : ∃ z : World, Hid (z = ((w5.setCell ⟨w.heap.size + 1, 0, none⟩ (.slice K m ck)).setCell ⟨w.heap.size + 1, 1, none⟩ (.slice N m cn)).setCell ⟨w.heap.size + 1, 2, none⟩ (.int .i64 ra)) := ⟨_, rfl⟩
  obtain ⟨Z, K5, K6, B9, own3⟩ := heap_stored (w := w) I2.out I3.out (by omega) HB5.out (by omega) (.slice K m ck) (.slice N m cn) (.int .i64 ra) hW3.out
  have S0 : Hid (RetHeap (rl, ra) w (.returned (.tuple #[.agg #[.slice K m ck, .slice N m cn, .int .i64 ra], .agg #[.int .i64 0, .int .i64 0]])) W3) := ⟨K, N, m, ck, cn, rfl, own3 HK.out, own3 HNN.out, HD.out, B9⟩
  have Z2 := Lib.hid Z
  have s10 := K5.cell 0
  have s11 := K5.cell 1
  have s12 := K5.cell 2
  have s13 := K6.cell 0
  have s14 := K6.cell 1
  have sl3 := K5.lt
  have sl4 := K6.lt
  simp only [List.getElem?_toArray, List.getElem?_cons_zero, List.getElem?_cons_succ] at s10 s11 s12 s13 s14
  clear hK hN hD hb5 J1 J2 J3 HB2 HN hw2 c0 c1 c2 cl Z K5 K6 B9 own3
  go_wp2_with fail
  try rw [hres.out]
  rw [← hW3.out, Z2.out]
  exact bodyPost_ret (v := .tuple #[.agg #[.slice K m ck, .slice N m cn, .int .i64 ra], .agg #[.int .i64 0, .int .i64 0]]) (by simp [results, Tryz.results83, go_sem, s10, s11, s12, s13, s14, sl3, sl4]) rfl S0.out
end Go.Proofs.YtlfgcblijfflfaaGreat

/- Contract of heap.Full: a sum in normal form, saturated. (Printed by wip/tools/hfull.py.) -/
namespace Go.Proofs.YtlfgcblijfflfaaGreat
open Go.RowKit
set_option linter.unusedSimpArgs false
set_option linter.unusedVariables false

def minU (a : Int) (l : List Int) (k : Nat) : List Int := (l.take k).map (fun x => min x a) ++ l.drop k
theorem minU_zero (a : Int) (l : List Int) : minU a l 0 = l := by simp [minU]
theorem minU_end (a : Int) (l : List Int) : minU a l l.length = l.map (fun x => min x a) := by simp [minU]
theorem minU_at {a : Int} {l : List Int} {k : Nat} (hk : k < l.length) : (minU a l k)[k]? = l[k]? := by
  unfold minU
  rw [List.getElem?_append_right (by simp; omega)]
  simp
  congr 1
  omega
theorem minU_step {a : Int} {l : List Int} {k : Nat} {x : Int} (hx : l[k]? = some x) : (minU a l k).set k (min x a) = minU a l (k + 1) := by
  obtain ⟨hk, e⟩ := List.getElem?_eq_some_iff.1 hx
  unfold minU
  rw [List.set_append_right _ _ (by simp; omega)]
  rw [show k - ((l.take k).map (fun x => min x a)).length = 0 by simp; omega, List.drop_eq_getElem_cons hk, List.set_cons_zero, List.take_add_one, hx, List.map_append]
  simp
theorem minT_fst (a : Int) (l : List (Int × Int)) : (minT a l).map (·.1) = l.map (·.1) := by simp [minT, Function.comp_def]
theorem minT_snd (a : Int) (l : List (Int × Int)) : (minT a l).map (·.2) = (l.map (·.2)).map (fun x => min x a) := by simp [minT, Function.comp_def]

theorem own_int_at {w : World} {base n c : Nat} {A : Option Addr} {xs : List Int} (h : Own 3 w base A n c (xs.map (Value.int .i64))) {k : Nat} (hk : k < n) : ∃ (g : Nat) (x : Int), A = some ⟨g, 0, none⟩ ∧ g < w.heap.size ∧ w.cell? ⟨g, k, none⟩ = some (.int .i64 x) ∧ w.frozen? ⟨g, k, none⟩ = false ∧ Hid (xs[k]? = some x) := by
  obtain ⟨g, u, e, _, hg, hc, hz, hx⟩ := h.at_ hk
  have := hx.out
  rw [List.getElem?_map, Option.map_eq_some_iff] at this
  obtain ⟨x, h1, rfl⟩ := this
  exact ⟨g, x, e, hg, hc, hz, h1⟩
/-- The words of Full's loop. -/
structure FuSt (w w' : World) (K : Option Addr) (m ck : Nat) (N : Option Addr) (cn : Nat) (A : Int) (ls os : List Int) : Prop where
  bl : Below w.heap.size w w'
  b0 : Blk w' w.heap.size 54 #[.slice K m ck, .slice N m cn, .int .i64 A]
  b1 : Blk w' (w.heap.size + 1) 54 #[.slice none 0 0, .slice none 0 0, .int .i64 0]
  b2 : Blk w' (w.heap.size + 1 + 1) 28 #[.int .i64 0, .int .i64 0]
  k : Own 3 w' w.heap.size K m ck (ls.map (Value.int .i64))
  n : Own 3 w' w.heap.size N m cn (os.map (Value.int .i64))
  d : Dif K N
theorem FuSt.keep {w w' w2 : World} {K : Option Addr} {m ck : Nat} {N : Option Addr} {cn : Nat} {A : Int} {ls os : List Int} (h : FuSt w w' K m ck N cn A ls os) (hb : Below w'.heap.size w' w2) : FuSt w w2 K m ck N cn A ls os :=
  ⟨below_next h.bl hb, h.b0.keep hb, h.b1.keep hb, h.b2.keep hb, h.k.keep hb, h.n.keep hb, h.d⟩
theorem FuSt.put {w w' : World} {K : Option Addr} {m ck g : Nat} {cn : Nat} {A : Int} {ls os : List Int} (h : FuSt w w' K m ck (some ⟨g, 0, none⟩) cn A ls os) (k : Nat) (x : Int) : FuSt w (w'.setCell ⟨g, k, none⟩ (.int .i64 x)) K m ck (some ⟨g, 0, none⟩) cn A ls (os.set k x) := by
  have hg : w'.grownBy (w'.setCell ⟨g, k, none⟩ (.int .i64 x)) (blockOf (some ⟨g, 0, none⟩)) := h.n.grown_set k (.int .i64 x)
  refine ⟨below_grown h.bl h.n (Nat.le_refl _) hg, h.b0.ownGrown h.n hg (by decide), h.b1.ownGrown h.n hg (by decide), h.b2.ownGrown h.n hg (by decide), h.k.kept hg h.d, ?_, h.d⟩
  rw [List.map_set]
  exact h.n.set_ k (.int .i64 x)

set_option maxHeartbeats 8000000 in
set_option maxRecDepth 100000 in
theorem full_any (L O : Option Addr) (n c d : Nat) (ts : List (Int × Int)) (a : Int) (w : World) (h1 : Ints w L n c (ts.map (·.1))) (h2 : Ints w O n d (ts.map (·.2))) (hu : UpT 120 ts) (hn : n ≤ 24) (hb : ∀ t ∈ ts, -1000 ≤ t.2 ∧ t.2 ≤ 1000) (ha : -10000 ≤ a ∧ a ≤ 10000) :
    Calls Tryz.prog 50 #[.agg #[.slice L n c, .slice O n d, .int .i64 a]] w (RetHeap (fulF ts a) w) := by
  have hlen : Hid (ts.length = n) := by have := h1.len; rw [List.length_map] at this; exact this
  have hbd1 := h1.bd
  have hbd2 := h2.bd
  obtain ⟨wA, hwA⟩ : ∃ z : World, Hid (z = ((w.alloc (.cells #[.slice L n c, .slice O n d, .int .i64 a] 54)).alloc (.cells #[.slice none 0 0, .slice none 0 0, .int .i64 0] 54)).alloc (.cells #[.int .i64 0, .int .i64 0] 28)) := ⟨_, rfl⟩
  obtain ⟨k1, k2, k3, hB, hS⟩ := blk3 (w := w) (wr := wA) (t := 54) (t' := 54) (t'' := 28) (cs := #[.slice L n c, .slice O n d, .int .i64 a]) (cs' := #[.slice none 0 0, .slice none 0 0, .int .i64 0]) (cs'' := #[.int .i64 0, .int .i64 0]) (by rw [hwA.out]; exact Below.refl _ _)
  have HT := tidy_any L O n c d ts a wA (h1.keep hB) (h2.keep hB) hu hn (fun t ht => by have := hb t ht; omega) (by omega)
  have htm := tm_bd (M := 1000) hb
  have htb := tb_bd (M := 1000) (ts := ts) hb (by omega)
  rw [hlen.out] at htb
  have hnb := nrm_bd (M := 1000) (ts := tmF ts) (a := a - tbF ts) htm
  have hnu := (hu.tm).nrm (a - tbF ts)
  have hnl : (nrmF (tmF ts) (a - tbF ts)).1.length ≤ 24 := by have h8 := nrm_len (tmF ts) (a - tbF ts); have h9 := tm_len ts; have := hlen.out; omega
  have hnz := (nrm_pos (ts := tmF ts) (a := a - tbF ts) (fun t ht => (htm t ht).1)).2.2.1
  have hfe : fulF ts a = satF (nrmF (tmF ts) (a - tbF ts)) := rfl
  obtain ⟨res, hres⟩ : ∃ z, Hid (nrmF (tmF ts) (a - tbF ts) = z) := ⟨_, rfl⟩
  rw [hfe]
  rw [hres.out] at HT hnb hnu hnl hnz ⊢
  obtain ⟨l, A⟩ := res
  simp only at HT hnb hnu hnl hnz
  have hAb : 0 ≤ A ∧ A ≤ 40000 := by omega
  have HLB := Lib.hid hnb.1
  have HLU := Lib.hid hnu
  have hmp : ∀ t ∈ minT A l, 0 < t.2 ∧ t.2 ≤ 1000 := by
    rcases Int.lt_or_eq_of_le hAb.1 with h9 | h9
    · exact minT_bd h9 hnb.1
    · rw [hnz h9.symm]; simp [minT]
  have hself := tm_self (ts := minT A l) (fun t ht => (hmp t ht).1)
  have HSAT : Hid (satF (l, A) = nrmF (tmF (minT A l)) (A - tbF (minT A l))) := by
    show _ = _
    rw [hself.1, hself.2, Int.sub_zero]
    rfl
  have HMP := Lib.hid hmp
  have HMU : Hid (UpT 120 (minT A l)) := hnu.map _
  have HNL := Lib.hid hnl
  have K1 := Lib.hid k1
  have K2 := Lib.hid k2
  have K3 := Lib.hid k3
  have HB := Lib.hid hB
  have HS := Lib.hid hS
  have c0 := k1.cell 0
  have c1 := k1.cell 1
  have c2 := k1.cell 2
  have cl := k1.lt
  simp at c0 c1 c2
  clear h1 h2 hu hb k1 k2 k3 hB htm htb hnb hnu hnl hnz hfe hmp hself hres
  rw [HSAT.out]
  go_enter Tryz.func50, Tryz.ntmps50
  go_wp2_with fail
  rw [← hwA.out]
  refine HT.mono ?_
  rintro e w1 ⟨K, N, m, ck, cn, rfl, hK, hN, hD, hb1⟩
  simp only at hK hN
  have hml : Hid (l.length = m) := by have := hK.len; rw [List.length_map, List.length_map] at this; exact this
  have hm24 : m ≤ 24 := by rw [← hml.out]; exact HNL.out
  have J1 := Lib.hid (K1.out.keep hb1)
  have J2 := Lib.hid (K2.out.keep hb1)
  have J3 := Lib.hid (K3.out.keep hb1)
  have HB1 := Lib.hid (below_next HB.out hb1)
  have c0 := J1.out.cell 0
  have c1 := J1.out.cell 1
  have c2 := J1.out.cell 2
  have c3 := J1.out.frozen 0
  have c4 := J1.out.frozen 1
  have c5 := J1.out.frozen 2
  have cl := J1.out.lt
  simp at c0 c1 c2
  have HK := Lib.hid hK
  have HN := Lib.hid hN
  have HD := Lib.hid hD
  have hlow : w.heap.size + 3 ≤ wA.heap.size := HS.out
  clear K1 K2 K3 HB hK hN hD hb1 HT
  go_wp2_with fail
  obtain ⟨W3, hW3⟩ : ∃ z : World, Hid (z = ((w1.setCell ⟨w.heap.size, 0, none⟩ (.slice K m ck)).setCell ⟨w.heap.size, 1, none⟩ (.slice N m cn)).setCell ⟨w.heap.size, 2, none⟩ (.int .i64 A)) := ⟨_, rfl⟩
  obtain ⟨_, K5, K6, B9, own3⟩ := heap_stored (w := w) (r' := w.heap.size + 1 + 1) J1.out J3.out (by omega) HB1.out (Nat.le_refl _) (.slice K m ck) (.slice N m cn) (.int .i64 A) hW3.out
  have K7 : Blk W3 (w.heap.size + 1) 54 #[.slice none 0 0, .slice none 0 0, .int .i64 0] := by
    rw [hW3.out]
    have hne : w.heap.size + 1 ≠ w.heap.size := by omega
    exact ((J2.out.far (p := ⟨w.heap.size, 0, none⟩) hne _).far (p := ⟨w.heap.size, 1, none⟩) hne _).far (p := ⟨w.heap.size, 2, none⟩) hne _
  have F3 : FuSt w W3 K m ck N cn A (l.map (·.1)) (minU A (l.map (·.2)) 0) := ⟨B9, K5, K7, K6, (own3 HK.out).mono (by omega), by rw [minU_zero]; exact (own3 HN.out).mono (by omega), HD.out⟩
  rw [← hW3.out]
  obtain ⟨W4, hW4⟩ : ∃ z : World, Hid (z = W3.alloc (.cells #[.int .i64 0, .int .i64 0] 28)) := ⟨_, rfl⟩
  have F4 : Hid (FuSt w W4 K m ck N cn A (l.map (·.1)) (minU A (l.map (·.2)) 0)) := by rw [hW4.out]; exact F3.keep (below_new _ _)
  rw [← hW4.out]
  clear hW4 F3 K7 K6 K5 B9 own3 hW3 J1 J2 J3 HB1 HK HN HD c0 c1 c2 c3 c4 c5 cl hS
  go_loopw [19] (fun s19 wr => ∃ k : Nat, k ≤ m ∧ s19 = .int .i64 k ∧ Hid (FuSt w wr K m ck N cn A (l.map (·.1)) (minU A (l.map (·.2)) k))) (fun z _ => m - (intOf z).toNat)
  case atStart => exact ⟨0, Nat.zero_le _, rfl, F4⟩
  case round =>
    clear F4
    obtain ⟨k, hk, rfl, HF⟩ := hrel
    by_cases hlt : k < m

    · obtain ⟨g, o, rfl, hg, hcN, hzN, hxN⟩ := own_int_at HF.out.n hlt
      have hos : Hid ((l.map (·.2))[k]? = some o) := by have h9 := hxN.out; rw [minU_at (by rw [List.length_map, hml.out]; exact hlt)] at h9; exact h9
      have hob : 0 < o ∧ o ≤ 1000 := by
        have h9 := hos.out
        rw [List.getElem?_map, Option.map_eq_some_iff] at h9
        obtain ⟨t, ht, rfl⟩ := h9
        exact HLB.out t (List.mem_of_getElem? ht)
      have HST : Hid ((minU A (l.map (·.2)) k).set k (min o A) = minU A (l.map (·.2)) (k + 1)) := minU_step hos.out
      have q0 : (0 : Int) ≤ (k : Int) := by omega
      have q1 : (k : Int) < (m : Int) := by omega
      clear hxN hos
      go_wp2_with fail
      obtain ⟨W0, hwd⟩ : ∃ z : World, z = wr.drew := ⟨_, rfl⟩
      have hbd0 : Below wr.heap.size wr W0 := by rw [hwd]; exact below_drewN _ 1
      have HF0 := Lib.hid (HF.out.keep hbd0)
      have hc0 := keepBox hbd0 hcN
      obtain ⟨g', u', eg, _, hgl, _, hz0, _⟩ := HF0.out.n.at_ hlt
      cases eg
      have hb1 := HF0.out.b0.cell 1
      have hb2 := HF0.out.b0.cell 2
      have hbl := HF0.out.b0.lt
      simp only [List.getElem?_toArray, List.getElem?_cons_zero, List.getElem?_cons_succ] at hb1 hb2
      have hS : W0.cell? ⟨w.heap.size, 1, none⟩ = some (.slice (some ⟨g, 0, none⟩) m cn) ∧ W0.cell? ⟨w.heap.size, 2, none⟩ = some (.int .i64 A) ∧ W0.cell? ⟨g, k, none⟩ = some (.int .i64 o) ∧ w.heap.size < W0.heap.size ∧ g < W0.heap.size := ⟨hb1, hb2, hc0, hbl, hgl⟩
      refine wp_region_tail (fun w' => w'.cell? ⟨w.heap.size, 1, none⟩ = some (.slice (some ⟨g, 0, none⟩) m cn) ∧ w'.cell? ⟨w.heap.size, 2, none⟩ = some (.int .i64 A) ∧ w'.cell? ⟨g, k, none⟩ = some (.int .i64 o) ∧ w.heap.size < w'.heap.size ∧ g < w'.heap.size) [12] (by kernel_rfl) ?_
      change wpAnyT _ _ _ _ _ _ _ _ _ wr.drew
      rw [← hwd]
      clear hwd hbd0 hcN hzN hg HF
      refine take0 (i := 0) (oi := _) (v := ?_) rfl (by kernel_rfl) (by kernel_rfl) (by kernel_rfl) (fun _ _ _ h => h) rfl (Or.inl ⟨by rfl, ?_⟩) (fun _ => hS) ?_
      rotate_left
      · intro w0; go_simp; with_reducible rfl
      (try simp only [Act.put, List.setIfInBounds_toArray, List.set_cons_zero, List.set_cons_succ])
      refine takeS (i := 1) (oi := _) (v := ?_) rfl (by kernel_rfl) (by kernel_rfl) (by kernel_rfl) (fun _ _ _ h => h) rfl (by kernel_rfl) (by kernel_rfl) (Or.inl ⟨by rfl, ?_⟩) hS ?_
      rotate_left
      · intro w0 hSw; (try dsimp only at hSw); go_simp; with_reducible rfl
      (try simp only [Act.put, List.setIfInBounds_toArray, List.set_cons_zero, List.set_cons_succ])
      refine take0 (i := 2) (oi := _) (v := ?_) rfl (by kernel_rfl) (by kernel_rfl) (by kernel_rfl) (fun _ _ _ h => h) rfl (Or.inl ⟨by rfl, ?_⟩) (fun _ => hS) ?_
      rotate_left
      · intro w0; go_simp; with_reducible rfl
      (try simp only [Act.put, List.setIfInBounds_toArray, List.set_cons_zero, List.set_cons_succ])
      refine take0 (i := 3) (oi := _) (v := ?_) rfl (by kernel_rfl) (by kernel_rfl) (by kernel_rfl) (fun _ _ _ h => h) rfl (Or.inl ⟨by rfl, ?_⟩) (fun _ => hS) ?_
      rotate_left
      · intro w0; go_simp; with_reducible rfl
      (try simp only [Act.put, List.setIfInBounds_toArray, List.set_cons_zero, List.set_cons_succ])
      refine takeS (i := 4) (oi := _) (v := ?_) rfl (by kernel_rfl) (by kernel_rfl) (by kernel_rfl) (fun _ _ _ h => h) rfl (by kernel_rfl) (by kernel_rfl) (Or.inl ⟨by rfl, ?_⟩) hS ?_
      rotate_left
      · intro w0 hSw; (try dsimp only at hSw); go_simp; with_reducible rfl
      (try simp only [Act.put, List.setIfInBounds_toArray, List.set_cons_zero, List.set_cons_succ])
      refine take0 (i := 5) (oi := _) (v := ?_) rfl (by kernel_rfl) (by kernel_rfl) (by kernel_rfl) (fun _ _ _ h => h) rfl (Or.inl ⟨by rfl, ?_⟩) (fun _ => hS) ?_
      rotate_left
      · intro w0; go_simp; with_reducible rfl
      (try simp only [Act.put, List.setIfInBounds_toArray, List.set_cons_zero, List.set_cons_succ])
      refine take0 (i := 6) (oi := _) (v := ?_) rfl (by kernel_rfl) (by kernel_rfl) (by kernel_rfl) (fun _ _ _ h => h) rfl (Or.inl ⟨by rfl, ?_⟩) (fun _ => hS) ?_
      rotate_left
      · intro w0; go_simp; with_reducible rfl
      (try simp only [Act.put, List.setIfInBounds_toArray, List.set_cons_zero, List.set_cons_succ])
      refine takeS (i := 7) (oi := _) (v := ?_) rfl (by kernel_rfl) (by kernel_rfl) (by kernel_rfl) (fun _ _ _ h => h) rfl (by kernel_rfl) (by kernel_rfl) (Or.inl ⟨by rfl, ?_⟩) hS ?_
      rotate_left
      · intro w0 hSw; (try dsimp only at hSw); go_simp; with_reducible rfl
      (try simp only [Act.put, List.setIfInBounds_toArray, List.set_cons_zero, List.set_cons_succ])
      refine take0 (i := 8) (oi := _) (v := ?_) rfl (by kernel_rfl) (by kernel_rfl) (by kernel_rfl) (fun _ _ _ h => h) rfl (Or.inl ⟨by rfl, ?_⟩) (fun _ => hS) ?_
      rotate_left
      · intro w0; go_simp; with_reducible rfl
      (try simp only [Act.put, List.setIfInBounds_toArray, List.set_cons_zero, List.set_cons_succ])
      refine takeS (i := 9) (oi := _) (v := ?_) rfl (by kernel_rfl) (by kernel_rfl) (by kernel_rfl) (fun _ _ _ h => h) rfl (by kernel_rfl) (by kernel_rfl) (Or.inl ⟨by rfl, ?_⟩) hS ?_
      rotate_left
      · intro w0 hSw; (try dsimp only at hSw); go_simp; with_reducible rfl
      (try simp only [Act.put, List.setIfInBounds_toArray, List.set_cons_zero, List.set_cons_succ])
      refine take0 (i := 10) (oi := _) (v := ?_) rfl (by kernel_rfl) (by kernel_rfl) (by kernel_rfl) (fun _ _ _ h => h) rfl (Or.inl ⟨by rfl, ?_⟩) (fun _ => hS) ?_
      rotate_left
      · intro w0; go_simp; with_reducible rfl
      (try simp only [Act.put, List.setIfInBounds_toArray, List.set_cons_zero, List.set_cons_succ])
      refine take0 (i := 11) (oi := _) (v := ?_) rfl (by kernel_rfl) (by kernel_rfl) (by kernel_rfl) (fun _ _ _ h => h) rfl (Or.inl ⟨by rfl, ?_⟩) (fun _ => hS) ?_
      rotate_left
      · intro w0; go_simp; with_reducible rfl
      (try simp only [Act.put, List.setIfInBounds_toArray, List.set_cons_zero, List.set_cons_succ])
      refine oneT (i := 12) (by kernel_rfl) rfl (by rfl) (fun Kq hK => ?_)
      go_simp
      refine hK _ _ (noT_no (by kernel_rfl)) ?_
      clear hK
      refine doneT (by kernel_rfl) ?_ _
      have HF9 : Hid (FuSt w (W0.setCell ⟨g, k, none⟩ (.int .i64 (min o A))) K m ck (some ⟨g, 0, none⟩) cn A (l.map (·.1)) (minU A (l.map (·.2)) (k + 1))) := by rw [← HST.out]; exact HF0.out.put k _
      obtain ⟨W9, hW9⟩ : ∃ z : World, z = W0.setCell ⟨g, k, none⟩ (.int .i64 (min o A)) := ⟨_, rfl⟩
      rw [← hW9] at HF9 ⊢
      clear hW9 HF0 hS hb1 hb2 hbl hc0 hgl hz0
      go_wp2_with fail
      go_roundw
      case rel => exact ⟨k + 1, by omega, by go_num, HF9⟩
      case measure => simp [intOf] <;> omega

    · obtain rfl : k = m := by omega
      have hme : minU A (l.map (·.2)) k = (minT A l).map (·.2) := by
        have h9 : (l.map (·.2)).length = k := by rw [List.length_map]; exact hml.out
        rw [← h9, minU_end, minT_snd]
      have hbx0 := HF.out.b0.cell 0
      have hbx1 := HF.out.b0.cell 1
      have hbx2 := HF.out.b0.cell 2
      have hbxl := HF.out.b0.lt
      simp only [List.getElem?_toArray, List.getElem?_cons_zero, List.getElem?_cons_succ] at hbx0 hbx1 hbx2
      have hIK : Ints wr K k ck ((minT A l).map (·.1)) := by
        rw [minT_fst]
        exact HF.out.k.ints (fun z hz => by obtain ⟨t, ht, rfl⟩ := List.mem_map.1 hz; have := HLU.out.1 t ht; unfold I64; omega)
      have hIN : Ints wr N k cn ((minT A l).map (·.2)) := by
        rw [← hme]
        refine HF.out.n.ints (fun z hz => ?_)
        rw [hme] at hz
        obtain ⟨t, ht, rfl⟩ := List.mem_map.1 hz
        have := HMP.out t ht
        unfold I64
        omega
      have HNR := normal_any K N k ck cn (minT A l) A wr hIK hIN (HMU.out.wide (by omega)) hm24 (fun t ht => by have := HMP.out t ht; omega) (by omega)
      clear hIK hIN hme
      go_wp2_with fail
      refine HNR.mono ?_
      rintro e w5 ⟨K2, N2, m2, ck2, cn2, rfl, hK2, hN2, hD2, hb5⟩
      have HF5 := Lib.hid (HF.out.keep hb5)
      have HK5 := Lib.hid (hK2.mono HF.out.bl.size)
      have HN5 := Lib.hid (hN2.mono HF.out.bl.size)
      have HD5 := Lib.hid hD2
      have g0 := HF5.out.b1.cell 0
      have g1 := HF5.out.b1.cell 1
      have g2 := HF5.out.b1.cell 2
      have g3 := HF5.out.b1.frozen 0
      have g4 := HF5.out.b1.frozen 1
      have g5 := HF5.out.b1.frozen 2
      have gl := HF5.out.b1.lt
      have g6 := HF5.out.b2.cell 0
      have g7 := HF5.out.b2.cell 1
      have g8 := HF5.out.b2.frozen 0
      have g9 := HF5.out.b2.frozen 1
      have gl2 := HF5.out.b2.lt
      simp at g0 g1 g2 g6 g7
      obtain ⟨res, hres⟩ : ∃ z, Hid (nrmF (tmF (minT A l)) (A - tbF (minT A l)) = z) := ⟨_, rfl⟩
      obtain ⟨rl, ra⟩ := res
      rw [hres.out] at HK5 HN5
      simp only at HK5 HN5
      obtain ⟨W3, hW3⟩ : ∃ z : World, Hid (z = ((w5.setCell ⟨w.heap.size + 1, 0, none⟩ (.slice K2 m2 ck2)).setCell ⟨w.heap.size + 1, 1, none⟩ (.slice N2 m2 cn2)).setCell ⟨w.heap.size + 1, 2, none⟩ (.int .i64 ra)) := ⟨_, rfl⟩
      obtain ⟨Z, K5, K6, B9, own3⟩ := heap_stored (w := w) HF5.out.b1 HF5.out.b2 (by omega) HF5.out.bl (by omega) (.slice K2 m2 ck2) (.slice N2 m2 cn2) (.int .i64 ra) hW3.out
      have S0 : Hid (RetHeap (nrmF (tmF (minT A l)) (A - tbF (minT A l))) w (.returned (.tuple #[.agg #[.slice K2 m2 ck2, .slice N2 m2 cn2, .int .i64 ra], .agg #[.int .i64 0, .int .i64 0]])) W3) := by rw [hres.out]; exact ⟨K2, N2, m2, ck2, cn2, rfl, own3 HK5.out, own3 HN5.out, HD5.out, B9⟩
      have Z2 := Lib.hid Z
      have s10 := K5.cell 0
      have s11 := K5.cell 1
      have s12 := K5.cell 2
      have s13 := K6.cell 0
      have s14 := K6.cell 1
      have sl3 := K5.lt
      have sl4 := K6.lt
      simp only [List.getElem?_toArray, List.getElem?_cons_zero, List.getElem?_cons_succ] at s10 s11 s12 s13 s14
      clear hK2 hN2 hD2 hb5 HF HF5 HK5 HN5 HD5 HNR Z K5 K6 B9 own3 hbx0 hbx1 hbx2 hbxl
      rw [hres.out]
      go_wp2_with fail
      rw [← hW3.out, Z2.out]
      exact bodyPost_ret (v := .tuple #[.agg #[.slice K2 m2 ck2, .slice N2 m2 cn2, .int .i64 ra], .agg #[.int .i64 0, .int .i64 0]]) (by simp [results, Tryz.results50, go_sem, s10, s11, s12, s13, s14, sl3, sl4]) rfl S0.out

end Go.Proofs.YtlfgcblijfflfaaGreat
