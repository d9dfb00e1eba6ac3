/- Scores and the best of those that are open, plainly. -/
import Derived.WalkKit
namespace Go.Proofs.Ytehhhidjgngibaa

def scoresF : List Int → Nat → Int × Int
  | [], _ => (0, 0)
  | y :: t, i => if y < 0 ∨ 1000000 < y then (3, i) else scoresF t (i + 1)
def scoresWrong (xs : List Int) : Int × Int := if 120 < xs.length then (2, 0) else scoresF xs 0

theorem scoresF_code (xs : List Int) : ∀ i, (scoresF xs i).1 = 0 → scoresF xs i = (0, 0) := by
  induction xs with
  | nil => intro i _; rfl
  | cons y t ih =>
    intro i h
    rw [scoresF] at h ⊢
    split
    · rename_i hy; rw [if_pos hy] at h; simp at h
    · rename_i hy; rw [if_neg hy] at h; exact ih _ h
theorem scoresWrong_code (xs : List Int) (h : (scoresWrong xs).1 = 0) : scoresWrong xs = (0, 0) := by
  unfold scoresWrong at h ⊢
  split
  · rename_i hy; rw [if_pos hy] at h; simp at h
  · rename_i hy; rw [if_neg hy] at h; exact scoresF_code _ _ h
theorem scoresF_ok (xs : List Int) : ∀ i, scoresF xs i = (0, 0) → ∀ x ∈ xs, 0 ≤ x ∧ x ≤ 1000000 := by
  induction xs with
  | nil => intro i _ x hx; simp at hx
  | cons y t ih =>
    intro i h x hx
    rw [scoresF] at h
    split at h
    · simp at h
    · rename_i hy
      rcases List.mem_cons.1 hx with rfl | hx
      · omega
      · exact ih _ h x hx
theorem scoresWrong_ok (xs : List Int) (h : scoresWrong xs = (0, 0)) : xs.length ≤ 120 ∧ ∀ x ∈ xs, 0 ≤ x ∧ x ≤ 1000000 := by
  unfold scoresWrong at h
  split at h
  · simp at h
  · exact ⟨by omega, scoresF_ok _ _ h⟩
theorem scoresF_of (xs : List Int) (h : ∀ x ∈ xs, 0 ≤ x ∧ x ≤ 1000000) : ∀ i, scoresF xs i = (0, 0) := by
  induction xs with
  | nil => intro i; rfl
  | cons y t ih =>
    intro i
    rw [scoresF, if_neg (by have := h y (by simp); omega)]
    exact ih (fun x hx => h x (by simp [hx])) _
theorem scoresWrong_of (xs : List Int) (hl : xs.length ≤ 120) (h : ∀ x ∈ xs, 0 ≤ x ∧ x ≤ 1000000) : scoresWrong xs = (0, 0) := by
  rw [scoresWrong, if_neg (by omega)]
  exact scoresF_of xs h 0

/-- b is 1 more than the place of the best open one between lo and hi (the first of the greatest), or 0 if there is none. -/
def Best (op : List Bool) (s : List Int) (lo hi : Nat) (b : Nat) : Prop :=
  (b = 0 ∧ ∀ j, lo ≤ j → j < hi → op[j]? ≠ some true) ∨
  (∃ m x, b = m + 1 ∧ lo ≤ m ∧ m < hi ∧ op[m]? = some true ∧ s[m]? = some x ∧ ∀ j y, lo ≤ j → j < hi → op[j]? = some true → s[j]? = some y → y ≤ x ∧ (j < m → y < x))

theorem Best.empty (op : List Bool) (s : List Int) (k : Nat) : Best op s k k 0 := .inl ⟨rfl, fun j h1 h2 => absurd h1 (by omega)⟩
theorem Best.uniq {op : List Bool} {s : List Int} {lo hi b b' : Nat} (h : Best op s lo hi b) (h' : Best op s lo hi b') : b = b' := by
  rcases h with ⟨rfl, h⟩ | ⟨m, x, rfl, h1, h2, h3, h4, h5⟩ <;> rcases h' with ⟨rfl, h'⟩ | ⟨m', x', rfl, h1', h2', h3', h4', h5'⟩
  · rfl
  · exact absurd h3' (h m' h1' h2')
  · exact absurd h3 (h' m h1 h2)
  · have a := h5 m' x' h1' h2' h3' h4'
    have b := h5' m x h1 h2 h3 h4
    rcases Nat.lt_trichotomy m m' with hlt | heq | hgt
    · have := b.2 hlt; omega
    · omega
    · have := a.2 hgt; omega
/-- One more behind. -/
theorem Best.snoc {op : List Bool} {s : List Int} {k b : Nat} {o : Bool} {x : Int} (h : Best op s 0 k b) (ho : op[k]? = some o) (hx : s[k]? = some x) :
    (o = false → Best op s 0 (k + 1) b) ∧ (o = true → b = 0 → Best op s 0 (k + 1) (k + 1)) ∧
    (∀ m y, o = true → b = m + 1 → s[m]? = some y → (y < x → Best op s 0 (k + 1) (k + 1)) ∧ (¬ y < x → Best op s 0 (k + 1) b)) := by
  refine ⟨fun e => ?_, fun e e0 => ?_, fun m y e em hy => ⟨fun hlt => ?_, fun hge => ?_⟩⟩
  · subst e
    rcases h with ⟨rfl, h⟩ | ⟨m, z, rfl, h1, h2, h3, h4, h5⟩
    · refine .inl ⟨rfl, fun j h1 h2 => ?_⟩
      rcases Nat.lt_or_ge j k with hj | hj
      · exact h j h1 hj
      · obtain rfl : j = k := by omega
        rw [ho]; simp
    · refine .inr ⟨m, z, rfl, h1, by omega, h3, h4, fun j y j1 j2 j3 j4 => ?_⟩
      rcases Nat.lt_or_ge j k with hj | hj
      · exact h5 j y j1 hj j3 j4
      · obtain rfl : j = k := by omega
        rw [ho] at j3; simp at j3
  · subst e e0
    rcases h with ⟨_, h⟩ | ⟨m, z, h0, _⟩
    · refine .inr ⟨k, x, rfl, Nat.zero_le _, by omega, ho, hx, fun j y j1 j2 j3 j4 => ?_⟩
      rcases Nat.lt_or_ge j k with hj | hj
      · exact absurd j3 (h j j1 hj)
      · obtain rfl : j = k := by omega
        rw [hx] at j4; cases j4
        exact ⟨by omega, fun h => absurd h (by omega)⟩
    · omega
  · subst e
    rcases h with ⟨h0, h⟩ | ⟨m', z, h0, h1, h2, h3, h4, h5⟩
    · omega
    · obtain rfl : m = m' := by omega
      rw [hy] at h4; cases h4
      refine .inr ⟨k, x, rfl, Nat.zero_le _, by omega, ho, hx, fun j y' j1 j2 j3 j4 => ?_⟩
      rcases Nat.lt_or_ge j k with hj | hj
      · have := h5 j y' j1 hj j3 j4
        exact ⟨by omega, fun _ => by omega⟩
      · obtain rfl : j = k := by omega
        rw [hx] at j4; cases j4
        exact ⟨by omega, fun h => absurd h (by omega)⟩
  · subst e
    rcases h with ⟨h0, h⟩ | ⟨m', z, h0, h1, h2, h3, h4, h5⟩
    · omega
    · obtain rfl : m = m' := by omega
      rw [hy] at h4; cases h4
      refine .inr ⟨m, y, em, h1, by omega, h3, hy, fun j y' j1 j2 j3 j4 => ?_⟩
      rcases Nat.lt_or_ge j k with hj | hj
      · exact h5 j y' j1 hj j3 j4
      · obtain rfl : j = k := by omega
        rw [hx] at j4; cases j4
        exact ⟨by omega, fun h => absurd h (by omega)⟩
/-- One more ahead. -/
theorem Best.cons {op : List Bool} {s : List Int} {k n b : Nat} {o : Bool} {x : Int} (hk : k < n) (h : Best op s (k + 1) n b) (ho : op[k]? = some o) (hx : s[k]? = some x) :
    (o = false → Best op s k n b) ∧ (o = true → b = 0 → Best op s k n (k + 1)) ∧
    (∀ m y, o = true → b = m + 1 → s[m]? = some y → (y ≤ x → Best op s k n (k + 1)) ∧ (¬ y ≤ x → Best op s k n b)) := by
  refine ⟨fun e => ?_, fun e e0 => ?_, fun m y e em hy => ⟨fun hlt => ?_, fun hge => ?_⟩⟩
  · subst e
    rcases h with ⟨rfl, h⟩ | ⟨m, z, rfl, h1, h2, h3, h4, h5⟩
    · refine .inl ⟨rfl, fun j h1 h2 => ?_⟩
      rcases Nat.lt_or_ge k j with hj | hj
      · exact h j hj h2
      · obtain rfl : j = k := by omega
        rw [ho]; simp
    · refine .inr ⟨m, z, rfl, by omega, h2, h3, h4, fun j y j1 j2 j3 j4 => ?_⟩
      rcases Nat.lt_or_ge k j with hj | hj
      · exact h5 j y hj j2 j3 j4
      · obtain rfl : j = k := by omega
        rw [ho] at j3; simp at j3
  · subst e e0
    rcases h with ⟨_, h⟩ | ⟨m, z, h0, _⟩
    · refine .inr ⟨k, x, rfl, Nat.le_refl _, hk, ho, hx, fun j y j1 j2 j3 j4 => ?_⟩
      rcases Nat.lt_or_ge k j with hj | hj
      · exact absurd j3 (h j hj j2)
      · obtain rfl : j = k := by omega
        rw [hx] at j4; cases j4
        exact ⟨by omega, fun h => absurd h (by omega)⟩
    · omega
  · subst e
    rcases h with ⟨h0, h⟩ | ⟨m', z, h0, h1, h2, h3, h4, h5⟩
    · omega
    · obtain rfl : m = m' := by omega
      rw [hy] at h4; cases h4
      refine .inr ⟨k, x, rfl, Nat.le_refl _, hk, ho, hx, fun j y' j1 j2 j3 j4 => ?_⟩
      rcases Nat.lt_or_ge k j with hj | hj
      · have := h5 j y' hj j2 j3 j4
        exact ⟨by omega, fun h => absurd h (by omega)⟩
      · obtain rfl : j = k := by omega
        rw [hx] at j4; cases j4
        exact ⟨by omega, fun h => absurd h (by omega)⟩
  · subst e
    rcases h with ⟨h0, h⟩ | ⟨m', z, h0, h1, h2, h3, h4, h5⟩
    · omega
    · obtain rfl : m = m' := by omega
      rw [hy] at h4; cases h4
      refine .inr ⟨m, y, em, by omega, h2, h3, hy, fun j y' j1 j2 j3 j4 => ?_⟩
      rcases Nat.lt_or_ge k j with hj | hj
      · exact h5 j y' hj j2 j3 j4
      · obtain rfl : j = k := by omega
        rw [hx] at j4; cases j4
        exact ⟨by omega, fun _ => by omega⟩
theorem Best.at_ {op : List Bool} {s : List Int} {lo hi m : Nat} (h : Best op s lo hi (m + 1)) : lo ≤ m ∧ m < hi ∧ ∃ x, s[m]? = some x := by
  rcases h with ⟨h0, _⟩ | ⟨m', x, h0, h1, h2, h3, h4, h5⟩
  · omega
  · obtain rfl : m = m' := by omega
    exact ⟨h1, h2, x, h4⟩
end Go.Proofs.Ytehhhidjgngibaa
