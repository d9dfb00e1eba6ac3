/- Bumped scores, plainly. -/
import Derived.Test.YtehhhidjgngibaaScoresPlain
namespace Go.Proofs.Ytehhhidjgngibaa

def varsF (n : Int) : List Int → Nat → Int × Int
  | [], _ => (0, 0)
  | v :: t, i => if v < 1 ∨ n < v then (3, -1 - i) else varsF n t (i + 1)
/-- What is wrong with what Bump is handed: a code and a place. -/
def bumpW (s vars : List Int) (by_ : Int) : Int × Int :=
  if (scoresWrong s).1 ≠ 0 then scoresWrong s else if 120 < vars.length then (2, -1) else if (varsF s.length vars 0).1 ≠ 0 then varsF s.length vars 0
  else if by_ < 0 ∨ 1000000 < by_ then (10, 0) else (0, 0)
theorem varsF_ok (n : Int) : ∀ (l : List Int) (i : Nat), (varsF n l i).1 = 0 → varsF n l i = (0, 0) ∧ ∀ v ∈ l, 1 ≤ v ∧ v ≤ n
  | [], _, _ => ⟨rfl, by simp⟩
  | v :: t, i, h => by
    rw [varsF] at h ⊢
    by_cases h1 : v < 1 ∨ n < v
    · rw [if_pos h1] at h; simp at h
    · rw [if_neg h1] at h ⊢
      obtain ⟨e, ht⟩ := varsF_ok n t (i + 1) h
      refine ⟨e, fun x hx => ?_⟩
      rcases List.mem_cons.1 hx with rfl | hx
      · omega
      · exact ht x hx

def addAll (by_ : Int) : List Int → List Int → List Int
  | s, [] => s
  | s, v :: t => addAll by_ (s.set (v - 1).toNat (s[(v - 1).toNat]?.getD 0 + by_)) t
def much (s : List Int) : Bool := s.any (fun x => decide (1000000 < x))
def halves : Nat → List Int → List Int
  | 0, s => s
  | f + 1, s => if much s then halves f (s.map (· / 2)) else s
/-- The scores then. -/
def bumpedL (s vars : List Int) (by_ : Int) : List Int := halves 7 (addAll by_ s vars)

/-- Within 0 and b. -/
def Within (b : Int) (s : List Int) : Prop := ∀ x ∈ s, 0 ≤ x ∧ x ≤ b
theorem Within.mono {b c : Int} {s : List Int} (h : Within b s) (hbc : b ≤ c) : Within c s := fun x hx => ⟨(h x hx).1, Int.le_trans (h x hx).2 hbc⟩
theorem Within.set_ {b y : Int} {s : List Int} (h : Within b s) (k : Nat) (h0 : 0 ≤ y) (hy : y ≤ b) : Within b (s.set k y) := fun x hx => by
  rcases List.mem_or_eq_of_mem_set hx with hx | rfl
  · exact h x hx
  · exact ⟨h0, hy⟩
theorem Within.half {b : Int} {s : List Int} (h : Within (2 * b) s) : Within b (s.map (· / 2)) := fun x hx => by
  obtain ⟨y, hy, rfl⟩ := List.mem_map.1 hx
  have := h y hy
  constructor <;> omega
theorem much_false {s : List Int} (h : Within 1000000 s) : much s = false := by
  unfold much
  rw [List.any_eq_false]
  intro x hx
  have := h x hx
  simp; omega
/-- Half of it is halved. -/
def hv (s : List Int) (j : Nat) : List Int := (s.take j).map (· / 2) ++ s.drop j
theorem hv_zero (s : List Int) : hv s 0 = s := by simp [hv]
theorem hv_full (s : List Int) (j : Nat) (h : s.length ≤ j) : hv s j = s.map (· / 2) := by simp [hv, List.take_of_length_le h, List.drop_of_length_le h]
theorem hv_get {s : List Int} {j : Nat} {y : Int} (h : s[j]? = some y) : (hv s j)[j]? = some y := by
  have hl : ((s.take j).map (· / 2)).length = j := by
    have := (List.getElem?_eq_some_iff.1 h).1
    simp; omega
  rw [hv, List.getElem?_append_right (by omega), hl, Nat.sub_self, List.getElem?_drop]
  simpa using h
theorem hv_set {s : List Int} {j : Nat} {y : Int} (h : s[j]? = some y) : (hv s j).set j (y / 2) = hv s (j + 1) := by
  have hj := (List.getElem?_eq_some_iff.1 h).1
  have hl : ((s.take j).map (· / 2)).length = j := by simp; omega
  have hy := (List.getElem?_eq_some_iff.1 h).2
  rw [hv, List.set_append_right _ _ (by omega), hl, Nat.sub_self, List.drop_eq_getElem_cons hj, List.set_cons_zero, hv, List.take_add_one, h]
  simp
theorem addAll_len (by_ : Int) : ∀ (vars s : List Int), (addAll by_ s vars).length = s.length
  | [], _ => rfl
  | _ :: t, s => by rw [addAll, addAll_len by_ t]; simp
theorem halves_len : ∀ (f : Nat) (s : List Int), (halves f s).length = s.length
  | 0, _ => rfl
  | f + 1, s => by
    rw [halves]
    split
    · rw [halves_len f]; simp
    · rfl
theorem bumpedL_len (s vars : List Int) (by_ : Int) : (bumpedL s vars by_).length = s.length := by rw [bumpedL, halves_len, addAll_len]
theorem addAll_within {by_ : Int} (h0 : 0 ≤ by_) (h1 : by_ ≤ 1000000) : ∀ (vars s : List Int) (b : Int), 0 ≤ b → Within b s → Within (b + 1000000 * vars.length) (addAll by_ s vars)
  | [], s, b, _, h => by simpa [addAll] using h
  | v :: t, s, b, hb, h => by
    rw [addAll]
    have hy : 0 ≤ s[(v - 1).toNat]?.getD 0 ∧ s[(v - 1).toNat]?.getD 0 ≤ b := by
      cases hs : s[(v - 1).toNat]? with
      | none => exact ⟨by simp, by simpa using hb⟩
      | some y => simpa using h y (List.mem_of_getElem? hs)
    have := addAll_within h0 h1 t _ (b + 1000000) (by omega) ((h.mono (by omega : b ≤ b + 1000000)).set_ (v - 1).toNat (y := s[(v - 1).toNat]?.getD 0 + by_) (by omega) (by omega))
    refine this.mono ?_
    simp
    omega
theorem halves_within : ∀ (f : Nat) (s : List Int) (b : Int), Within b s → Within b (halves f s)
  | 0, _, _, h => h
  | f + 1, s, b, h => by
    rw [halves]
    split
    · refine halves_within f _ b fun x hx => ?_
      obtain ⟨y, hy, rfl⟩ := List.mem_map.1 hx
      have := h y hy
      constructor <;> omega
    · exact h
theorem bumpedL_within {xs vs : List Int} {by_ : Int} (h : Within 1000000 xs) (hm : vs.length ≤ 120) (h0 : 0 ≤ by_) (h1 : by_ ≤ 1000000) : Within 121000000 (bumpedL xs vs by_) :=
  halves_within _ _ _ ((addAll_within h0 h1 vs xs 1000000 (by omega) h).mono (by omega))
end Go.Proofs.Ytehhhidjgngibaa
