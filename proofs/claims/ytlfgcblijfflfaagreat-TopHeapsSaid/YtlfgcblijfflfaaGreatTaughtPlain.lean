/- What a false clause teaches, plainly: the trail's history, its levels; the program's clause is the reference's. -/
import Derived.Test.YtlfgcblijfflfaaGreatLevPlain
namespace Go.Proofs.YtlfgcblijfflfaaGreat

/-- Whence the literals of a trail came. -/
def Hist (xss : List (List Int)) (t y : List Int) : Prop :=
  y.length = t.length ∧ ∀ i k x, y[i]? = some k → t[i]? = some x → 0 ≤ k → ∃ c, xss[k.toNat]? = some c ∧ x ∈ c ∧ ∀ l ∈ c, l ≠ x → -l ∈ t.take i
theorem hist_snoc {xss : List (List Int)} {t y : List Int} {x k : Int} (h : Hist xss t y) (hk : 0 ≤ k → ∃ c, xss[k.toNat]? = some c ∧ x ∈ c ∧ ∀ l ∈ c, l ≠ x → -l ∈ t) : Hist xss (t ++ [x]) (y ++ [k]) := by
  refine ⟨by simp [h.1], fun i k' x' h1 h2 h0 => ?_⟩
  by_cases hi : i < t.length
  · rw [List.getElem?_append_left (by rw [h.1]; exact hi)] at h1
    rw [List.getElem?_append_left hi] at h2
    rw [List.take_append_of_le_length (by omega)]
    exact h.2 i k' x' h1 h2 h0
  · have hi2 : i < (t ++ [x]).length := (List.getElem?_eq_some_iff.1 h2).1
    simp at hi2
    have e : i = t.length := by omega
    subst e
    rw [← h.1, List.getElem?_concat_length] at h1
    rw [List.getElem?_concat_length] at h2
    cases h1
    cases h2
    rw [List.take_append_of_le_length (Nat.le_refl _), List.take_length]
    exact hk h0
theorem runF_hist {xss : List (List Int)} : ∀ (k : Nat) (t y : List Int), Hist xss t y →
    Hist xss (runF xss k t y).1 (runF xss k t y).2.1 ∧ ∃ s u, (runF xss k t y).1 = t ++ s ∧ (runF xss k t y).2.1 = y ++ u ∧ ∀ k ∈ u, 0 ≤ k
  | 0, t, y, h => ⟨h, [], [], by simp [runF]⟩
  | k + 1, t, y, h => by
    rw [runF]
    by_cases h1 : 0 ≤ firF t xss 0
    · rw [if_pos h1]; exact ⟨h, [], [], by simp⟩
    · rw [if_neg h1]
      by_cases h2 : uniF t xss 0 < 0
      · rw [if_pos h2]; exact ⟨h, [], [], by simp⟩
      · rw [if_neg h2]
        obtain ⟨c, h3, h4, h5, h6, h7⟩ := uni_spec (t := t) (xss := xss) (by omega)
        rw [h5]
        obtain ⟨g1, _, _, g4⟩ := mustF_spec h6
        obtain ⟨i1, s, u, i2, i3, i4⟩ := runF_hist k (t ++ [mustF t c c]) (y ++ [uniF t xss 0]) (hist_snoc h fun _ => ⟨c, h3, g1, g4⟩)
        refine ⟨i1, mustF t c c :: s, uniF t xss 0 :: u, by rw [i2]; simp, by rw [i3]; simp, fun k hk => ?_⟩
        rcases List.mem_cons.1 hk with hk | hk
        · omega
        · exact i4 k hk

/-- The levels of a trail: they rise; a literal without a reason begins its own. -/
structure Lev (y v : List Int) (z : Nat) : Prop where
  len : v.length = y.length
  low : ∀ (i : Nat) (a : Int), v[i]? = some a → 0 ≤ a ∧ a ≤ z
  mono : ∀ (i j : Nat) (a b : Int), i ≤ j → v[i]? = some a → v[j]? = some b → a ≤ b
  new : ∀ (i : Nat) (k : Int), y[i]? = some k → k < 0 → k = -1 ∧ ∃ b : Int, v[i]? = some b ∧ 0 < b ∧ ∀ (j : Nat) (a : Int), j < i → v[j]? = some a → a < b
theorem lev_start {u : List Int} (hu : ∀ k ∈ u, 0 ≤ k) : Lev u (List.replicate u.length 0) 0 := by
  refine ⟨by simp, fun i a h => ?_, fun i j a b _ h1 h2 => ?_, fun i k h1 h2 => ?_⟩
  · rw [List.getElem?_replicate] at h; split at h <;> simp_all
  · rw [List.getElem?_replicate] at h1 h2
    split at h1 <;> split at h2 <;> simp_all
  · have := hu k (List.mem_of_getElem? h1); omega
theorem lev_more {y v u : List Int} {z : Nat} (h : Lev y v z) (hu : ∀ k ∈ u, 0 ≤ k) : Lev (y ++ [-1] ++ u) (v ++ List.replicate (u.length + 1) ((z : Int) + 1)) (z + 1) := by
  have key : ∀ (i : Nat) (a : Int), (v ++ List.replicate (u.length + 1) ((z : Int) + 1))[i]? = some a → (i < v.length ∧ v[i]? = some a) ∨ (v.length ≤ i ∧ a = (z : Int) + 1) := fun i a hi => by
    rw [List.getElem?_append] at hi
    split at hi
    · rename_i hlt; exact .inl ⟨hlt, hi⟩
    · rw [List.getElem?_replicate] at hi
      split at hi
      · simp at hi; exact .inr ⟨by omega, hi.symm⟩
      · cases hi
  refine ⟨by simp [h.len], fun i a hi => ?_, fun i j a b hij h1 h2 => ?_, fun i k h1 h2 => ?_⟩
  · rcases key i a hi with ⟨_, h1⟩ | ⟨_, h1⟩
    · have := h.low i a h1; omega
    · omega
  · rcases key i a h1 with ⟨g1, g2⟩ | ⟨g1, g2⟩ <;> rcases key j b h2 with ⟨g3, g4⟩ | ⟨g3, g4⟩
    · exact h.mono i j a b hij g2 g4
    · have := h.low i a g2; omega
    · omega
    · omega
  · rw [List.append_assoc, List.getElem?_append] at h1
    split at h1
    · rename_i hlt
      obtain ⟨e, b, hb, h0, hj⟩ := h.new i k h1 h2
      have hiv : i < v.length := by rw [h.len]; exact hlt
      refine ⟨e, b, by rw [List.getElem?_append_left hiv]; exact hb, h0, fun j a hji ha => ?_⟩
      rcases key j a ha with ⟨g1, g2⟩ | ⟨g1, g2⟩
      · exact hj j a hji g2
      · omega
    · rename_i hge
      cases hd : i - y.length with
      | zero =>
        have ei : i = v.length := by rw [h.len]; omega
        rw [hd] at h1
        simp at h1
        refine ⟨h1.symm, (z : Int) + 1, ?_, by omega, fun j a hji ha => ?_⟩
        · rw [ei, List.getElem?_append_right (Nat.le_refl _)]
          simp
        · rcases key j a ha with ⟨g1, g2⟩ | ⟨g1, g2⟩
          · have := h.low j a g2; omega
          · omega
      | succ m =>
        rw [hd] at h1
        simp at h1
        have := hu k (List.mem_of_getElem? h1)
        omega

/-- What is known of a trail that was begun level by level. -/
structure Told (vars : Int) (xss : List (List Int)) (t y v : List Int) (z : Nat) (a : Int) : Prop where
  lits : Lits vars t
  hist : Hist xss t y
  lev : Lev y v z
  at_ : a = -1 ∨ 0 ≤ a
  fals : 0 ≤ a → ∃ c, xss[a.toNat]? = some c ∧ c ∈ xss ∧ ∀ l ∈ c, -l ∈ t
theorem fals_of {xss : List (List Int)} {t c : List Int} (hz : ∀ c ∈ xss, (0 : Int) ∉ c) (hc : c ∈ xss) (h : falB t 0 c = true) : ∀ l ∈ c, -l ∈ t :=
  fun l hl => falB_iff.1 h l hl (fun e => hz c hc (e ▸ hl))
theorem lvlF_told {vars : Int} {xss : List (List Int)} (h0 : 0 ≤ vars) (hc : ∀ c ∈ xss, Lits vars c) : ∀ (q t y v : List Int) (z : Nat) (a : Int), (∀ l ∈ q, l ≠ 0 ∧ -vars ≤ l ∧ l ≤ vars) → Told vars xss t y v z a →
    Told vars xss (lvlF vars xss q t y v z a).1 (lvlF vars xss q t y v z a).2.1 (lvlF vars xss q t y v z a).2.2.1 (lvlF vars xss q t y v z a).2.2.2.1 (lvlF vars xss q t y v z a).2.2.2.2
  | [], t, y, v, z, a, _, h => h
  | l :: r, t, y, v, z, a, hq, h => by
    rw [lvlF]
    by_cases h1 : 0 ≤ a
    · rw [if_pos h1]; exact h
    · rw [if_neg h1]
      cases hh : (hasB t l || hasB t (-l))
      · simp only [Bool.false_eq_true, if_false]
        simp at hh
        have hz : ∀ c ∈ xss, (0 : Int) ∉ c := fun c hc' => (hc c hc').cls.1
        have g1 : l ∉ t := hasB_false.1 hh.1
        have g2 : -l ∉ t := hasB_false.1 hh.2
        have hl0 := hq l (by simp)
        have hL : Lits vars (t ++ [l]) := by
          refine ⟨fun x hx => ?_, List.pairwise_append.2 ⟨h.lits.2, by simp, fun x hx y hy => ?_⟩⟩
          · rcases List.mem_append.1 hx with hx | hx
            · exact h.lits.1 x hx
            · simp at hx; subst hx; exact ⟨hl0.1, by omega⟩
          · simp at hy
            subst hy
            intro e
            rcases Int.natAbs_eq_natAbs_iff.1 e with e | e
            · exact g1 (e ▸ hx)
            · exact g2 (e ▸ hx)
        have ok := runF_ok h0 hc (vars.toNat + 1) (t ++ [l]) (y ++ [-1]) hL (by simp; omega)
        obtain ⟨i1, s, u, i2, i3, i4⟩ := runF_hist (xss := xss) (vars.toNat + 1) (t ++ [l]) (y ++ [-1]) (hist_snoc h.hist fun hk => by omega)
        have hlen : (runF xss (vars.toNat + 1) (t ++ [l]) (y ++ [-1])).1.length - v.length = u.length + 1 := by
          rw [← i1.1, i3, h.lev.len]; simp <;> omega
        rw [hlen]
        refine lvlF_told h0 hc r _ _ _ _ _ (fun x hx => hq x (by simp [hx])) ⟨ok.lits, i1, by rw [i3]; exact lev_more h.lev i4, ok.at_, fun ha => ?_⟩
        obtain ⟨c, c1, c2⟩ := ok.fals ha
        exact ⟨c, c1, List.mem_of_getElem? c1, fals_of hz (List.mem_of_getElem? c1) c2⟩
      · simp only [if_true]
        exact lvlF_told h0 hc r t y v z a (fun x hx => hq x (by simp [hx])) h
theorem startF_told {vars : Int} {xss : List (List Int)} {q : List Int} (h0 : 0 ≤ vars) (hc : ∀ c ∈ xss, Lits vars c) (hq : ∀ l ∈ q, l ≠ 0 ∧ -vars ≤ l ∧ l ≤ vars) :
    Told vars xss (startF vars xss q).1 (startF vars xss q).2.1 (startF vars xss q).2.2.1 (startF vars xss q).2.2.2.1 (startF vars xss q).2.2.2.2 := by
  have hz : ∀ c ∈ xss, (0 : Int) ∉ c := fun c hc' => (hc c hc').cls.1
  have ok := runF_ok h0 hc (vars.toNat + 1) [] [] ⟨by simp, by simp⟩ (by simp; omega)
  obtain ⟨i1, s, u, i2, i3, i4⟩ := runF_hist (xss := xss) (vars.toNat + 1) [] [] ⟨rfl, by simp⟩
  have hlen : (runF xss (vars.toNat + 1) [] []).1.length = u.length := by rw [← i1.1, i3]; simp
  unfold startF
  refine lvlF_told h0 hc q _ _ _ _ _ hq ⟨ok.lits, i1, by rw [hlen, i3]; simpa using lev_start i4, ok.at_, fun ha => ?_⟩
  obtain ⟨c, c1, c2⟩ := ok.fals ha
  exact ⟨c, c1, List.mem_of_getElem? c1, fals_of hz (List.mem_of_getElem? c1) c2⟩
end Go.Proofs.YtlfgcblijfflfaaGreat
