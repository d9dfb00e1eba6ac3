/- Numerals: the program's word (Atoi, at most 7 bytes, Itoa gives it back) is the reference's Number. Of no program. -/
import Derived.Lib.AtoiAll
import Derived.Lib.ItoaMem
namespace Go.Proofs.YtabjbpkojbdgaaaDoor
set_option linter.unusedSimpArgs false
set_option linter.unusedVariables false

def digB (b : UInt8) : Bool := decide (48 ≤ b.toNat) && decide (b.toNat ≤ 57)
def valD (acc : Nat) : List UInt8 → Nat
  | [] => acc
  | b :: t => valD (acc * 10 + (b.toNat - 48)) t
/-- The digits of a word: what stands behind its sign. -/
def dgsF (w : List UInt8) : List UInt8 := if w.head? = some 45 then w.tail else w
/-- The reference's Number. -/
def numF (w : List UInt8) : Option Int :=
  if 7 < w.length ∨ dgsF w = [] ∨ (1 < (dgsF w).length ∧ (dgsF w).head? = some 48) ∨ w = [45, 48] then none
  else if (dgsF w).all digB then some (if w.head? = some 45 then -((valD 0 (dgsF w) : Nat) : Int) else ((valD 0 (dgsF w) : Nat) : Int)) else none
/-- The program's number. -/
def numP (w : List UInt8) : Option Int :=
  match Lib.atoiAll w with
  | .ok v => if w.length ≤ 7 ∧ Lib.itoa v = w then some v else none
  | _ => none

theorem digB_iff {b : UInt8} : digB b = true ↔ 48 ≤ b.toNat ∧ b.toNat ≤ 57 := by simp [digB]
theorem valD_snoc (b : UInt8) : ∀ (l : List UInt8) (acc : Nat), valD acc (l ++ [b]) = valD acc l * 10 + (b.toNat - 48)
  | [], _ => rfl
  | _ :: t, acc => valD_snoc b t _
theorem valD_ge : ∀ (l : List UInt8) (acc : Nat), acc ≤ valD acc l
  | [], _ => Nat.le_refl _
  | b :: t, acc => Nat.le_trans (by omega) (valD_ge t (acc * 10 + (b.toNat - 48)))
theorem valD_lt : ∀ (l : List UInt8) (acc k : Nat), l.all digB = true → acc < 10 ^ k → valD acc l < 10 ^ (k + l.length)
  | [], acc, k, _, h => h
  | b :: t, acc, k, ha, h => by
    rw [List.all_cons, Bool.and_eq_true, digB_iff] at ha
    have := valD_lt t (acc * 10 + (b.toNat - 48)) (k + 1) ha.2 (by rw [Nat.pow_succ]; omega)
    rw [List.length_cons, show k + (t.length + 1) = k + 1 + t.length by omega]
    exact this
theorem ofNat48 {i : Nat} (h : i < 10) : (UInt8.ofNat (48 + i)).toNat = 48 + i := by
  rw [UInt8.toNat_ofNat']; omega

theorem dec_all : ∀ (m u : Nat), u < m → valD 0 (Lib.decDigits u) = u ∧ (Lib.decDigits u).all digB = true ∧ Lib.decDigits u ≠ [] ∧ (u ≠ 0 → (Lib.decDigits u).head? ≠ some 48)
  | 0, _, h => absurd h (Nat.not_lt_zero _)
  | m + 1, u, h => by
    by_cases hu : u < 10
    · rw [Lib.decDigits_one hu]
      have e := ofNat48 hu
      refine ⟨by show 0 * 10 + ((UInt8.ofNat (48 + u)).toNat - 48) = u; rw [e]; omega, by rw [List.all_cons, digB_iff.2 (by rw [e]; omega)]; rfl, by simp, fun h0 h1 => ?_⟩
      simp only [List.head?_cons, Option.some.injEq] at h1
      have e2 := congrArg UInt8.toNat h1
      rw [e] at e2
      have e3 : (48 : UInt8).toNat = 48 := rfl
      rw [e3] at e2
      exact h0 (by omega)
    · obtain ⟨h1, h2, h3, h4⟩ := dec_all m (u / 10) (by omega)
      have e := ofNat48 (i := u % 10) (by omega)
      rw [show Lib.decDigits u = Lib.decDigits (u / 10) ++ [UInt8.ofNat (48 + u % 10)] by conv => lhs; rw [Lib.decDigits, dif_neg hu]]
      refine ⟨by rw [valD_snoc, h1, e]; omega, by rw [List.all_append, h2, List.all_cons, digB_iff.2 (by rw [e]; omega)]; rfl, by simp, fun _ => ?_⟩
      cases hc : Lib.decDigits (u / 10) with
      | nil => exact absurd hc h3
      | cons a t =>
        have := h4 (by omega)
        rw [hc] at this
        simpa using this

theorem dec_of : ∀ (k : Nat) (d : List UInt8), d.length = k → d.all digB = true → d ≠ [] → (d.head? ≠ some 48 ∨ d.length = 1) → Lib.decDigits (valD 0 d) = d
  | 0, d, h, _, hn, _ => absurd (List.length_eq_zero_iff.1 h) hn
  | k + 1, d, h, ha, hn, hh => by
    obtain ⟨l, b, rfl⟩ : ∃ l b, d = l ++ [b] := ⟨d.dropLast, d.getLast hn, (List.dropLast_concat_getLast hn).symm⟩
    rw [List.all_append, Bool.and_eq_true] at ha
    have hb : 48 ≤ b.toNat ∧ b.toNat ≤ 57 := by have := ha.2; rw [List.all_cons, Bool.and_eq_true, digB_iff] at this; exact this.1
    have eb : UInt8.ofNat (48 + (b.toNat - 48)) = b := by rw [show 48 + (b.toNat - 48) = b.toNat by omega]; exact UInt8.ofNat_toNat
    rw [valD_snoc]
    cases hl : l with
    | nil =>
      show Lib.decDigits (0 * 10 + (b.toNat - 48)) = [b]
      rw [Nat.zero_mul, Nat.zero_add, Lib.decDigits_one (by omega), eb]
    | cons a t =>
      rw [← hl]
      have ll : l.length = k := by simpa using h
      have hne : l.head? ≠ some 48 := by
        rcases hh with hh | hh
        · rw [hl] at hh ⊢; simpa using hh
        · rw [hl] at hh; simp at hh
      have hln : l ≠ [] := by rw [hl]; simp
      have ih := dec_of k l ll ha.1 hln (Or.inl hne)
      have hpos : 1 ≤ valD 0 l := by
        have haa := ha.1
        rw [hl, List.all_cons, Bool.and_eq_true, digB_iff] at haa
        have ha48 : a.toNat ≠ 48 := fun e => by
          apply hne
          rw [hl, List.head?_cons]
          exact congrArg some (UInt8.toNat_inj.1 e)
        rw [hl]
        show 1 ≤ valD (0 * 10 + (a.toNat - 48)) t
        exact Nat.le_trans (by omega) (valD_ge t _)
      have h10 : ¬ valD 0 l * 10 + (b.toNat - 48) < 10 := by omega
      conv => lhs; rw [Lib.decDigits, dif_neg h10]
      rw [show (valD 0 l * 10 + (b.toNat - 48)) / 10 = valD 0 l by omega, show (valD 0 l * 10 + (b.toNat - 48)) % 10 = b.toNat - 48 by omega, ih, eb]

/-- What a word that is no numeral gives. -/
def noN : Lib.NumEnd Nat := Lib.parseMag []
def noI : Lib.NumEnd Int := Lib.atoiAll []
theorem parse_small : ∀ (l : List UInt8) (acc k : Nat), acc < 10 ^ k → k + l.length ≤ 15 → Lib.parseUint10 acc l = if l.all digB then .ok (valD acc l) else noN
  | [], acc, k, _, _ => rfl
  | b :: t, acc, k, h, hk => by
    rw [List.length_cons] at hk
    have hp : (10 : Nat) ^ k ≤ 10 ^ 14 := Nat.pow_le_pow_right (by omega) (by omega)
    have hp' : (10 : Nat) ^ 14 = 100000000000000 := by decide
    unfold Lib.parseUint10
    by_cases hb : 48 ≤ b.toNat ∧ b.toNat ≤ 57
    · rw [if_pos hb, if_neg (by omega), if_neg (by omega), parse_small t _ (k + 1) (by rw [Nat.pow_succ]; omega) (by omega), List.all_cons, digB_iff.2 hb, Bool.true_and]
      rfl
    · have : digB b = false := by cases e : digB b with | false => rfl | true => exact absurd (digB_iff.1 e) hb
      rw [if_neg hb, List.all_cons, this]
      rfl

theorem valD_7 {d : List UInt8} (hd : d.all digB = true) (hl : d.length ≤ 7) : valD 0 d < 10000000 := by
  have h := valD_lt d 0 0 hd (by decide)
  have hp : (10 : Nat) ^ (0 + d.length) ≤ 10 ^ 7 := Nat.pow_le_pow_right (by omega) (by omega)
  have hp' : (10 : Nat) ^ 7 = 10000000 := by decide
  omega

/-- What Atoi says of at most 7 bytes behind a sign. -/
theorem mag_small {d : List UInt8} (hl : d.length ≤ 7) : Lib.parseMag d = if d ≠ [] ∧ d.all digB = true then .ok (valD 0 d) else noN := by
  unfold Lib.parseMag
  by_cases h : d = []
  · rw [if_pos h, if_neg (by simp [h])]; rfl
  · rw [if_neg h, parse_small d 0 0 (by decide) (by omega)]
    by_cases ha : d.all digB = true
    · rw [if_pos ha, if_pos ⟨h, ha⟩]
    · rw [if_neg ha, if_neg (fun x => ha x.2)]

/-- A list of digits is the numeral of its value just if no zero leads. -/
theorem dec_iff {d : List UInt8} (hn : d ≠ []) (ha : d.all digB = true) : Lib.decDigits (valD 0 d) = d ↔ ¬ (1 < d.length ∧ d.head? = some 48) := by
  constructor
  · rintro h ⟨h1, h2⟩
    by_cases h0 : valD 0 d = 0
    · rw [h0, Lib.decDigits_one (by omega)] at h
      rw [← h] at h1
      simp at h1
    · have := (dec_all _ (valD 0 d) (Nat.lt_succ_self _)).2.2.2 h0
      rw [h] at this
      exact this h2
  · intro h
    refine dec_of _ d rfl ha hn ?_
    by_cases h1 : d.length = 1
    · exact Or.inr h1
    · left
      intro h2
      exact h ⟨by have : d.length ≠ 0 := fun e => hn (List.length_eq_zero_iff.1 e); omega, h2⟩

theorem numP_eq (w : List UInt8) : numP w = numF w := by
  unfold numP numF
  by_cases h7 : 7 < w.length
  · rw [if_pos (Or.inl h7)]
    cases Lib.atoiAll w with
    | ok v => simp; intro h; omega
    | _ => rfl
  · cases w with
    | nil => rfl
    | cons c r =>
      have hr7 : r.length ≤ 7 := by rw [List.length_cons] at h7; omega
      have hw7 : (c :: r).length ≤ 7 := by omega
      by_cases h45 : c = 45
      · subst h45
        have e1 : dgsF (45 :: r) = r := rfl
        have e2 : (45 :: r).head? = some 45 := rfl
        have ea : Lib.atoiAll (45 :: r) = if r ≠ [] ∧ r.all digB = true then .ok (-((valD 0 r : Nat) : Int)) else noI := by
          unfold Lib.atoiAll
          simp only [show (45 : UInt8).toNat = 45 from rfl, or_true, if_true, not_true, false_and, if_false, true_and]
          rw [mag_small hr7]
          by_cases hd : r ≠ [] ∧ r.all digB = true
          · have := valD_7 hd.2 hr7
            simp only [if_pos hd]
            rw [if_neg (by omega)]
          · simp only [if_neg hd]; rfl
        rw [ea, e1, e2]
        by_cases hd : r ≠ [] ∧ r.all digB = true
        · simp only [if_pos hd, if_true]
          by_cases hv : valD 0 r = 0
          · -- the value is 0: a zero leads
            have hbad : (1 < r.length ∧ r.head? = some 48) ∨ (45 :: r) = [45, 48] := by
              by_cases hl : ¬ (1 < r.length ∧ r.head? = some 48)
              · have := (dec_iff hd.1 hd.2).2 hl
                rw [hv, Lib.decDigits_one (by omega)] at this
                right
                rw [← this]
                rfl
              · left; exact Decidable.not_not.1 hl
            rw [if_neg, if_pos]
            · rcases hbad with h | h
              · exact Or.inr (Or.inr (Or.inl h))
              · exact Or.inr (Or.inr (Or.inr h))
            · rintro ⟨_, h⟩
              rw [hv] at h
              have : Lib.itoa (-((0 : Nat) : Int)) = [48] := by rw [show (-((0 : Nat) : Int)) = ((0 : Nat) : Int) from rfl, Lib.itoa_nonneg, Lib.decDigits_one (by omega)]; rfl
              rw [this] at h
              have := congrArg List.head? h
              simp at this
          · rw [Lib.itoa_neg _ (by omega)]
            by_cases hl : 1 < r.length ∧ r.head? = some 48
            · rw [if_neg, if_pos (Or.inr (Or.inr (Or.inl hl)))]
              rintro ⟨_, h⟩
              exact (dec_iff hd.1 hd.2).1 (List.cons.inj h).2 hl
            · have hne : (45 :: r) ≠ [45, 48] := fun h => by
                have : r = [48] := (List.cons.inj h).2
                rw [this] at hv
                exact hv rfl
              rw [if_pos ⟨hw7, by rw [(dec_iff hd.1 hd.2).2 hl]⟩, if_neg, if_pos hd.2]
              rintro (h | h | h | h)
              · omega
              · exact hd.1 h
              · exact hl h
              · exact hne h
        · simp only [if_neg hd]
          show (none : Option Int) = _
          by_cases hx : 7 < (45 :: r).length ∨ r = [] ∨ (1 < r.length ∧ r.head? = some 48) ∨ 45 :: r = [45, 48]
          · rw [if_pos hx]
          · rw [if_neg hx, if_neg]
            intro h
            exact hd ⟨fun e => hx (Or.inr (Or.inl e)), h⟩
      · have e2 : ¬ (c :: r).head? = some 45 := by simpa using h45
        have e1 : dgsF (c :: r) = c :: r := by unfold dgsF; rw [if_neg e2]
        have n45 : ¬ c.toNat = 45 := fun e => h45 (UInt8.toNat_inj.1 e)
        have e3 : (c :: r) ≠ [45, 48] := fun h => h45 (List.cons.inj h).1
        rw [e1]
        by_cases h43 : c.toNat = 43
        · have hdg : (c :: r).all digB = false := by rw [List.all_cons]; have : digB c = false := by simp [digB, h43]
                                                     rw [this]; rfl
          have hR : (if 7 < (c :: r).length ∨ c :: r = [] ∨ (1 < (c :: r).length ∧ (c :: r).head? = some 48) ∨ c :: r = [45, 48] then (none : Option Int) else if (c :: r).all digB = true then some (if (c :: r).head? = some 45 then -((valD 0 (c :: r) : Nat) : Int) else ((valD 0 (c :: r) : Nat) : Int)) else none) = none := by
            split
            · rfl
            · rw [if_neg (by rw [hdg]; simp)]
          rw [hR]
          have ea : Lib.atoiAll (c :: r) = if r ≠ [] ∧ r.all digB = true then .ok ((valD 0 r : Nat) : Int) else noI := by
            unfold Lib.atoiAll
            simp only [h43, true_or, if_true]
            rw [mag_small hr7]
            by_cases hd : r ≠ [] ∧ r.all digB = true
            · have := valD_7 hd.2 hr7
              simp only [if_pos hd]
              rw [if_neg (by omega), if_neg (by omega), if_neg (by decide)]
            · simp only [if_neg hd]; rfl
          rw [ea]
          by_cases hd : r ≠ [] ∧ r.all digB = true
          · simp only [if_pos hd]
            rw [if_neg]
            rintro ⟨_, h⟩
            rw [Lib.itoa_nonneg] at h
            have := (dec_all _ (valD 0 r) (Nat.lt_succ_self _)).2.1
            rw [h, hdg] at this
            cases this
          · simp only [if_neg hd]; rfl
        · have ea : Lib.atoiAll (c :: r) = if (c :: r).all digB = true then .ok ((valD 0 (c :: r) : Nat) : Int) else noI := by
            unfold Lib.atoiAll
            simp only [h43, n45, or_self, if_false]
            rw [mag_small hw7]
            by_cases hd : (c :: r).all digB = true
            · have := valD_7 hd hw7
              simp only [if_pos (show (c :: r) ≠ [] ∧ (c :: r).all digB = true from ⟨by simp, hd⟩), if_pos hd]
              rw [if_neg (by omega), if_neg (by simp)]
            · simp only [if_neg (show ¬ ((c :: r) ≠ [] ∧ (c :: r).all digB = true) from fun h => hd h.2), if_neg hd]; rfl
          rw [ea, if_neg e2]
          by_cases hd : (c :: r).all digB = true
          · simp only [if_pos hd]
            rw [Lib.itoa_nonneg]
            by_cases hl : 1 < (c :: r).length ∧ (c :: r).head? = some 48
            · rw [if_neg, if_pos (Or.inr (Or.inr (Or.inl hl)))]
              rintro ⟨_, h⟩
              exact (dec_iff (by simp) hd).1 h hl
            · rw [if_pos ⟨hw7, (dec_iff (by simp) hd).2 hl⟩, if_neg]
              rintro (h | h | h | h)
              · omega
              · cases h
              · exact hl h
              · exact e3 h
          · simp only [if_neg hd]
            show (none : Option Int) = _
            split <;> rfl
end Go.Proofs.YtabjbpkojbdgaaaDoor
