/- The text of clauses is read as them, plainly. Of no program but by what it imports. -/
import Derived.Test.YtabjbpkojbdgaaaGreatDoorReadPlain
import Derived.Test.YtabjbpkojbdgaaaGreatDoorTextPlain
namespace Go.Proofs.YtabjbpkojbdgaaaGreatDoor
set_option linter.unusedSimpArgs false
set_option linter.unusedVariables false

theorem dec_le3 (u : Nat) (h : u < 1000) : (Lib.decDigits u).length ≤ 3 := by
  rw [Lib.decDigits_length]
  by_cases h1 : u < 10
  · rw [Lib.nDigits_small h1]; omega
  · rw [Lib.nDigits_big h1]
    by_cases h2 : u / 10 < 10
    · rw [Lib.nDigits_small h2]; omega
    · rw [Lib.nDigits_big h2, Lib.nDigits_small (by omega)]; omega
theorem itoa_cases (x : Int) : (∃ u : Nat, x = u ∧ Lib.itoa x = Lib.decDigits u) ∨ ∃ u : Nat, 1 ≤ u ∧ x = -(u : Int) ∧ Lib.itoa x = 45 :: Lib.decDigits u := by
  by_cases h : 0 ≤ x
  · obtain ⟨u, rfl⟩ : ∃ u : Nat, x = u := ⟨x.toNat, by omega⟩
    exact .inl ⟨u, rfl, Lib.itoa_nonneg u⟩
  · obtain ⟨u, rfl⟩ : ∃ u : Nat, x = -(u : Int) := ⟨(-x).toNat, by omega⟩
    exact .inr ⟨u, by omega, rfl, Lib.itoa_neg u (by omega)⟩
theorem itoa_le4 (x : Int) (h : x.natAbs < 1000) : (Lib.itoa x).length ≤ 4 := by
  rcases itoa_cases x with ⟨u, rfl, e⟩ | ⟨u, h1, rfl, e⟩
  · rw [e]; have := dec_le3 u (by omega); omega
  · rw [e, List.length_cons]; have := dec_le3 u (by omega); omega
theorem digB_not {b : UInt8} (h : digB b = true) : b ≠ 10 ∧ spB b = false ∧ b ≠ 99 ∧ b ≠ 45 := by
  rw [digB_iff] at h
  have h10 : b ≠ 10 := fun e => by subst e; exact absurd h.1 (by decide)
  have h32 : b ≠ 32 := fun e => by subst e; exact absurd h.1 (by decide)
  have h9 : b ≠ 9 := fun e => by subst e; exact absurd h.1 (by decide)
  have h99 : b ≠ 99 := fun e => by subst e; exact absurd h.2 (by decide)
  have h45 : b ≠ 45 := fun e => by subst e; exact absurd h.1 (by decide)
  exact ⟨h10, by simp [spB, h32, h9], h99, h45⟩
theorem itoa_byte {x : Int} {b : UInt8} (h : b ∈ Lib.itoa x) : b ≠ 10 ∧ spB b = false ∧ b ≠ 99 := by
  have hd : ∀ u : Nat, b ∈ Lib.decDigits u → b ≠ 10 ∧ spB b = false ∧ b ≠ 99 := fun u hb => by
    have := List.all_eq_true.1 (dec_all _ u (Nat.lt_succ_self _)).2.1 b hb
    exact ⟨(digB_not this).1, (digB_not this).2.1, (digB_not this).2.2.1⟩
  rcases itoa_cases x with ⟨u, rfl, e⟩ | ⟨u, h1, rfl, e⟩
  · rw [e] at h; exact hd u h
  · rw [e] at h
    rcases List.mem_cons.1 h with rfl | h
    · decide
    · exact hd u h
theorem itoa_ne (x : Int) : Lib.itoa x ≠ [] := by
  rcases itoa_cases x with ⟨u, rfl, e⟩ | ⟨u, h1, rfl, e⟩
  · rw [e]; exact (dec_all _ u (Nat.lt_succ_self _)).2.2.1
  · rw [e]; simp
theorem itoa_ne99 (x : Int) : Lib.itoa x ≠ [99] := fun e => (itoa_byte (x := x) (b := 99) (by rw [e]; simp)).2.2 rfl

theorem numF_itoa (x : Int) (h : x.natAbs < 1000) : numF (Lib.itoa x) = some x := by
  rcases itoa_cases x with ⟨u, rfl, e⟩ | ⟨u, h1, rfl, e⟩
  · obtain ⟨d1, d2, d3, d4⟩ := dec_all _ u (Nat.lt_succ_self _)
    have hl := dec_le3 u (by omega)
    have h45 : (Lib.decDigits u).head? ≠ some 45 := fun h2 => by
      have := List.all_eq_true.1 d2 45 (List.mem_of_mem_head? h2)
      exact absurd this (by decide)
    have hdg : dgsF (Lib.decDigits u) = Lib.decDigits u := by unfold dgsF; rw [if_neg h45]
    rw [e]
    unfold numF
    rw [hdg, if_neg, if_pos d2, if_neg h45, d1]
    rintro (h3 | h3 | h3 | h3)
    · omega
    · exact d3 h3
    · by_cases h0 : u = 0
      · subst h0; rw [Lib.decDigits_one (by omega)] at h3; simp at h3
      · exact d4 h0 h3.2
    · rw [h3] at h45; exact h45 rfl
  · obtain ⟨d1, d2, d3, d4⟩ := dec_all _ u (Nat.lt_succ_self _)
    have hl := dec_le3 u (by omega)
    have hdg : dgsF (45 :: Lib.decDigits u) = Lib.decDigits u := rfl
    rw [e]
    unfold numF
    rw [hdg, if_neg, if_pos d2, if_pos (List.head?_cons), d1]
    rintro (h3 | h3 | h3 | h3)
    · rw [List.length_cons] at h3; omega
    · exact d3 h3
    · exact d4 (by omega) h3.2
    · have := (List.cons.inj h3).2
      exact d4 (by omega) (by rw [this]; rfl)

theorem linesGo_cut (t : List UInt8) : ∀ (m cur : List UInt8), (∀ b ∈ m, b ≠ 10) → linesGo cur (m ++ 10 :: t) = (cur ++ m) :: linesGo [] t
  | [], cur, _ => by simp [linesGo]
  | b :: m, cur, h => by
    have hb : b ≠ 10 := h b (by simp)
    rw [List.cons_append, linesGo, if_neg hb, linesGo_cut t m (cur ++ [b]) (fun x hx => h x (List.mem_cons_of_mem _ hx)), List.append_assoc]
    rfl
theorem wordsGo_cut (t : List UInt8) : ∀ (m cur : List UInt8), (∀ b ∈ m, spB b = false) → cur ++ m ≠ [] → wordsGo cur (m ++ 32 :: t) = (cur ++ m) :: wordsGo [] t
  | [], cur, _, hn => by
    have hc : cur ≠ [] := by simpa using hn
    rw [List.nil_append, wordsGo, if_pos (by decide), if_neg hc]; simp
  | b :: m, cur, h, hn => by
    have hb : spB b = false := h b (by simp)
    rw [List.cons_append, wordsGo, hb, if_neg (by simp), wordsGo_cut t m (cur ++ [b]) (fun x hx => h x (List.mem_cons_of_mem _ hx)) (by simp), List.append_assoc]
    rfl
theorem wordsGo_last : ∀ (m cur : List UInt8), (∀ b ∈ m, spB b = false) → cur ++ m ≠ [] → wordsGo cur m = [cur ++ m]
  | [], cur, _, hn => by
    have hc : cur ≠ [] := by simpa using hn
    rw [wordsGo, if_neg hc]; simp
  | b :: m, cur, h, hn => by
    have hb : spB b = false := h b (by simp)
    rw [wordsGo, hb, if_neg (by simp), wordsGo_last m (cur ++ [b]) (fun x hx => h x (List.mem_cons_of_mem _ hx)) (by simp), List.append_assoc]
    rfl
/-- A clause's line without its end. -/
def bodyF (l : List Int) : List UInt8 := l.flatMap wordF ++ [48]
theorem words_body : ∀ l : List Int, wordsF (bodyF l) = l.map Lib.itoa ++ [[48]]
  | [] => by decide
  | x :: t => by
    have ih := words_body t
    unfold wordsF bodyF at ih ⊢
    rw [List.map_cons, List.cons_append, ← ih]
    have e : (x :: t).flatMap wordF ++ [48] = Lib.itoa x ++ 32 :: (t.flatMap wordF ++ [48]) := by rw [List.flatMap_cons, wordF]; simp
    rw [e]
    exact wordsGo_cut _ _ [] (fun b hb => (itoa_byte hb).2.1) (by simpa using itoa_ne x)
theorem body_byte {l : List Int} {b : UInt8} (h : b ∈ bodyF l) : b ≠ 10 := by
  unfold bodyF at h
  rcases List.mem_append.1 h with h | h
  · obtain ⟨x, _, hx⟩ := List.mem_flatMap.1 h
    rcases List.mem_append.1 hx with hx | hx
    · exact (itoa_byte hx).1
    · rw [List.mem_singleton.1 hx]; decide
  · rw [List.mem_singleton.1 h]; decide
/-- The head's line without its end. -/
def topF (v : Int) (n : Nat) : List UInt8 := [112] ++ 32 :: ([99, 110, 102] ++ 32 :: (Lib.itoa v ++ 32 :: Lib.itoa n))
theorem words_top (v : Int) (n : Nat) : wordsF (topF v n) = [[112], [99, 110, 102], Lib.itoa v, Lib.itoa n] := by
  unfold wordsF topF
  rw [wordsGo_cut _ [112] [] (by decide) (by simp), wordsGo_cut _ [99, 110, 102] [] (by decide) (by simp), wordsGo_cut _ _ [] (fun b hb => (itoa_byte hb).2.1) (by simpa using itoa_ne v), wordsGo_last _ [] (fun b hb => (itoa_byte hb).2.1) (by simpa using itoa_ne (n : Int))]
  rfl
theorem top_byte {v : Int} {n : Nat} {b : UInt8} (h : b ∈ topF v n) : b ≠ 10 := by
  unfold topF at h
  simp only [List.mem_append, List.mem_cons, List.not_mem_nil, or_false] at h
  rcases h with rfl | rfl | (rfl | rfl | rfl) | rfl | h | rfl | h
  all_goals first | decide | exact (itoa_byte h).1
theorem lines_rows : ∀ xss : List (List Int), linesF (xss.flatMap lineF) = xss.map bodyF ++ [[]]
  | [] => rfl
  | x :: t => by
    have ih := lines_rows t
    unfold linesF at ih ⊢
    have e : (x :: t).flatMap lineF = bodyF x ++ 10 :: t.flatMap lineF := by
      rw [List.flatMap_cons]
      unfold lineF bodyF
      simp
    rw [e, linesGo_cut _ _ _ (fun b hb => body_byte hb), ih]
    rfl
theorem lines_text (v : Int) (xss : List (List Int)) : linesF (textF v xss) = topF v xss.length :: (xss.map bodyF ++ [[]]) := by
  have e : textF v xss = topF v xss.length ++ 10 :: xss.flatMap lineF := by unfold textF headF topF; simp
  rw [e, ← lines_rows]
  exact linesGo_cut _ _ _ (fun b hb => top_byte hb)
theorem nums_body : ∀ l : List Int, (∀ x ∈ l, x.natAbs < 1000) → numsF (l.map Lib.itoa ++ [[48]]) = some (l ++ [0])
  | [], _ => by decide
  | x :: t, h => by
    rw [List.map_cons, List.cons_append, numsF, numF_itoa x (h x (by simp)), nums_body t (fun y hy => h y (List.mem_cons_of_mem _ hy))]
    rfl
theorem puts_body : ∀ (l : List Int) (r : Rd), (∀ x ∈ l, x ≠ 0) → r.puts (l ++ [0]) = { r with cls := r.cls ++ [r.now ++ l], now := [] }
  | [], r, _ => by simp [Rd.puts, Rd.put]
  | x :: t, r, h => by
    have hx : x ≠ 0 := h x (by simp)
    rw [List.cons_append, Rd.puts, puts_body t _ (fun y hy => h y (List.mem_cons_of_mem _ hy)), Rd.put, if_neg hx]
    simp
theorem lines_puts (v n : Int) : ∀ (xss : List (List Int)) (cls : List (List Int)) (i : Nat), (∀ x ∈ xss, ∀ y ∈ x, y ≠ 0 ∧ y.natAbs < 1000) →
    (Rd.mk true v n cls []).lines (xss.map bodyF ++ [[]]) i = .inl ⟨true, v, n, cls ++ xss, []⟩
  | [], cls, i, _ => by
    rw [List.map_nil, List.nil_append, Rd.lines]
    have : Rd.line ⟨true, v, n, cls, []⟩ (wordsF []) = some ⟨true, v, n, cls, []⟩ := by unfold Rd.line; rw [if_pos (Or.inl (by decide))]
    rw [this]
    simp [Rd.lines]
  | x :: t, cls, i, h => by
    have hx := h x (by simp)
    rw [List.map_cons, List.cons_append, Rd.lines]
    have e : Rd.line ⟨true, v, n, cls, []⟩ (wordsF (bodyF x)) = some ⟨true, v, n, cls ++ [x], []⟩ := by
      rw [words_body]
      unfold Rd.line
      rw [if_neg, if_pos rfl, nums_body x (fun y hy => (hx y hy).2)]
      · show some (Rd.puts _ _) = _
        rw [puts_body x _ (fun y hy => (hx y hy).1)]
        rfl
      · rintro (h1 | h1)
        · simp at h1
        · cases x with
          | nil => simp at h1
          | cons y r =>
            rw [List.map_cons, List.cons_append, List.head?_cons] at h1
            exact itoa_ne99 y (Option.some.inj h1)
    rw [e]
    show Rd.lines _ _ _ = _
    rw [lines_puts v n t (cls ++ [x]) (i + 1) (fun y hy => h y (List.mem_cons_of_mem _ hy))]
    simp
theorem text_le {v : Int} {xss : List (List Int)} (h0 : 0 ≤ v) (h1 : v ≤ 120) (h2 : xss.length ≤ 400) (h3 : ∀ x ∈ xss, x.length ≤ 24 ∧ ∀ y ∈ x, y ≠ 0 ∧ y.natAbs < 1000) : (textF v xss).length ≤ 80000 := by
  have hl : ∀ x ∈ xss, (lineF x).length ≤ 122 := fun x hx => by
    have hx' := h3 x hx
    have := flat_le wordF 5 x fun y hy => by
      have := itoa_le4 y (hx'.2 y hy).2
      simp [wordF]; omega
    unfold lineF
    simp only [List.length_append, List.length_cons, List.length_nil]
    omega
  have h4 := flat_le lineF 122 xss hl
  have h5 := itoa_le4 v (by omega)
  have h6 := itoa_le4 (xss.length : Int) (by omega)
  unfold textF headF
  simp only [List.length_append, List.length_cons, List.length_nil]
  omega
/-- THE PLAIN LAW. -/
theorem read_text {v : Int} {xss : List (List Int)} (h : checkC v xss = (0, 0)) : readF (textF v xss) = (v, xss, 0, 0) := by
  obtain ⟨h0, h1, h2, h3⟩ := checkC_text h
  have h3' : ∀ x ∈ xss, x.length ≤ 24 ∧ ∀ y ∈ x, y ≠ 0 ∧ y.natAbs < 1000 := fun x hx => ⟨(h3 x hx).1, fun y hy => by have := (h3 x hx).2.1 y hy; omega⟩
  unfold readF
  rw [if_neg (by have := text_le h0 h1 h2 h3'; omega), lines_text, Rd.lines]
  have e : Rd.line rd0 (wordsF (topF v xss.length)) = some ⟨true, v, xss.length, [], []⟩ := by
    rw [words_top]
    unfold Rd.line
    rw [if_neg (by simp), if_neg (by decide), if_neg (by simp)]
    have : numsF ([[112], [99, 110, 102], Lib.itoa v, Lib.itoa (xss.length : Int)].drop 2) = some [v, (xss.length : Int)] := by
      show numsF [Lib.itoa v, Lib.itoa (xss.length : Int)] = _
      rw [numsF, numF_itoa v (by omega), numsF, numF_itoa _ (by omega)]
      rfl
    rw [this]
    rfl
  rw [e]
  simp only []
  rw [lines_puts v xss.length xss [] (0 + 1) (fun x hx => (h3' x hx).2)]
  simp [h]
end Go.Proofs.YtabjbpkojbdgaaaGreatDoor
