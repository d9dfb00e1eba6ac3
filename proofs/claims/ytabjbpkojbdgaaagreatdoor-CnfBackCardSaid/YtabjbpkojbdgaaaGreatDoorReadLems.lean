/- Reading clauses: the steps of the two readers, plainly. Of no program. -/
import Derived.Test.YtabjbpkojbdgaaaGreatDoorReadPlain
namespace Go.Proofs.YtabjbpkojbdgaaaGreatDoor
set_option linter.unusedSimpArgs false
set_option linter.unusedVariables false

theorem wordsGo_len : ∀ (l cur : List UInt8), (wordsGo cur l).length ≤ l.length + (if cur = [] then 0 else 1)
  | [], cur => by rw [wordsGo]; split <;> simp
  | b :: t, cur => by
    rw [wordsGo]
    split
    · have := wordsGo_len t []
      rw [if_pos rfl] at this
      rw [List.length_append, List.length_cons]
      split <;> simp <;> omega
    · have := wordsGo_len t (cur ++ [b])
      rw [if_neg (by simp)] at this
      rw [List.length_cons]
      split <;> omega
theorem wordsF_len (l : List UInt8) : (wordsF l).length ≤ l.length := by
  have := wordsGo_len l []
  rw [if_pos rfl] at this
  exact this
theorem wordsGo_sizes : ∀ (l cur : List UInt8), ∀ w ∈ wordsGo cur l, w.length ≤ l.length + cur.length
  | [], cur, w, h => by
    rw [wordsGo] at h
    split at h
    · cases h
    · rw [List.mem_singleton.1 h]; omega
  | b :: t, cur, w, h => by
    rw [wordsGo] at h
    rw [List.length_cons]
    split at h
    · rcases List.mem_append.1 h with h | h
      · split at h
        · cases h
        · rw [List.mem_singleton.1 h]; omega
      · have := wordsGo_sizes t [] w h
        simp at this
        omega
    · have := wordsGo_sizes t (cur ++ [b]) w h
      simp at this
      omega
theorem wordsF_sizes {l w : List UInt8} (h : w ∈ wordsF l) : w.length ≤ l.length := by simpa using wordsGo_sizes l [] w h
theorem numF_bd {w : List UInt8} {n : Int} (h : numF w = some n) : -10000000 < n ∧ n < 10000000 := by
  unfold numF at h
  split at h
  · cases h
  · rename_i hc
    split at h
    · rename_i ha
      have hl : (dgsF w).length ≤ 7 := by
        have h7 : ¬ 7 < w.length := fun e => hc (.inl e)
        unfold dgsF
        split
        · rw [List.length_tail]; omega
        · omega
      have := valD_7 ha hl
      injection h with h
      split at h <;> omega
    · cases h
/-- How many numbers stand there. -/
def Rd.mass (r : Rd) : Nat := r.cls.length + r.now.length
theorem Rd.put_mass (r : Rd) (n : Int) : (r.put n).mass ≤ r.mass + 1 := by
  unfold Rd.put Rd.mass
  split <;> simp <;> omega
theorem Rd.puts_mass : ∀ (ns : List Int) (r : Rd), (r.puts ns).mass ≤ r.mass + ns.length
  | [], r => Nat.le_refl _
  | n :: t, r => by
    have h1 := Rd.puts_mass t (r.put n)
    have h2 := r.put_mass n
    rw [Rd.puts, List.length_cons]; omega
theorem Rd.put_head (r : Rd) (n : Int) : (r.put n).head = r.head ∧ (r.put n).vars = r.vars ∧ (r.put n).many = r.many := by
  unfold Rd.put; split <;> exact ⟨rfl, rfl, rfl⟩
theorem Rd.put_zero (r : Rd) : r.put 0 = { r with cls := r.cls ++ [r.now], now := [] } := by unfold Rd.put; rw [if_pos rfl]
theorem Rd.put_lit (r : Rd) {n : Int} (h : n ≠ 0) : r.put n = { r with now := r.now ++ [n] } := by unfold Rd.put; rw [if_neg h]

/-- The lines from byte i on, the open one begun at 'begin'. -/
def restL (l : List UInt8) (begin i : Nat) : List (List UInt8) := if i ≤ l.length then linesGo ((l.take i).drop begin) (l.drop i) else []
theorem restL_start (l : List UInt8) : restL l 0 0 = linesF l := by unfold restL; rw [if_pos (Nat.zero_le _)]; rfl
theorem drop_get {l : List UInt8} {i : Nat} {b : UInt8} (h : l[i]? = some b) : l.drop i = b :: l.drop (i + 1) := by
  obtain ⟨hk, rfl⟩ := List.getElem?_eq_some_iff.1 h
  exact List.drop_eq_getElem_cons hk
theorem restL_byte {l : List UInt8} {begin i : Nat} {b : UInt8} (h : l[i]? = some b) (hb : b ≠ 10) (hi : begin ≤ i) : restL l begin i = restL l begin (i + 1) := by
  have hlt := (List.getElem?_eq_some_iff.1 h).1
  unfold restL
  rw [if_pos (by omega), if_pos (by omega), drop_get h, linesGo, if_neg hb, List.take_add_one, h, List.drop_append_of_le_length (by rw [List.length_take]; omega)]
  rfl
theorem restL_cut {l : List UInt8} {begin i : Nat} (h : l[i]? = some 10) (hi : begin ≤ i) : restL l begin i = ((l.take i).drop begin) :: restL l (i + 1) (i + 1) := by
  have hlt := (List.getElem?_eq_some_iff.1 h).1
  unfold restL
  rw [if_pos (by omega), if_pos (by omega), drop_get h, linesGo, if_pos rfl, List.drop_eq_nil_of_le (as := l.take (i + 1)) (by rw [List.length_take]; omega)]
theorem restL_last {l : List UInt8} {begin : Nat} : restL l begin l.length = ((l.take l.length).drop begin) :: restL l (l.length + 1) (l.length + 1) := by
  unfold restL
  rw [if_pos (Nat.le_refl _), if_neg (by omega), List.drop_length, linesGo]
theorem restL_end (l : List UInt8) (b : Nat) : restL l b (l.length + 1) = [] := by unfold restL; rw [if_neg (by omega)]

/-- One line told at once. -/
theorem lines_wrong {r : Rd} {x : List UInt8} {t : List (List UInt8)} {i : Nat} (h : r.line (wordsF x) = none) : r.lines (x :: t) i = .inr i := by rw [Rd.lines, h]
theorem lines_step {r r' : Rd} {x : List UInt8} {t : List (List UInt8)} {i : Nat} (h : r.line (wordsF x) = some r') : r.lines (x :: t) i = r'.lines t (i + 1) := by rw [Rd.lines, h]
theorem line_skip {r : Rd} {ws : List (List UInt8)} (h : ws = [] ∨ ws.head? = some [99]) : r.line ws = some r := by unfold Rd.line; rw [if_pos h]
theorem line_nums {r : Rd} {ws : List (List UInt8)} (h : ¬ (ws = [] ∨ ws.head? = some [99])) (hd : r.head = true) : r.line ws = (numsF ws).map r.puts := by unfold Rd.line; rw [if_neg h, if_pos hd]
theorem line_bad {r : Rd} {ws : List (List UInt8)} (h : ¬ (ws = [] ∨ ws.head? = some [99])) (hd : r.head = false) (hw : ws.length ≠ 4 ∨ ws.head? ≠ some [112] ∨ ws[1]? ≠ some [99, 110, 102]) : r.line ws = none := by unfold Rd.line; rw [if_neg h, if_neg (by rw [hd]; simp), if_pos hw]
def Rd.told (r : Rd) : Option Int → Option Int → Option Rd
  | some v, some k => some { r with head := true, vars := v, many := k }
  | _, _ => none
theorem line_head {r : Rd} {a b : List UInt8} (hd : r.head = false) : r.line [[112], [99, 110, 102], a, b] = r.told (numF a) (numF b) := by
  unfold Rd.line
  rw [if_neg (by simp), if_neg (by rw [hd]; simp), if_neg (by simp)]
  show (match numsF [a, b] with | some [v, k] => some { r with head := true, vars := v, many := k } | _ => none) = _
  rw [numsF, numsF, numsF]
  cases numF a <;> cases numF b <;> rfl
theorem head_form {ws : List (List UInt8)} (h : ¬ (ws.length ≠ 4 ∨ ws.head? ≠ some [112] ∨ ws[1]? ≠ some [99, 110, 102])) : ∃ a b, ws = [[112], [99, 110, 102], a, b] := by
  match ws, h with
  | [], h => simp at h
  | [x], h => simp at h
  | [x, y], h => simp at h
  | [x, y, z], h => simp at h
  | [x, y, z, u], h =>
    have h1 : x = [112] := Classical.byContradiction fun e => h (Or.inr (Or.inl (by simpa using e)))
    have h2 : y = [99, 110, 102] := Classical.byContradiction fun e => h (Or.inr (Or.inr (by simpa using e)))
    exact ⟨z, u, by rw [h1, h2]⟩
  | x :: y :: z :: u :: v :: t, h => exact absurd (Or.inl (by simp)) h
theorem nums_bad {r : Rd} {ws : List (List UInt8)} {j : Nat} {w : List UInt8} {L : Option Rd} (hw : ws[j]? = some w) (hn : numF w = none) (h : (numsF (ws.drop j)).map r.puts = L) : L = none := by
  obtain ⟨hk, rfl⟩ := List.getElem?_eq_some_iff.1 hw
  rw [List.drop_eq_getElem_cons hk, numsF, hn] at h
  exact h.symm
theorem nums_step {r : Rd} {ws : List (List UInt8)} {j : Nat} {w : List UInt8} {n : Int} {L : Option Rd} (hw : ws[j]? = some w) (hn : numF w = some n) (h : (numsF (ws.drop j)).map r.puts = L) : (numsF (ws.drop (j + 1))).map (r.put n).puts = L := by
  obtain ⟨hk, rfl⟩ := List.getElem?_eq_some_iff.1 hw
  rw [List.drop_eq_getElem_cons hk, numsF, hn] at h
  rw [← h]
  show _ = Option.map r.puts ((numsF (ws.drop (j + 1))).map (n :: ·))
  cases numsF (ws.drop (j + 1)) <;> rfl
theorem nums_end {r : Rd} {ws : List (List UInt8)} {j : Nat} {L : Option Rd} (hj : ws.length ≤ j) (h : (numsF (ws.drop j)).map r.puts = L) : L = some r := by
  rw [List.drop_eq_nil_of_le hj] at h
  exact h.symm
theorem numsF_none {ws : List (List UInt8)} {j : Nat} {w : List UInt8} {acc : List Int} {L : Option (List Int)} (hw : ws[j]? = some w) (hn : numF w = none) (h : (numsF (ws.drop j)).map (acc ++ ·) = L) : L = none := by
  obtain ⟨hk, rfl⟩ := List.getElem?_eq_some_iff.1 hw
  rw [List.drop_eq_getElem_cons hk, numsF, hn] at h
  exact h.symm
theorem numsF_some {ws : List (List UInt8)} {j : Nat} {w : List UInt8} {n : Int} {acc : List Int} {L : Option (List Int)} (hw : ws[j]? = some w) (hn : numF w = some n) (h : (numsF (ws.drop j)).map (acc ++ ·) = L) : (numsF (ws.drop (j + 1))).map ((acc ++ [n]) ++ ·) = L := by
  obtain ⟨hk, rfl⟩ := List.getElem?_eq_some_iff.1 hw
  rw [List.drop_eq_getElem_cons hk, numsF, hn] at h
  rw [← h]
  show _ = Option.map _ ((numsF (ws.drop (j + 1))).map (n :: ·))
  cases numsF (ws.drop (j + 1)) <;> simp
theorem numsF_end {ws : List (List UInt8)} {j : Nat} {acc : List Int} {L : Option (List Int)} (hj : ws.length ≤ j) (h : (numsF (ws.drop j)).map (acc ++ ·) = L) : L = some acc := by
  rw [List.drop_eq_nil_of_le hj] at h
  simpa [numsF] using h.symm
theorem numsF_len : ∀ {ws : List (List UInt8)} {ns : List Int}, numsF ws = some ns → ns.length = ws.length ∧ ∀ n ∈ ns, -10000000 < n ∧ n < 10000000
  | [], ns, h => by
    injection h with h
    subst h
    simp
  | w :: t, ns, h => by
    rw [numsF] at h
    cases hw : numF w with
    | none => rw [hw] at h; cases h
    | some n =>
      rw [hw] at h
      cases ht : numsF t with
      | none => rw [ht] at h; cases h
      | some ms =>
        rw [ht] at h
        injection h with h
        subst h
        have ih := numsF_len ht
        refine ⟨by simp [ih.1], fun m hm => ?_⟩
        rcases List.mem_cons.1 hm with rfl | hm
        · exact numF_bd hw
        · exact ih.2 m hm
theorem linesGo_count : ∀ (l cur : List UInt8), (linesGo cur l).length ≤ l.length + 1
  | [], cur => by simp [linesGo]
  | b :: t, cur => by
    rw [linesGo]
    split
    · have := linesGo_count t []
      simp; omega
    · have := linesGo_count t (cur ++ [b])
      simp; omega
theorem linesGo_sizes : ∀ (l cur : List UInt8), ∀ w ∈ linesGo cur l, w.length ≤ l.length + cur.length
  | [], cur, w, h => by
    rw [linesGo] at h
    rw [List.mem_singleton.1 h]; omega
  | b :: t, cur, w, h => by
    rw [linesGo] at h
    rw [List.length_cons]
    split at h
    · rcases List.mem_cons.1 h with rfl | h
      · omega
      · have := linesGo_sizes t [] w h
        simp at this
        omega
    · have := linesGo_sizes t (cur ++ [b]) w h
      simp at this
      omega

/-- What Read tells of what was read. -/
def outF : Rd ⊕ Nat → Int × List (List Int) × Int × Int
  | .inr i => (0, [], 1, i)
  | .inl r =>
    if r.head = false ∨ r.now ≠ [] ∨ r.many ≠ r.cls.length then (0, [], 9, 0)
    else if (checkC r.vars r.cls).1 ≠ 0 then (0, [], (checkC r.vars r.cls).1, (checkC r.vars r.cls).2)
    else (r.vars, r.cls, 0, 0)
theorem readF_out {l : List UInt8} (h : ¬ 80000 < l.length) : readF l = outF (rd0.lines (linesF l) 0) := by
  unfold readF
  rw [if_neg h]
  cases rd0.lines (linesF l) 0 <;> rfl
theorem readF_long {l : List UInt8} (h : 80000 < l.length) : readF l = (0, [], 2, 0) := by unfold readF; rw [if_pos h]
theorem out_size {hd : Bool} {vs mn : Int} {cls : List (List Int)} {now : List Int} (h : hd = false ∨ now ≠ [] ∨ mn ≠ cls.length) : outF (.inl ⟨hd, vs, mn, cls, now⟩) = (0, [], 9, 0) := by unfold outF; exact if_pos h
theorem out_check {vs mn : Int} {cls : List (List Int)} {r1 r2 : Int} (hm : mn = cls.length) (hc : checkC vs cls = (r1, r2)) (h : r1 ≠ 0) : outF (.inl ⟨true, vs, mn, cls, []⟩) = (0, [], r1, r2) := by
  unfold outF
  simp only []
  rw [if_neg (by simp [hm]), hc, if_pos h]
theorem out_good {vs mn : Int} {cls : List (List Int)} {r2 : Int} (hm : mn = cls.length) (hc : checkC vs cls = (0, r2)) : outF (.inl ⟨true, vs, mn, cls, []⟩) = (vs, cls, 0, 0) := by
  unfold outF
  simp only []
  rw [if_neg (by simp [hm]), hc, if_neg (by simp)]
theorem outF_wrong {R : Rd ⊕ Nat} {r : Int × List (List Int) × Int × Int} {i : Nat} (h : outF R = r) (e : Sum.inr i = R) : r = (0, [], 1, (i : Int)) := by rw [← h, ← e]; rfl
end Go.Proofs.YtabjbpkojbdgaaaGreatDoor
