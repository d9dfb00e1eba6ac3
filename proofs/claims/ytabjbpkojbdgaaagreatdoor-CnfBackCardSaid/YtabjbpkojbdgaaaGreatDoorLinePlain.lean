/- Lines of a text: strings.Split at a newline gives the lines that the bytes give. Of no program. -/
import Derived.Lib.SplitLaws
namespace Go.Proofs.YtabjbpkojbdgaaaGreatDoor
set_option linter.unusedSimpArgs false
set_option linter.unusedVariables false
open Go.Lib

/-- The lines of a text; 'cur': the line that is open. -/
def linesGo : List UInt8 → List UInt8 → List (List UInt8)
  | cur, [] => [cur]
  | cur, b :: t => if b = 10 then cur :: linesGo [] t else linesGo (cur ++ [b]) t
def linesF (l : List UInt8) : List (List UInt8) := linesGo [] l

def onHead (cur : List UInt8) : List (List UInt8) → List (List UInt8)
  | [] => []
  | x :: r => (cur ++ x) :: r

theorem lines_split : ∀ (l cur : List UInt8), linesGo cur l = onHead cur (splitK [10] 0 (l.count 10) l)
  | [], cur => by simp [linesGo, splitK, onHead]
  | b :: t, cur => by
    have ih := lines_split t
    by_cases hb : b = 10
    · subst hb
      have hix : index (10 :: t) [10] = 0 := by rw [index]; simp [List.isPrefixOf]
      rw [linesGo, if_pos rfl, ih, List.count_cons_self, splitK, if_neg (by rw [hix]; decide), hix]
      simp only [onHead, Int.toNat_zero, Nat.zero_add, List.length_cons, List.length_nil, List.drop_succ_cons, List.drop_zero, List.take_zero, List.append_nil, Nat.add_zero]
      cases splitK [10] 0 (t.count 10) t <;> simp [onHead]
    · have hp : ([10] : List UInt8).isPrefixOf (b :: t) = false := by simp [List.isPrefixOf, Ne.symm hb]
      have hix : index (b :: t) [10] = if index t [10] == -1 then -1 else index t [10] + 1 := by rw [index, hp]; simp
      rw [linesGo, if_neg hb, ih, List.count_cons_of_ne (by simpa using hb)]
      cases hk : t.count 10 with
      | zero => simp [splitK, onHead]
      | succ k =>
        have hm : index t [10] ≠ -1 := fun e => by
          have := count_miss e
          rw [count_one, hk] at this
          omega
        have hge := index_ge t [10]
        obtain ⟨j, hj⟩ : ∃ j : Nat, index t [10] = j := ⟨(index t [10]).toNat, by omega⟩
        have hix' : index (b :: t) [10] = ((j + 1 : Nat) : Int) := by rw [hix, if_neg (fun e => hm (beq_iff_eq.1 e)), hj]; omega
        rw [splitK, if_neg (by rw [hj]; exact fun e => by have := beq_iff_eq.1 e; omega), splitK, if_neg (by rw [hix']; exact fun e => by have := beq_iff_eq.1 e; omega), hj, hix']
        simp [onHead]

/-- strings.Split at a newline. -/
theorem split_lines (s : ByteArray) : (splitB ⟨#[10]⟩ 0 (countB s ⟨#[10]⟩) s).map (·.data.toList) = linesF s.data.toList := by
  rw [splitB_data]
  have hc : countB s ⟨#[10]⟩ = s.data.toList.count 10 := count_one 10 s.data.toList
  rw [hc]
  unfold linesF
  rw [lines_split]
  show splitK [10] 0 (s.data.toList.count 10) s.data.toList = _
  cases splitK [10] 0 (s.data.toList.count 10) s.data.toList <;> simp [onHead]
end Go.Proofs.YtabjbpkojbdgaaaGreatDoor
