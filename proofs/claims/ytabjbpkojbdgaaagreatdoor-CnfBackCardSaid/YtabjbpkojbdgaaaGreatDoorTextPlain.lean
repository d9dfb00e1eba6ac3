/- The text of clauses, as a list of bytes. -/
import Derived.Test.YtabjbpkojbdgaaaGreatDoorSatPlain
import Derived.Test.YtabjbpkojbdgaaaGreatDoorDigits
namespace Go.Proofs.YtabjbpkojbdgaaaGreatDoor

def wordF (x : Int) : List UInt8 := Lib.itoa x ++ [32]
def lineF (l : List Int) : List UInt8 := l.flatMap wordF ++ [48, 10]
def headF (v : Int) (n : Nat) : List UInt8 := [112, 32, 99, 110, 102, 32] ++ Lib.itoa v ++ [32] ++ Lib.itoa n ++ [10]
def textF (v : Int) (xss : List (List Int)) : List UInt8 := headF v xss.length ++ xss.flatMap lineF

theorem itoa_le (x : Int) (h0 : -1000000 ≤ x) (h1 : x ≤ 1000000) : (Lib.itoa x).length ≤ 21 := Lib.itoa_length_le x (by omega) (by omega)
theorem wordF_le (x : Int) (h0 : -1000000 ≤ x) (h1 : x ≤ 1000000) : (wordF x).length ≤ 22 := by
  have := itoa_le x h0 h1
  simp [wordF]; omega
theorem flat_le {α : Type} (f : α → List UInt8) (k : Nat) : ∀ l : List α, (∀ x ∈ l, (f x).length ≤ k) → (l.flatMap f).length ≤ k * l.length
  | [], _ => by simp
  | x :: t, h => by
    have h1 := flat_le f k t (fun y hy => h y (List.mem_cons_of_mem _ hy))
    have h2 := h x (List.mem_cons_self ..)
    rw [List.flatMap_cons, List.length_append, List.length_cons, Nat.mul_succ]; omega
theorem words_le {v : Int} {l : List Int} (hv : v ≤ 120) (hl : Lits v l) : (l.flatMap wordF).length ≤ 22 * l.length :=
  flat_le _ _ _ fun x hx => by have := hl.1 x hx; exact wordF_le x (by omega) (by omega)
theorem take_flat {α : Type} {f : α → List UInt8} {l : List α} {k : Nat} {x : α} (h : l[k]? = some x) : (l.take (k + 1)).flatMap f = (l.take k).flatMap f ++ f x := by
  rw [List.take_add_one, h]; simp
theorem words_take_le {v : Int} {l : List Int} (hv : v ≤ 120) (hl : Lits v l) (h24 : l.length ≤ 24) (k : Nat) : ((l.take k).flatMap wordF).length ≤ 528 := by
  have h := flat_le wordF 22 (l.take k) fun x hx => by have := hl.1 x (List.mem_of_mem_take hx); exact wordF_le x (by omega) (by omega)
  have : (l.take k).length ≤ 24 := by rw [List.length_take]; omega
  omega
theorem lines_take_le {v : Int} {xss : List (List Int)} (hv : v ≤ 120) (h : ∀ x ∈ xss, x.length ≤ 24 ∧ Lits v x) (hn : xss.length ≤ 400) (k : Nat) : ((xss.take k).flatMap lineF).length ≤ 212000 := by
  have h1 := flat_le lineF 530 (xss.take k) fun x hx => by
    have hx' := h x (List.mem_of_mem_take hx)
    have := words_le hv hx'.2
    simp only [lineF, List.length_append, List.length_cons, List.length_nil]; omega
  have : (xss.take k).length ≤ 400 := by rw [List.length_take]; omega
  omega
theorem headF_le {v : Int} {n : Nat} (h0 : 0 ≤ v) (hv : v ≤ 120) (hn : n ≤ 400) : (headF v n).length ≤ 60 := by
  have h1 := itoa_le v (by omega) (by omega)
  have h2 := itoa_le n (by omega) (by omega)
  simp [headF]; omega
theorem text_take_le {v : Int} {xss : List (List Int)} (h0 : 0 ≤ v) (hv : v ≤ 120) (h : ∀ x ∈ xss, x.length ≤ 24 ∧ Lits v x) (hn : xss.length ≤ 400) (k : Nat) : (headF v xss.length ++ (xss.take k).flatMap lineF).length ≤ 212060 := by
  have h1 := headF_le h0 hv hn
  have h2 := lines_take_le hv h hn k
  rw [List.length_append]; omega
theorem textF_all (v : Int) (xss : List (List Int)) : headF v xss.length ++ (xss.take xss.length).flatMap lineF = textF v xss := by rw [List.take_length]; rfl
theorem checkC_text {v : Int} {xss : List (List Int)} (h : checkC v xss = (0, 0)) : 0 ≤ v ∧ v ≤ 120 ∧ xss.length ≤ 400 ∧ ∀ x ∈ xss, x.length ≤ 24 ∧ Lits v x := by
  unfold checkC at h
  split at h
  · cases h
  · split at h
    · cases h
    · exact ⟨by omega, by omega, by omega, (checkRows_ok v xss 0 (by rw [h])).2⟩
end Go.Proofs.YtabjbpkojbdgaaaGreatDoor
