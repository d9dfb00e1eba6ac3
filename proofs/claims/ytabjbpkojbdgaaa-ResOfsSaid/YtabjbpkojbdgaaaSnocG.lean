/- A row more behind the rows that came in; counts of a learnt clause's literals. -/
import Derived.Test.YtabjbpkojbdgaaaOwn
import Derived.Test.YtabjbpkojbdgaaaGrid
import Derived.Test.YtabjbpkojbdgaaaPlain
namespace Go.Proofs.Ytabjbpkojbdgaaa
open Go.RowKit

theorem own_base {e : TypeId} {w : World} {base n c k : Nat} {A : Option Addr} {xs : List Value} (h : Own e w base A n c xs) (hk : blockOf A = some k) : base ≤ k := by
  rcases h.form with ⟨rfl, _⟩ | ⟨g', _, rfl, hg', _⟩
  · cases hk
  · cases hk; exact hg'
/-- Its cells are slices that read as the rows. -/
def RowsL (w : World) (vs : List Value) (xss : List (List Int)) : Prop := vs.length = xss.length ∧ ∀ (k : Nat) (v : Value), vs[k]? = some v → ∃ (A' : Option Addr) (n' c' : Nat) (xs : List Int), v = Value.slice A' n' c' ∧ xss[k]? = some xs ∧ Ints w A' n' c' xs
theorem rowsL_one {w : World} {vs : List Value} {xss : List (List Int)} (h : RowsL w vs xss) : ∀ u ∈ vs, u.oneCell' = true := fun u hu => by
  obtain ⟨k, hk, rfl⟩ := List.getElem_of_mem hu
  obtain ⟨A', n', c', xs, e1, _⟩ := h.2 k _ (List.getElem?_eq_getElem hk)
  rw [e1]
  rfl
theorem fin_grid {wr W : World} {R C : Option Addr} {n p f cR base : Nat} {e : TypeId} {xss : List (List Int)} {cl : List Int} {vs : List Value} (ha : Ints wr C p f cl) (hb : Below wr.heap.size wr W) (hv : RowsL wr vs xss) (ho : Own e W base R (n + 1) cR (vs ++ [.slice C p f])) : Grid W R (n + 1) cR (xss ++ [cl]) := by
  refine ⟨_, ho.sl, by simp [hv.1], fun k v hk => ?_⟩
  have hl := hv.1
  rcases Nat.lt_or_ge k vs.length with h1 | h1
  · rw [List.getElem?_append_left h1] at hk
    obtain ⟨A', n', c', xs, e1, hx, hi⟩ := hv.2 k v hk
    exact ⟨A', n', c', xs, e1, by rw [List.getElem?_append_left (by omega)]; exact hx, hi.keep hb⟩
  · rw [List.getElem?_append_right h1] at hk
    have hk0 : k - vs.length = 0 := by
      rcases Nat.eq_zero_or_pos (k - vs.length) with h0 | h0
      · exact h0
      · rw [List.getElem?_eq_none (by simp; omega)] at hk; cases hk
    rw [hk0] at hk
    simp at hk
    subst hk
    exact ⟨C, p, f, cl, rfl, by rw [List.getElem?_append_right (by omega), show k - xss.length = 0 by omega]; rfl, ha.keep hb⟩
theorem nodup_counts : ∀ (R : List Int) (u : Int), R.Nodup → u ∈ R → (R.filter (fun x => x == u)).length = 1 ∧ (R.filter (fun x => x != u)).length + 1 = R.length
  | [], _, _, h => by simp at h
  | y :: r, u, hd, hu => by
    obtain ⟨h1, h2⟩ := List.nodup_cons.1 hd
    by_cases e : y = u
    · subst e
      have g1 : r.filter (fun x => x == y) = [] := List.filter_eq_nil_iff.2 fun x hx => by
        have : x ≠ y := fun e => h1 (e ▸ hx)
        simpa using this
      have g2 : r.filter (fun x => x != y) = r := List.filter_eq_self.2 fun x hx => by
        have : x ≠ y := fun e => h1 (e ▸ hx)
        simpa using this
      simp [g1, g2]
    · have hur : u ∈ r := by
        rcases List.mem_cons.1 hu with h | h
        · exact absurd h.symm e
        · exact h
      obtain ⟨i1, i2⟩ := nodup_counts r u h2 hur
      have e1 : (y == u) = false := by simpa using e
      have e2 : (y != u) = true := by simpa using e
      rw [List.filter_cons, e1, List.filter_cons, e2]
      simp only [Bool.false_eq_true, if_false, if_true, List.length_cons]
      omega
/-- How many of a clause's literals are false, and how many are there. -/
theorem back_counts {R s : List Int} {u : Int} (hd : R.Nodup) (hu : u ∈ R) (h1 : u ∈ s) (h2 : -u ∉ s) (h3 : ∀ x ∈ R, x ≠ u → -x ∈ s ∧ x ∉ s) : (R.filter (fun x => hasB s (-x))).length + 1 = R.length ∧ (R.filter (fun x => hasB s x)).length = 1 := by
  obtain ⟨c1, c2⟩ := nodup_counts R u hd hu
  have e1 : R.filter (fun x => hasB s (-x)) = R.filter (fun x => x != u) := List.filter_congr fun x hx => by
    by_cases e : x = u
    · subst e
      rw [hasB_false.2 h2]
      simp
    · rw [hasB_iff.2 (h3 x hx e).1]
      simpa using e
  have e2 : R.filter (fun x => hasB s x) = R.filter (fun x => x == u) := List.filter_congr fun x hx => by
    by_cases e : x = u
    · subst e
      rw [hasB_iff.2 h1]
      simp
    · rw [hasB_false.2 (h3 x hx e).2]
      simpa using e
  rw [e1, e2]
  exact ⟨c2, c1⟩
end Go.Proofs.Ytabjbpkojbdgaaa
