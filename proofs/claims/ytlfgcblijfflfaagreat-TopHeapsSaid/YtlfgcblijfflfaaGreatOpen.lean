/- Arguments as they are read, opened to the words of Base; no program in sight. -/
import Derived.ProofKit
import Derived.OpenShut
import Derived.ChangeOld
import Derived.Below
import Derived.Lib.SmallJoins
import Derived.Deep.Slices
import Derived.Deep.Matrix
import Derived.Test.YtlfgcblijfflfaaGreatBase
namespace Go.Proofs.YtlfgcblijfflfaaGreat
open Go.ChangeShapes Go.WideShapes Go.ChangeAt Go.RowKit Go.Deep Go.Joins

/-- A row of cells that is read at 'a.add i' is a slice in Base's words. -/
theorem sl_of {w : World} {a : Addr} {n c : Nat} {xs : List Value} (hl : xs.length = n) (hle : n ≤ c) (hc : c ≤ maxLen) (h : ∀ i, i < n → w.cell? (a.add i) = xs[i]?) : Sl w (some a) n c xs := by
  refine ⟨hl, hle, hc, fun hn => ?_⟩
  obtain ⟨b, off, spot⟩ := a
  have h0 := h 0 hn
  have hx : xs[0]? = some xs[0] := List.getElem?_eq_getElem (by omega)
  rw [hx] at h0
  have h1 := cell_lt h0
  simp [Addr.add] at h1
  obtain ⟨h1, rfl⟩ := h1
  refine ⟨b, off, rfl, h1, fun k hk => ?_⟩
  have := h k hk
  unfold Addr.add at this
  by_cases hk0 : k = 0
  · subst hk0; simpa using this
  · simpa [hk0] using this

theorem i64_wf {x : Int} (h : (Lit.int .i64 x).wf = true) : I64 x := by
  have := bounds_i64 h
  exact ⟨by omega, by omega⟩

theorem u8_wf {x : Int} (h : (Lit.int .u8 x).wf = true) : 0 ≤ x ∧ x ≤ 255 := by
  have := bounds_u8 h
  exact ⟨by omega, by omega⟩
theorem u16_wf {x : Int} (h : (Lit.int .u16 x).wf = true) : 0 ≤ x ∧ x ≤ 65535 := by
  have := bounds_u16 h
  exact ⟨by omega, by omega⟩

section
variable {H : Type} {enc : TypeId × Value → H} {P : Program} {w : World} {base : Nat} {held : Bool}

theorem rd_ints {t e : TypeId} {fuel : Nat} {v : Value} {x : DataW H × List MemPlace} (ht : P.underlying t = some (.slice e)) (he : P.underlying e = some (.int .i64)) (hc : P.cellsOf e = 1)
    (h : DataW.trod enc P w base (fun _ => true) held fuel t [v] = some x) : ∃ A n c xs, v = .slice A n c ∧ Ints w A n c xs := by
  rcases open_ints ht he hc h with ⟨hcs, _⟩ | ⟨a, l, c, zs, hcs, _, hl, hm, hz, _, hcell, hwz⟩
  · simp at hcs
    exact ⟨none, 0, 0, [], hcs, ⟨⟨rfl, Nat.le_refl _, Nat.zero_le _, fun h => absurd h (by omega)⟩, by simp⟩⟩
  · simp at hcs hz
    refine ⟨some a, l, c, zs.take l, hcs, ⟨sl_of (by simp; omega) hl hm fun i hi => ?_, fun x hx => i64_wf (hwz x (List.mem_of_mem_take hx))⟩⟩
    rw [hcell i (by omega), List.getElem?_map, List.getElem?_take_of_lt hi, List.getD, List.getElem?_eq_getElem (by omega)]
    rfl

theorem rd_u16s {t e : TypeId} {fuel : Nat} {v : Value} {x : DataW H × List MemPlace} (ht : P.underlying t = some (.slice e)) (he : P.underlying e = some (.int .u16)) (hc : P.cellsOf e = 1)
    (h : DataW.trod enc P w base (fun _ => true) held fuel t [v] = some x) : ∃ A n c xs, v = .slice A n c ∧ Smalls .u16 65535 w A n c xs := by
  rcases open_ints ht he hc h with ⟨hcs, _⟩ | ⟨a, l, c, zs, hcs, _, hl, hm, hz, _, hcell, hwz⟩
  · simp at hcs
    exact ⟨none, 0, 0, [], hcs, ⟨⟨rfl, Nat.le_refl _, Nat.zero_le _, fun h => absurd h (by omega)⟩, by simp⟩⟩
  · simp at hcs hz
    refine ⟨some a, l, c, zs.take l, hcs, ⟨sl_of (by simp; omega) hl hm fun i hi => ?_, fun x hx => u16_wf (hwz x (List.mem_of_mem_take hx))⟩⟩
    rw [hcell i (by omega), List.getElem?_map, List.getElem?_take_of_lt hi, List.getD, List.getElem?_eq_getElem (by omega)]
    rfl
theorem rd_u8s {t e : TypeId} {fuel : Nat} {v : Value} {x : DataW H × List MemPlace} (ht : P.underlying t = some (.slice e)) (he : P.underlying e = some (.int .u8)) (hc : P.cellsOf e = 1)
    (h : DataW.trod enc P w base (fun _ => true) held fuel t [v] = some x) : ∃ A n c xs, v = .slice A n c ∧ Smalls .u8 255 w A n c xs := by
  rcases open_ints ht he hc h with ⟨hcs, _⟩ | ⟨a, l, c, zs, hcs, _, hl, hm, hz, _, hcell, hwz⟩
  · simp at hcs
    exact ⟨none, 0, 0, [], hcs, ⟨⟨rfl, Nat.le_refl _, Nat.zero_le _, fun h => absurd h (by omega)⟩, by simp⟩⟩
  · simp at hcs hz
    refine ⟨some a, l, c, zs.take l, hcs, ⟨sl_of (by simp; omega) hl hm fun i hi => ?_, fun x hx => u8_wf (hwz x (List.mem_of_mem_take hx))⟩⟩
    rw [hcell i (by omega), List.getElem?_map, List.getElem?_take_of_lt hi, List.getD, List.getElem?_eq_getElem (by omega)]
    rfl

theorem rd_bools {t e : TypeId} {fuel : Nat} {v : Value} {x : DataW H × List MemPlace} (ht : P.underlying t = some (.slice e)) (he : P.underlying e = some .bool) (hc : P.cellsOf e = 1)
    (h : DataW.trod enc P w base (fun _ => true) held fuel t [v] = some x) : ∃ A n c xs, v = .slice A n c ∧ Bools w A n c xs := by
  rcases open_slice1 ht hc h with ⟨hcs, _⟩ | ⟨a, l, c, m, q, V, D, Pl, hcs, _, hl, hm, hmm, _, hx⟩
  · simp at hcs
    exact ⟨none, 0, 0, [], hcs, ⟨rfl, Nat.le_refl _, Nat.zero_le _, fun h => absurd h (by omega)⟩⟩
  · simp at hcs hmm
    subst hmm
    have hb : ∀ i, i < l → ∃ y : Bool, V i = .bool y := fun i hi => by
      obtain ⟨y, h1, _⟩ := DataW.trod_bool he (hx i (by omega)).2
      exact ⟨y, by simpa using h1⟩
    obtain ⟨Y, hY⟩ := choose_lt hb
    refine ⟨some a, l, m, (List.range l).map Y, hcs, sl_of (by simp) hl hm fun i hi => ?_⟩
    rw [(hx i (by omega)).1, hY i hi]
    simp [hi]

theorem rd_grid {t e q : TypeId} {fuel : Nat} {v : Value} {x : DataW H × List MemPlace} (ht : P.underlying t = some (.slice e)) (he : P.underlying e = some (.slice q)) (hq : P.underlying q = some (.int .i64)) (ce : P.cellsOf e = 1) (cq : P.cellsOf q = 1)
    (h : DataW.trod enc P w base (fun _ => true) held fuel t [v] = some x) : ∃ A n c xss, v = .slice A n c ∧ Grid w A n c xss := by
  rcases open_slice1 ht ce h with ⟨hcs, _⟩ | ⟨a, l, c, m, k, V, D, Pl, hcs, _, hl, hm, hmm, _, hx⟩
  · simp at hcs
    exact ⟨none, 0, 0, [], hcs, ⟨[], ⟨rfl, Nat.le_refl _, Nat.zero_le _, fun h => absurd h (by omega)⟩, rfl, by simp⟩⟩
  · simp at hcs hmm
    subst hmm
    have hb : ∀ i, i < l → ∃ xs : List Int, ∃ A n c, V i = .slice A n c ∧ Ints w A n c xs := fun i hi => by
      obtain ⟨A, n, c, xs, h1, h2⟩ := rd_ints he hq cq (hx i (by omega)).2
      exact ⟨xs, A, n, c, h1, h2⟩
    obtain ⟨Y, hY⟩ := choose_lt hb
    refine ⟨some a, l, m, (List.range l).map Y, hcs, ⟨(List.range l).map V, sl_of (by simp) hl hm (fun i hi => ?_), by simp, fun i u hu => ?_⟩⟩
    · rw [(hx i (by omega)).1]
      simp [hi]
    · have hi : i < l := by
        rcases Nat.lt_or_ge i l with hi | hi
        · exact hi
        · rw [List.getElem?_eq_none (by simp; omega)] at hu; cases hu
      simp [hi] at hu
      subst hu
      obtain ⟨A, n, c, h1, h2⟩ := hY i hi
      exact ⟨A, n, c, Y i, h1, by simp [hi], h2⟩

/-- A struct of an int and a slice of slices of ints, by value (api.Cnf). -/
theorem rd_cnf {r : Reach} {b0 : Nat} {t ti tg e q : TypeId} {f0 f1 : Field} {v : Value} {d : DataW H} {p : List MemPlace} (hs : P.underlying t = some (.struct #[f0, f1])) (hone : oneCellFields P #[f0, f1] = true) (hC : P.cellsOf t = 2)
    (h0 : f0.type = ti) (h1 : f1.type = tg) (hi : P.underlying ti = some (.int .i64)) (ht : P.underlying tg = some (.slice e)) (he : P.underlying e = some (.slice q)) (hq : P.underlying q = some (.int .i64)) (ce : P.cellsOf e = 1) (cq : P.cellsOf q = 1)
    (hv : Value.okWide P w r b0 t v) (h : DataW.Trod enc P w base (fun _ => true) held t v d p) :
    ∃ (vars : Int) (A : Option Addr) (n c : Nat) (xss : List (List Int)), v = .agg #[.int .i64 vars, .slice A n c] ∧ I64 vars ∧ Grid w A n c xss := by
  obtain ⟨c0, c1, y0, y1, m, rfl, _, _, hy0, hy1⟩ := open_agg2 hs hone hC hv h
  rw [h0] at hy0
  rw [h1] at hy1
  obtain ⟨a, e0, _, wa⟩ := DataW.trod_int hi hy0
  obtain ⟨A, n, c, xss, e1, hg⟩ := rd_grid ht he hq ce cq hy1
  simp at e0
  subst e0 e1
  exact ⟨a, A, n, c, xss, rfl, i64_wf wa, hg⟩
end
end Go.Proofs.YtlfgcblijfflfaaGreat
