/- A slice of structs of three ints, read; no program in sight. -/
import Derived.Test.YtabjbpkojbdgaaaOpen
import Derived.Deep.Strs
namespace Go.Proofs.Ytabjbpkojbdgaaa
open Go.ChangeShapes Go.WideShapes Go.ChangeAt Go.RowKit Go.Deep Go.Joins

/-- The slice '.slice A n c' reads as the triples rs. -/
structure Trips (w : World) (A : Option Addr) (n c : Nat) (rs : List (Int × Int × Int)) : Prop where
  len : rs.length = n
  le : n ≤ c
  cap : c ≤ maxLen
  at_ : 0 < n → ∃ b off, A = some ⟨b, off, none⟩ ∧ b < w.heap.size ∧ ∀ k r, rs[k]? = some r → w.cell? ⟨b, off + k * 3, none⟩ = some (.int .i64 r.1) ∧ w.cell? ⟨b, off + k * 3 + 1, none⟩ = some (.int .i64 r.2.1) ∧ w.cell? ⟨b, off + k * 3 + 2, none⟩ = some (.int .i64 r.2.2)
  wf : ∀ r ∈ rs, I64 r.1 ∧ I64 r.2.1 ∧ I64 r.2.2
theorem Trips.keep {w w' : World} {A : Option Addr} {n c : Nat} {rs : List (Int × Int × Int)} (h : Trips w A n c rs) (hb : Below w.heap.size w w') : Trips w' A n c rs :=
  ⟨h.len, h.le, h.cap, fun hn => by
    obtain ⟨b, off, e, hlt, hc⟩ := h.at_ hn
    refine ⟨b, off, e, Nat.lt_of_lt_of_le hlt hb.size, fun k r hk => ?_⟩
    obtain ⟨h1, h2, h3⟩ := hc k r hk
    exact ⟨keepBox hb h1, keepBox hb h2, keepBox hb h3⟩, h.wf⟩
theorem Trips.bd {w : World} {A : Option Addr} {n c : Nat} {rs : List (Int × Int × Int)} (h : Trips w A n c rs) : n ≤ c ∧ c ≤ 9223372036854775807 := by
  have h1 := h.le
  have h2 := h.cap
  unfold maxLen at h2
  omega
theorem Trips.round {w : World} {A : Option Addr} {n c : Nat} {rs : List (Int × Int × Int)} (h : Trips w A n c rs) {k : Nat} (hk : k < n) :
    ∃ b off x y z, A = some ⟨b, off, none⟩ ∧ b < w.heap.size ∧ w.cell? ⟨b, off + k * 3, none⟩ = some (.int .i64 x) ∧ w.cell? ⟨b, off + k * 3 + 1, none⟩ = some (.int .i64 y) ∧ w.cell? ⟨b, off + k * 3 + 2, none⟩ = some (.int .i64 z) ∧ I64 x ∧ I64 y ∧ I64 z ∧ Hid (rs[k]? = some (x, y, z)) := by
  obtain ⟨b, off, e, hlt, hc⟩ := h.at_ (by omega)
  have hl : k < rs.length := by rw [h.len]; exact hk
  have hr := List.getElem?_eq_getElem hl
  obtain ⟨h1, h2, h3⟩ := hc k _ hr
  obtain ⟨w1, w2, w3⟩ := h.wf _ (List.mem_of_getElem? hr)
  exact ⟨b, off, _, _, _, e, hlt, h1, h2, h3, w1, w2, w3, hr⟩

section
variable {H : Type} {enc : TypeId × Value → H} {P : Program} {w : World} {base : Nat} {held : Bool}
theorem rd_ress {t e ti : TypeId} {f0 f1 f2 : Field} {fuel : Nat} {v : Value} {x : DataW H × List MemPlace} (ht : P.underlying t = some (.slice e)) (he : P.underlying e = some (.struct #[f0, f1, f2])) (hone : oneCellFields P #[f0, f1, f2] = true) (ce : P.cellsOf e = 3)
    (t0 : f0.type = ti) (t1 : f1.type = ti) (t2 : f2.type = ti) (hi : P.underlying ti = some (.int .i64))
    (h : DataW.trod enc P w base (fun _ => true) held fuel t [v] = some x) : ∃ A n c rs, v = .slice A n c ∧ Trips w A n c rs := by
  rcases open_slice ht h with ⟨hcs, _⟩ | ⟨a, len, cap, m, n, D, Pl, hcs, hb, hl, hm, hmm, _, hx⟩
  · simp at hcs
    exact ⟨none, 0, 0, [], hcs, rfl, Nat.le_refl _, Nat.zero_le _, fun h => by omega, by simp⟩
  · simp at hcs hmm
    subst hmm
    obtain ⟨o0, k0⟩ := hone_of hone 0 f0 rfl
    obtain ⟨o1, k1⟩ := hone_of hone 1 f1 rfl
    obtain ⟨o2, k2⟩ := hone_of hone 2 f2 rfl
    have each : ∀ i, i < m → ∃ r : Int × Int × Int, w.cell? (a.add (i * 3)) = some (.int .i64 r.1) ∧ w.cell? (a.add (i * 3 + 1)) = some (.int .i64 r.2.1) ∧ w.cell? (a.add (i * 3 + 2)) = some (.int .i64 r.2.2) ∧ I64 r.1 ∧ I64 r.2.1 ∧ I64 r.2.2 := by
      intro i hi'
      obtain ⟨cs', h1, h2⟩ := hx i hi'
      rw [ce] at h1
      obtain ⟨_, hlen, hcell⟩ := World.cells?_some h1
      obtain ⟨y0, y1, y2, q, _, _, g0, g1, g2⟩ := trod_struct3 he h2
      match cs', hlen with
      | [v0, v1, v2], _ =>
        have e0 := hcell 0 (by omega)
        have e1 := hcell 1 (by omega)
        have e2 := hcell 2 (by omega)
        rw [add_add] at e0 e1 e2
        simp [o0, k0] at g0
        simp [o1, k1] at g1
        simp [o2, k2] at g2
        rw [t0] at g0
        rw [t1] at g1
        rw [t2] at g2
        obtain ⟨z0, E0, _, W0⟩ := DataW.trod_int hi g0
        obtain ⟨z1, E1, _, W1⟩ := DataW.trod_int hi g1
        obtain ⟨z2, E2, _, W2⟩ := DataW.trod_int hi g2
        simp at E0 E1 E2
        subst E0 E1 E2
        exact ⟨(z0, z1, z2), by simpa using e0, by simpa using e1, by simpa using e2, i64_wf W0, i64_wf W1, i64_wf W2⟩
    obtain ⟨Y, hY⟩ := choose_lt each
    refine ⟨some a, len, m, (List.range len).map Y, hcs, by simp, hl, hm, fun hn => ?_, fun r hr => ?_⟩
    · obtain ⟨b, off, spot⟩ := a
      have h0 := (hY 0 (by omega)).1
      have h1 := cell_lt h0
      simp [Addr.add] at h1
      obtain ⟨h1, rfl⟩ := h1
      refine ⟨b, off, rfl, h1, fun k r hk => ?_⟩
      have hk' : k < len := by
        rcases Nat.lt_or_ge k len with hk' | hk'
        · exact hk'
        · rw [List.getElem?_eq_none (by simp; omega)] at hk; cases hk
      simp [hk'] at hk
      subst hk
      obtain ⟨h2, h3, h4, _⟩ := hY k (by omega)
      rw [add_plain] at h2 h3 h4
      exact ⟨h2, by simpa [Nat.add_assoc] using h3, by simpa [Nat.add_assoc] using h4⟩
    · obtain ⟨i, hi', rfl⟩ := List.mem_map.1 hr
      have := List.mem_range.1 hi'
      obtain ⟨_, _, _, h5, h6, h7⟩ := hY i (by omega)
      exact ⟨h5, h6, h7⟩
end
end Go.Proofs.Ytabjbpkojbdgaaa
