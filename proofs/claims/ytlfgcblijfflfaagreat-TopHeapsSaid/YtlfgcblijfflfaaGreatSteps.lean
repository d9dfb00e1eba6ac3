/- A slice of steps (structs of 9 cells, of which the first two are read), read; no program in sight. -/
import Derived.Test.YtlfgcblijfflfaaGreatOpen
import Derived.Deep.Strs
namespace Go.Proofs.YtlfgcblijfflfaaGreat
open Go.ChangeShapes Go.WideShapes Go.ChangeAt Go.RowKit Go.Deep Go.Joins

/-- The step at block b, place o: its kind, its literals, and seven cells more. -/
def StepAt (w : World) (b o : Nat) (r : Int × List Int) : Prop :=
  ∃ (X : Option Addr) (nx cx : Nat) (X2 : Option Addr) (n2 c2 : Nat) (i3 i4 i5 : Int) (X6 : Option Addr) (n6 c6 : Nat) (i7 i8 : Int), w.cell? ⟨b, o, none⟩ = some (.int .i64 r.1) ∧ w.cell? ⟨b, o + 1, none⟩ = some (.slice X nx cx) ∧ w.cell? ⟨b, o + 2, none⟩ = some (.slice X2 n2 c2) ∧ w.cell? ⟨b, o + 3, none⟩ = some (.int .i64 i3) ∧ w.cell? ⟨b, o + 4, none⟩ = some (.int .i64 i4) ∧ w.cell? ⟨b, o + 5, none⟩ = some (.int .i64 i5) ∧ w.cell? ⟨b, o + 6, none⟩ = some (.slice X6 n6 c6) ∧ w.cell? ⟨b, o + 7, none⟩ = some (.int .i64 i7) ∧ w.cell? ⟨b, o + 8, none⟩ = some (.int .i64 i8) ∧ Ints w X nx cx r.2
theorem StepAt.keep {w w' : World} {b o : Nat} {r : Int × List Int} (h : StepAt w b o r) (hb : Below w.heap.size w w') : StepAt w' b o r := by
  obtain ⟨X, nx, cx, X2, n2, c2, i3, i4, i5, X6, n6, c6, i7, i8, h0, h1, h2, h3, h4, h5, h6, h7, h8, hi⟩ := h
  exact ⟨X, nx, cx, X2, n2, c2, i3, i4, i5, X6, n6, c6, i7, i8, keepBox hb h0, keepBox hb h1, keepBox hb h2, keepBox hb h3, keepBox hb h4, keepBox hb h5, keepBox hb h6, keepBox hb h7, keepBox hb h8, hi.keep hb⟩
/-- The slice '.slice A n c' reads as the steps rs. -/
structure Steps (w : World) (A : Option Addr) (n c : Nat) (rs : List (Int × List Int)) : Prop where
  len : rs.length = n
  le : n ≤ c
  cap : c ≤ maxLen
  at_ : 0 < n → ∃ b off, A = some ⟨b, off, none⟩ ∧ b < w.heap.size ∧ ∀ k r, rs[k]? = some r → StepAt w b (off + k * 9) r
  wf : ∀ r ∈ rs, I64 r.1
theorem Steps.keep {w w' : World} {A : Option Addr} {n c : Nat} {rs : List (Int × List Int)} (h : Steps w A n c rs) (hb : Below w.heap.size w w') : Steps w' A n c rs :=
  ⟨h.len, h.le, h.cap, fun hn => by
    obtain ⟨b, off, e, hlt, hc⟩ := h.at_ hn
    exact ⟨b, off, e, Nat.lt_of_lt_of_le hlt hb.size, fun k r hk => (hc k r hk).keep hb⟩, h.wf⟩
theorem Steps.bd {w : World} {A : Option Addr} {n c : Nat} {rs : List (Int × List Int)} (h : Steps w A n c rs) : n ≤ c ∧ c ≤ 9223372036854775807 := by
  have h1 := h.le
  have h2 := h.cap
  unfold maxLen at h2
  omega
theorem Steps.round {w : World} {A : Option Addr} {n c : Nat} {rs : List (Int × List Int)} (h : Steps w A n c rs) {k : Nat} (hk : k < n) :
    ∃ b off kd X nx cx xs X2 n2 c2 i3 i4 i5 X6 n6 c6 i7 i8, A = some ⟨b, off, none⟩ ∧ b < w.heap.size ∧ w.cell? ⟨b, off + k * 9, none⟩ = some (.int .i64 kd) ∧ w.cell? ⟨b, off + k * 9 + 1, none⟩ = some (.slice X nx cx) ∧ w.cell? ⟨b, off + k * 9 + 2, none⟩ = some (.slice X2 n2 c2) ∧ w.cell? ⟨b, off + k * 9 + 3, none⟩ = some (.int .i64 i3) ∧ w.cell? ⟨b, off + k * 9 + 4, none⟩ = some (.int .i64 i4) ∧ w.cell? ⟨b, off + k * 9 + 5, none⟩ = some (.int .i64 i5) ∧ w.cell? ⟨b, off + k * 9 + 6, none⟩ = some (.slice X6 n6 c6) ∧ w.cell? ⟨b, off + k * 9 + 7, none⟩ = some (.int .i64 i7) ∧ w.cell? ⟨b, off + k * 9 + 8, none⟩ = some (.int .i64 i8) ∧ I64 kd ∧ Ints w X nx cx xs ∧ Hid (rs[k]? = some (kd, xs)) := by
  obtain ⟨b, off, e, hlt, hc⟩ := h.at_ (by omega)
  have hl : k < rs.length := by rw [h.len]; exact hk
  have hr := List.getElem?_eq_getElem hl
  obtain ⟨X, nx, cx, X2, n2, c2, i3, i4, i5, X6, n6, c6, i7, i8, h0, h1, h2, h3, h4, h5, h6, h7, h8, hi⟩ := hc k _ hr
  exact ⟨b, off, _, X, nx, cx, _, X2, n2, c2, i3, i4, i5, X6, n6, c6, i7, i8, e, hlt, h0, h1, h2, h3, h4, h5, h6, h7, h8, h.wf _ (List.mem_of_getElem? hr), hi, hr⟩

section
variable {H : Type} {enc : TypeId × Value → H} {P : Program} {w : World} {base : Nat} {held : Bool}
theorem slice_form {t e : TypeId} {fuel : Nat} {cs : List Value} {x : DataW H × List MemPlace} (ht : P.underlying t = some (.slice e)) (h : DataW.trod enc P w base (fun _ => true) held fuel t cs = some x) : ∃ A n c, cs = [.slice A n c] := by
  rcases open_slice ht h with ⟨hcs, _⟩ | ⟨a, len, cap, m, n, D, Pl, hcs, _⟩
  · exact ⟨none, 0, 0, hcs⟩
  · exact ⟨some a, len, cap, hcs⟩
theorem rd_steps {t e ti tl tn tq ta tr : TypeId} {f0 f1 f2 f3 g0 g1 g2 g3 k0 k1 k2 : Field} {fuel : Nat} {v : Value} {x : DataW H × List MemPlace} (ht : P.underlying t = some (.slice e)) (he : P.underlying e = some (.struct #[f0, f1, f2, f3])) (ce : P.cellsOf e = 9)
    (hi : P.underlying ti = some (.int .i64)) (hl : P.underlying tl = some (.slice ti)) (ci : P.cellsOf ti = 1) (cl : P.cellsOf tl = 1) (t0 : f0.type = ti) (t1 : f1.type = tl) (o0 : f0.offset = 0) (o1 : f1.offset = 1)
    (t2 : f2.type = tn) (o2 : f2.offset = 2) (hn : P.underlying tn = some (.slice tq)) (cn : P.cellsOf tn = 1)
    (t3 : f3.type = ta) (o3 : f3.offset = 3) (ha : P.underlying ta = some (.struct #[g0, g1, g2, g3])) (ca : P.cellsOf ta = 6) (tg0 : g0.type = ti) (tg1 : g1.type = ti) (tg2 : g2.type = ti) (tg3 : g3.type = tr) (og0 : g0.offset = 0) (og1 : g1.offset = 1) (og2 : g2.offset = 2) (og3 : g3.offset = 3)
    (hr : P.underlying tr = some (.struct #[k0, k1, k2])) (cr : P.cellsOf tr = 3) (tk0 : k0.type = tl) (tk1 : k1.type = ti) (tk2 : k2.type = ti) (ok0 : k0.offset = 0) (ok1 : k1.offset = 1) (ok2 : k2.offset = 2)
    (h : DataW.trod enc P w base (fun _ => true) held fuel t [v] = some x) : ∃ A n c rs, v = .slice A n c ∧ Steps w A n c rs := by
  rcases open_slice ht h with ⟨hcs, _⟩ | ⟨a, len, cap, m, n, D, Pl, hcs, hb, hle, hm, hmm, _, hx⟩
  · simp at hcs
    exact ⟨none, 0, 0, [], hcs, rfl, Nat.le_refl _, Nat.zero_le _, fun h => by omega, by simp⟩
  · simp at hcs hmm
    subst hmm
    have each : ∀ i, i < m → ∃ r : Int × List Int, ∃ (X : Option Addr) (nx cx : Nat) (X2 : Option Addr) (n2 c2 : Nat) (i3 i4 i5 : Int) (X6 : Option Addr) (n6 c6 : Nat) (i7 i8 : Int), w.cell? (a.add (i * 9)) = some (.int .i64 r.1) ∧ w.cell? (a.add (i * 9 + 1)) = some (.slice X nx cx) ∧ w.cell? (a.add (i * 9 + 2)) = some (.slice X2 n2 c2) ∧ w.cell? (a.add (i * 9 + 3)) = some (.int .i64 i3) ∧ w.cell? (a.add (i * 9 + 4)) = some (.int .i64 i4) ∧ w.cell? (a.add (i * 9 + 5)) = some (.int .i64 i5) ∧ w.cell? (a.add (i * 9 + 6)) = some (.slice X6 n6 c6) ∧ w.cell? (a.add (i * 9 + 7)) = some (.int .i64 i7) ∧ w.cell? (a.add (i * 9 + 8)) = some (.int .i64 i8) ∧ Ints w X nx cx r.2 ∧ I64 r.1 := by
      intro i hi'
      obtain ⟨cs', h1, h2⟩ := hx i hi'
      rw [ce] at h1
      obtain ⟨_, hlen, hcell⟩ := World.cells?_some h1
      obtain ⟨ys, q, _, _, _, hylen, hf⟩ := DataW.trod_struct he h2
      have G0 := hf 0 f0 rfl
      have G1 := hf 1 f1 rfl
      have G2 := hf 2 f2 rfl
      have G3 := hf 3 f3 rfl
      match cs', hlen with
      | [v0, v1, v2, v3, v4, v5, v6, v7, v8], _ =>
        have e0 := hcell 0 (by omega)
        have e1 := hcell 1 (by omega)
        have e2 := hcell 2 (by omega)
        have e3 := hcell 3 (by omega)
        have e4 := hcell 4 (by omega)
        have e5 := hcell 5 (by omega)
        have e6 := hcell 6 (by omega)
        have e7 := hcell 7 (by omega)
        have e8 := hcell 8 (by omega)
        rw [add_add] at e0 e1 e2 e3 e4 e5 e6 e7 e8
        rw [t0, o0, ci] at G0
        rw [t1, o1, cl] at G1
        rw [t2, o2, cn] at G2
        rw [t3, o3, ca] at G3
        match ys, hylen with
        | [y0, y1, y2, y3], _ =>
          simp only [List.getElem?_cons_zero, List.getElem?_cons_succ] at G0 G1 G2 G3
          obtain ⟨z0, E0, _, W0⟩ := DataW.trod_int hi G0
          obtain ⟨X, nx, cx, xs, E1, hI⟩ := rd_ints hl hi ci G1
          obtain ⟨X2, n2, c2, E2⟩ := slice_form hn G2
          obtain ⟨zs, q2, _, _, _, hzlen, hg⟩ := DataW.trod_struct ha G3
          have M0 := hg 0 g0 rfl
          have M1 := hg 1 g1 rfl
          have M2 := hg 2 g2 rfl
          have M3 := hg 3 g3 rfl
          rw [tg0, og0, ci] at M0
          rw [tg1, og1, ci] at M1
          rw [tg2, og2, ci] at M2
          rw [tg3, og3, cr] at M3
          match zs, hzlen with
          | [x0, x1, x2, x3], _ =>
            simp only [List.getElem?_cons_zero, List.getElem?_cons_succ] at M0 M1 M2 M3
            obtain ⟨i3, E3, _, _⟩ := DataW.trod_int hi M0
            obtain ⟨i4, E4, _, _⟩ := DataW.trod_int hi M1
            obtain ⟨i5, E5, _, _⟩ := DataW.trod_int hi M2
            obtain ⟨rs, q3, _, _, _, hrlen, hk⟩ := DataW.trod_struct hr M3
            have N0 := hk 0 k0 rfl
            have N1 := hk 1 k1 rfl
            have N2 := hk 2 k2 rfl
            rw [tk0, ok0, cl] at N0
            rw [tk1, ok1, ci] at N1
            rw [tk2, ok2, ci] at N2
            match rs, hrlen with
            | [p0, p1, p2], _ =>
              simp only [List.getElem?_cons_zero, List.getElem?_cons_succ] at N0 N1 N2
              obtain ⟨X6, n6, c6, E6⟩ := slice_form hl N0
              obtain ⟨i7, E7, _, _⟩ := DataW.trod_int hi N1
              obtain ⟨i8, E8, _, _⟩ := DataW.trod_int hi N2
              simp at E0 E1 E2 E3 E4 E5 E6 E7 E8
              subst E0 E1 E2 E3 E4 E5 E6 E7 E8
              exact ⟨(z0, xs), X, nx, cx, X2, n2, c2, i3, i4, i5, X6, n6, c6, i7, i8, by simpa using e0, by simpa using e1, by simpa using e2, by simpa using e3, by simpa using e4, by simpa using e5, by simpa using e6, by simpa using e7, by simpa using e8, hI, i64_wf W0⟩
    obtain ⟨Y, hY⟩ := choose_lt each
    refine ⟨some a, len, m, (List.range len).map Y, hcs, by simp, hle, hm, fun hn => ?_, fun r hr => ?_⟩
    · obtain ⟨b, off, spot⟩ := a
      obtain ⟨X, nx, h0⟩ := (hY 0 (by omega))
      obtain ⟨cx, X2, n2, c2, i3, i4, i5, X6, n6, c6, i7, i8, h0, _⟩ := h0
      have h1 := cell_lt h0
      simp [Addr.add] at h1
      obtain ⟨h1, rfl⟩ := h1
      refine ⟨b, off, rfl, h1, fun k r hk => ?_⟩
      have hk' : k < len := by
        rcases Nat.lt_or_ge k len with hk' | hk'
        · exact hk'
        · rw [List.getElem?_eq_none (by simp; omega)] at hk; cases hk
      simp [hk'] at hk
      subst hk
      obtain ⟨X, nx, cx, X2, n2, c2, i3, i4, i5, X6, n6, c6, i7, i8, h0, h1, h2, h3, h4, h5, h6, h7, h8, hI, _⟩ := hY k (by omega)
      rw [add_plain] at h0 h1 h2 h3 h4 h5 h6 h7 h8
      exact ⟨X, nx, cx, X2, n2, c2, i3, i4, i5, X6, n6, c6, i7, i8, h0, by simpa [Nat.add_assoc] using h1, by simpa [Nat.add_assoc] using h2, by simpa [Nat.add_assoc] using h3, by simpa [Nat.add_assoc] using h4, by simpa [Nat.add_assoc] using h5, by simpa [Nat.add_assoc] using h6, by simpa [Nat.add_assoc] using h7, by simpa [Nat.add_assoc] using h8, hI⟩
    · obtain ⟨i, hi', rfl⟩ := List.mem_map.1 hr
      have := List.mem_range.1 hi'
      obtain ⟨_, _, _, _, _, _, _, _, _, _, _, _, _, _, _, _, _, _, _, _, _, _, _, _, h5⟩ := hY i (by omega)
      exact h5
end
end Go.Proofs.YtlfgcblijfflfaaGreat
