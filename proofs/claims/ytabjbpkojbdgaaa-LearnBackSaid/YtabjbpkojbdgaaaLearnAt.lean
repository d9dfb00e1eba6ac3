/- Contracts of package learn (2): a literal's place and level. -/
import Derived.Test.YtabjbpkojbdgaaaLearn
import Derived.Test.YtabjbpkojbdgaaaTaughtDo
import Derived.Test.YtabjbpkojbdgaaaDelGen
namespace Go.Proofs.Ytabjbpkojbdgaaa
open Go.RowKit
set_option linter.unusedSimpArgs false

theorem plc_index (t : List Int) (l : Int) : idxF (fun y => -l == y) t 0 = plcF t l := by
  unfold plcF
  congr 1
  funext x
  rw [Bool.eq_iff_iff, beq_iff_eq, beq_iff_eq]
  exact ⟨Eq.symm, Eq.symm⟩

/-- What a literal's look needs: a run in memory. -/
structure RunLook (W : World) (gr : Nat) (A : Option Addr) (n c : Nat) (t y v : List Int) (z a : Int) : Prop where
  ex : ∃ g L cl Y cy V nv cv, W.cell? ⟨gr, 0, none⟩ = some (.pointer (some ⟨g, 0, none⟩)) ∧ W.cell? ⟨g, 0, none⟩ = some (.slice A n c) ∧ W.cell? ⟨g, 1, none⟩ = some (.slice L t.length cl) ∧ W.cell? ⟨g, 2, none⟩ = some (.slice Y y.length cy) ∧ W.cell? ⟨gr, 1, none⟩ = some (.slice V nv cv) ∧ Ints W L t.length cl t ∧ Ints W Y y.length cy y ∧ Ints W V nv cv v ∧ W.cell? ⟨gr, 2, none⟩ = some (.int .i64 z) ∧ W.cell? ⟨gr, 3, none⟩ = some (.int .i64 a)
  len : v.length = t.length
  leny : y.length = t.length
theorem RunSt.looks {w wr : World} {gr g : Nat} {A : Option Addr} {n c : Nat} {L : Option Addr} {cl : Nat} {Y : Option Addr} {cy gm : Nat} {D : DataW Unit} {t y : List Int} {V : Option Addr} {nv cv : Nat} {v : List Int} {z a : Int} (h : RunSt w wr gr g A n c L cl Y cy gm D t y V nv cv v z a) (ht : ∀ x ∈ t, I64 x) (hy : ∀ x ∈ y, I64 x) (hv : ∀ x ∈ v, I64 x) (hl : v.length = t.length) (hl' : y.length = t.length) : RunLook wr gr A n c t y v z a := by
  have c0 := h.rb.cell 0
  have c1 := h.rb.cell 1
  have c2 := h.rb.cell 2
  have c3 := h.rb.cell 3
  have d0 := h.tr.tb.cell 0
  have d1 := h.tr.tb.cell 1
  have d2 := h.tr.tb.cell 2
  simp at c0 c1 c2 c3 d0 d1 d2
  exact ⟨⟨g, L, cl, Y, cy, V, nv, cv, c0, d0, d1, d2, c1, h.tr.lits.ints ht, h.tr.why.ints hy, h.vo.ints hv, c2, c3⟩, hl, hl'⟩
theorem RunLook.keep {W W' : World} {gr : Nat} {A : Option Addr} {n c : Nat} {t y v : List Int} {z a : Int} (h : RunLook W gr A n c t y v z a) (hb : Below W.heap.size W W') : RunLook W' gr A n c t y v z a := by
  obtain ⟨g, L, cl, Y, cy, V, nv, cv, h1, h2, h3, h4, h5, h6, h7, h8, h9, h10⟩ := h.ex
  exact ⟨⟨g, L, cl, Y, cy, V, nv, cv, keepBox hb h1, keepBox hb h2, keepBox hb h3, keepBox hb h4, keepBox hb h5, h6.keep hb, h7.keep hb, h8.keep hb, keepBox hb h9, keepBox hb h10⟩, h.len, h.leny⟩

set_option maxHeartbeats 1000000 in
theorem at_any (W : World) (gr : Nat) (A : Option Addr) (n c : Nat) (t y v : List Int) (z a : Int) (h : RunLook W gr A n c t y v z a) (l : Int) (hl : -1000000 ≤ l ∧ l ≤ 1000000) (p : Int) (hp : Hid (plcF t l = p)) :
    Calls Try.prog 51 #[.pointer (some ⟨gr, 0, none⟩), .int .i64 l] W (RetQ (.int .i64 p) W) := by
  obtain ⟨g, L, cl, Y, cy, V, nv, cv, h1, h0, h2, hyy, h3, h4, hY, h5, h6, h7⟩ := h.ex
  have H4 := Lib.hid h4
  have g0 := (cell_lt h1).1
  have g1 := (cell_lt h2).1
  have hp2 : Hid (idxF (fun y => -l == y) t 0 = p) := by rw [Hid, plc_index]; exact hp.out
  obtain ⟨l1, l2⟩ := hl
  clear h h4 h5 hY
  go_enter Try.func51, Try.ntmps51
  go_wp2_with fail
  refine (index_ints L t.length cl t (-l) W H4.out p hp2).mono ?_
  rintro e w1 ⟨rfl, m1, rfl⟩
  go_wp2_with fail
  go_ret
  exact ⟨rfl, m1, rfl⟩

set_option maxHeartbeats 1000000 in
theorem level_any (W : World) (gr : Nat) (A : Option Addr) (n c : Nat) (t y v : List Int) (z a : Int) (h : RunLook W gr A n c t y v z a) (l : Int) (hl : -1000000 ≤ l ∧ l ≤ 1000000) (hm : -l ∈ t) (r : Int) (hr : Hid (lvF t v l = r)) :
    Calls Try.prog 47 #[.pointer (some ⟨gr, 0, none⟩), .int .i64 l] W (RetQ (.int .i64 r) W) := by
  have HH := Lib.hid h
  have hlen := h.len
  obtain ⟨g, L, cl, Y, cy, V, nv, cv, h1, h0, h2, hyy, h3, h4, hY, h5, h6, h7⟩ := h.ex
  obtain ⟨p0, p1, p2⟩ := plc_mem hm
  obtain ⟨p, hp⟩ : ∃ p : Nat, plcF t l = (p : Int) := ⟨(plcF t l).toNat, by omega⟩
  have hpn : p < nv := by rw [← h5.len, hlen]; omega
  obtain ⟨b, off, x, hV, hb, hcell, x1, x2, hx⟩ := h5.round hpn
  have hxr : x = r := by
    have := hr.out
    rw [lvF, hp, List.getD_eq_getElem?_getD] at this
    simp only [Int.toNat_natCast] at this
    rw [hx.out] at this
    exact this
  subst hxr
  have HP : Hid (plcF t l = (p : Int)) := hp
  have g0 := (cell_lt h1).1
  have hbd := h5.bd
  cases hV
  have y1 : (0 : Int) ≤ (p : Int) := by omega
  have y2 : (p : Int) < (nv : Int) := by omega
  clear h h4 h5 hp p0 p1 p2 hlen hr hx h2 h0 hyy hY
  go_enter Try.func47, Try.ntmps47
  go_wp2_with fail
  go_quiet ((go_at_call 51; exact RetQ.quiet (at_any _ gr A n c t y v z a (HH.out.keep (below_drewN _ _)) l hl _ HP)))
  go_wp2_with fail
  go_ret
  exact ⟨rfl, nq, rfl⟩

theorem clause1_any (y x : Int) (bx : Nat) (W : World) (hc : W.cell? ⟨bx, 0, none⟩ = some (.int .i64 x)) : Calls Try.prog 74 #[.int .i64 y, .pointer (some ⟨bx, 0, none⟩)] W (RetQ (.bool (y == x)) W) := by
  have hlt := (cell_lt hc).1
  go_enter Try.func74, Try.ntmps74
  go_wp2_with fail
  go_ret
  exact RetQ.of0 rfl
theorem enters_clause1 : Enters Try.prog 74 := enters_of Try.func74 (by kernel_rfl) rfl
theorem enters_clause2 : Enters Try.prog 75 := enters_of Try.func75 (by kernel_rfl) rfl

set_option maxHeartbeats 1000000 in
theorem clause2_any (W : World) (gr bx : Nat) (A : Option Addr) (n c : Nat) (t y v : List Int) (z a : Int) (h : RunLook W gr A n c t y v z a) (hc : W.cell? ⟨bx, 0, none⟩ = some (.pointer (some ⟨gr, 0, none⟩))) (l : Int) (hl : -1000000 ≤ l ∧ l ≤ 1000000) (hm : -l ∈ t) (p : Bool) (hp : Hid ((lvF t v l == 0) = p)) :
    Calls Try.prog 75 #[.int .i64 l, .pointer (some ⟨bx, 0, none⟩)] W (RetQ (.bool p) W) := by
  have hlt := (cell_lt hc).1
  obtain rfl : (lvF t v l == 0) = p := hp.out
  go_enter Try.func75, Try.ntmps75
  go_wp2_with fail
  refine (level_any W gr A n c t y v z a h l hl hm _ rfl).mono ?_
  rintro e w1 ⟨rfl, m1, rfl⟩
  go_wp2_with fail
  go_ret
  exact ⟨rfl, m1, rfl⟩
end Go.Proofs.Ytabjbpkojbdgaaa
