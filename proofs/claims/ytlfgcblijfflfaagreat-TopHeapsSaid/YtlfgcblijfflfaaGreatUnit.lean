/- Contracts of package unit: a trail in memory; Has, state, Add, New. -/
import Derived.Test.YtlfgcblijfflfaaGreatUnitPlain
import Derived.Test.YtlfgcblijfflfaaGreatMapI
import Derived.Test.YtlfgcblijfflfaaGreatClone
import Derived.Test.YtlfgcblijfflfaaGreatGrid
namespace Go.Proofs.YtlfgcblijfflfaaGreat
open Go.RowKit Go.Maps Go.WideMaps

/-- A trail of the call's own (its block g, all from w's end on): clauses, literals t, reasons y. -/
structure TrSt (w wr : World) (g : Nat) (A : Option Addr) (n c : Nat) (L : Option Addr) (cl : Nat) (Y : Option Addr) (cy gm : Nat) (D : DataW Unit) (t y : List Int) : Prop where
  bl : Below w.heap.size w wr
  lo : w.heap.size ≤ g
  tb : Blk wr g 93 #[.slice A n c, .slice L t.length cl, .slice Y y.length cy, .map (some gm)]
  lits : Own 3 wr w.heap.size L t.length cl (t.map (Value.int .i64))
  why : Own 3 wr w.heap.size Y y.length cy (y.map (Value.int .i64))
  ne : blockOf L = none ∨ blockOf L ≠ blockOf Y
  mp : MapI wr gm t.length D
  has : MapHas D t
  lm : w.heap.size ≤ gm
section
variable {w wr w' : World} {g : Nat} {A : Option Addr} {n c : Nat} {L : Option Addr} {cl : Nat} {Y : Option Addr} {cy gm : Nat} {D : DataW Unit} {t y : List Int}
theorem TrSt.keep (h : TrSt w wr g A n c L cl Y cy gm D t y) (hb : Below wr.heap.size wr w') : TrSt w w' g A n c L cl Y cy gm D t y :=
  ⟨below_next h.bl hb, h.lo, h.tb.keep hb, h.lits.keep hb, h.why.keep hb, h.ne, h.mp.keep hb, h.has, h.lm⟩
end
theorem heap_map_ne {w : World} {b n : Nat} {D : DataW Unit} (h : MapI w b n D) {cur : Array Value} {t : TypeId} {fz : Nat × Nat} : w.heap[b]? ≠ some (.cells cur t fz) := by
  obtain ⟨es, clock, h1, _⟩ := h
  rw [h1]
  intro e
  injection e with e
  cases e
theorem own_map_ne {e : TypeId} {w : World} {base n c gm k : Nat} {A : Option Addr} {xs : List Value} {D : DataW Unit} (h : Own e w base A n c xs) (hm : MapI w gm k D) : blockOf A ≠ some gm := by
  rcases h.form with ⟨rfl, _⟩ | ⟨g, cur, rfl, _, hh, _⟩
  · simp [blockOf]
  · intro e1
    simp [blockOf] at e1
    subst e1
    exact heap_map_ne hm hh
theorem blk_map_ne {w : World} {g gm k : Nat} {t : TypeId} {cs : Array Value} {D : DataW Unit} (h : Blk w g t cs) (hm : MapI w gm k D) : g ≠ gm := by
  intro e1
  subst e1
  exact heap_map_ne hm h

/-- What a look at a trail needs. -/
structure TrLook (wr : World) (g gm k : Nat) (D : DataW Unit) (t : List Int) : Prop where
  c3 : wr.cell? ⟨g, 3, none⟩ = some (.map (some gm))
  mp : MapI wr gm k D
  has : MapHas D t
theorem TrSt.look {w wr : World} {g : Nat} {A : Option Addr} {n c : Nat} {L : Option Addr} {cl : Nat} {Y : Option Addr} {cy gm : Nat} {D : DataW Unit} {t y : List Int} (h : TrSt w wr g A n c L cl Y cy gm D t y) : TrLook wr g gm t.length D t := by
  have := h.tb.cell 3
  exact ⟨by simpa using this, h.mp, h.has⟩
theorem TrLook.drewN {wr : World} {g gm k : Nat} {D : DataW Unit} {t : List Int} (h : TrLook wr g gm k D t) (m : Nat) : TrLook (wr.drewN m) g gm k D t := ⟨keepBox (below_drewN wr m) h.c3, h.mp.keep (below_drewN wr m), h.has⟩

theorem has_trail (wr : World) (g gm k : Nat) (D : DataW Unit) (t : List Int) (h : TrLook wr g gm k D t) (x : Int) (hx : I64 x) (r : Bool) (hr : Hid (hasB t x = r)) :
    Calls Tryz.prog 79 #[.pointer (some ⟨g, 0, none⟩), .int .i64 x] wr (RetQ (.bool r) wr) := by
  have lk := look_has h.mp h.has hx
  rw [hr.out] at lk
  have c3 := h.c3
  go_enter Tryz.func79, Tryz.ntmps79
  go_wp2_with fail
  go_ret
  exact RetQ.of0 rfl

set_option maxHeartbeats 1000000 in
theorem state_any (wr : World) (g gm k : Nat) (D : DataW Unit) (t : List Int) (h : TrLook wr g gm k D t) (B : Option Addr) (m d : Nat) (xs : List Int) (hx : Ints wr B m d xs) (hs : ∀ x ∈ xs, -1000000 ≤ x ∧ x ≤ 1000000) (s1 : Bool) (s2 : Int) (hr : Hid (stF t xs 0 = (s1, s2))) :
    Calls Tryz.prog 101 #[.pointer (some ⟨g, 0, none⟩), .slice B m d] wr (RetQ (.tuple #[.bool s1, .int .i64 s2]) wr) := by
  have hbd := hx.bd
  have hlen := Lib.hid hx.len
  have HS := Lib.hid hs
  have H := Lib.hid h
  have c3 := h.c3
  clear hs h
  go_enter Tryz.func101, Tryz.ntmps101
  go_wp2_with fail
  go_loop [6, 11] (fun o i => ∃ (j : Nat) (ov : Int), j ≤ m ∧ o = .int .i64 ov ∧ i = .int .i64 j ∧ Hid (stF t (xs.drop j) ov = (s1, s2))) (fun _ i => m - (intOf i).toNat)
  case atStart => exact ⟨0, 0, Nat.zero_le _, rfl, rfl, hr.out⟩
  case round =>
    obtain ⟨j, ov, hj, rfl, rfl, hn⟩ := hrel
    by_cases hlt : j < m
    · obtain ⟨b, off, y, rfl, hb, hcell, y1, y2, hy⟩ := hx.round hlt
      have hyb := HS.out y (List.mem_of_getElem? hy.out)
      obtain ⟨q1, hq1⟩ : ∃ q, Hid (hasB t (-y) = q) := ⟨_, rfl⟩
      obtain ⟨q2, hq2⟩ : ∃ q, Hid (hasB t y = q) := ⟨_, rfl⟩
      have lk1 := look_has H.out.mp H.out.has (x := -y) ⟨by omega, by omega⟩
      have lk2 := look_has H.out.mp H.out.has (x := y) ⟨by omega, by omega⟩
      rw [hq1.out] at lk1
      rw [hq2.out] at lk2
      have hn2 : Hid ((if q1 then stF t (xs.drop (j + 1)) ov else if q2 || ov != 0 then (false, 0) else stF t (xs.drop (j + 1)) y) = (s1, s2)) := by
        have := hn.out
        rw [drop_cons_of hy.out, stF, hq1.out, hq2.out] at this
        exact this
      clear hn
      cases q1
      · cases q2
        · by_cases ho : ov = 0
          · subst ho
            go_wp2_with fail
            go_round
            case rel => exact ⟨j + 1, y, by omega, rfl, by go_num, by have := hn2.out; simpa [Hid] using this⟩
            case measure => simp [intOf]; omega
          · have d1 : (ov != 0) = true := by simpa using ho
            have : (false, (0 : Int)) = (s1, s2) := by rw [← hn2.out]; simp [ho]
            cases this
            go_wp2_with fail
            go_ret2
            exact RetQ.of0 rfl
        · have : (false, (0 : Int)) = (s1, s2) := by rw [← hn2.out]; simp
          cases this
          go_wp2_with fail
          go_ret2
          exact RetQ.of0 rfl
      · go_wp2_with fail
        go_round
        case rel => exact ⟨j + 1, ov, by omega, rfl, by go_num, by have := hn2.out; simpa [Hid] using this⟩
        case measure => simp [intOf]; omega
    · have : (ov == 0, ov) = (s1, s2) := by rw [← hn.out, List.drop_of_length_le (by have := hlen.out; omega), stF]
      cases this
      go_wp2_with fail
      go_ret2
      exact RetQ.of0 rfl

end Go.Proofs.YtlfgcblijfflfaaGreat
