/- The state of the readers of clauses: the boxes of the results and of what was read; the clauses so far; the open clause. -/
import Derived.Test.YtabjbpkojbdgaaaGreatDoorProg
import Derived.Test.YtabjbpkojbdgaaaGreatDoorGrid
import Derived.Test.YtabjbpkojbdgaaaGreatDoorBoxes
import Derived.Test.YtabjbpkojbdgaaaGreatDoorCutA
namespace Go.Proofs.YtabjbpkojbdgaaaGreatDoor
open Go.RowKit
set_option linter.unusedSimpArgs false
set_option linter.unusedVariables false

theorem below_ownG {e : TypeId} {w1 w2 : World} {B base n c : Nat} {A : Option Addr} {xs : List Value} (h : Own e w1 base A n c xs) (hB : B ≤ base) (hs : B ≤ w1.heap.size) (hg : w1.grownBy w2 (blockOf A)) : Below B w1 w2 :=
  (Below.refl B w1).grown hg hs (fun k hk => by
    rcases h.form with ⟨rfl, _⟩ | ⟨g, cur, rfl, hg', _⟩
    · cases hk
    · cases hk; show B ≤ g; omega)

/-- h: the height below which the clauses stand; the open clause stands above. -/
structure RdSt (w wr : World) (h : Nat) (vars : Int) (O : Option Addr) (k cO : Nat) (done : List (List Int)) (N : Option Addr) (m cN : Nat) (now : List Int) : Prop where
  bl : Below w.heap.size w wr
  rb : Blk wr w.heap.size 24 #[.int .i64 0, .slice none 0 0]
  fb : Blk wr (w.heap.size + 1) 26 #[.int .i64 0, .int .i64 0]
  ob : Blk wr (w.heap.size + 1 + 1) 24 #[.int .i64 vars, .slice O k cO]
  lo : w.heap.size + 3 ≤ h
  hi : h ≤ wr.heap.size
  rows : OwnG 44 3 (cutW wr h) (w.heap.size + 3) w.heap.size O k cO done
  nw : Own 3 wr h N m cN (now.map (Value.int .i64))
  wf : ∀ x ∈ now, I64 x
section
variable {w wr w' : World} {h : Nat} {vars : Int} {O : Option Addr} {k cO : Nat} {done : List (List Int)} {N : Option Addr} {m cN : Nat} {now : List Int}
theorem RdSt.keep (s : RdSt w wr h vars O k cO done N m cN now) (hb : Below wr.heap.size wr w') : RdSt w w' h vars O k cO done N m cN now :=
  ⟨below_next s.bl hb, s.rb.keep hb, s.fb.keep hb, s.ob.keep hb, s.lo, Nat.le_trans s.hi hb.size, s.rows.keep (cutW_keep s.hi (hb.mono s.hi)), s.nw.keep hb, s.wf⟩
theorem RdSt.len (s : RdSt w wr h vars O k cO done N m cN now) : done.length = k ∧ now.length = m := ⟨s.rows.len, by have := s.nw.len; simpa using this⟩
theorem RdSt.grid (s : RdSt w wr h vars O k cO done N m cN now) : Grid wr O k cO done := (s.rows.keep (cutW_below s.hi)).grid
/-- One literal more. -/
theorem RdSt.lit {w6 : World} {N2 : Option Addr} {m2 cN2 : Nat} {x : Int} (s : RdSt w wr h vars O k cO done N m cN now) (hx : I64 x) (ho : Own 3 w6 h N2 m2 cN2 (now.map (Value.int .i64) ++ [Value.int .i64 x])) (hg : wr.grownBy w6 (blockOf N)) : RdSt w w6 h vars O k cO done N2 m2 cN2 (now ++ [x]) := by
  have hB : Below h wr w6 := below_ownG s.nw (Nat.le_refl _) s.hi hg
  have lo := s.lo
  refine ⟨s.bl.trans (hB.mono (by omega)), s.rb.below hB (by omega), s.fb.below hB (by omega), s.ob.below hB (by omega), lo, Nat.le_trans s.hi hB.size, s.rows.keep (cutW_keep s.hi hB), by rw [List.map_append]; exact ho, fun y hy => ?_⟩
  rcases List.mem_append.1 hy with hy | hy
  · exact s.wf y hy
  · rw [List.mem_singleton.1 hy]; exact hx
/-- The open clause is closed. -/
theorem RdSt.shut {w2 : World} {vs : List Value} {O2 : Option Addr} {c2 : Nat} (s : RdSt w wr h vars O k cO done N m cN now) (h1 : Own 44 wr (w.heap.size + 3) O k cO vs) (h2 : RowsIn 3 wr w.heap.size vs done)
    (ho : Own 44 w2 (w.heap.size + 3) O2 (k + 1) c2 (vs ++ [Value.slice N m cN])) (hg : wr.grownBy w2 (blockOf O)) :
    RdSt w (w2.setCell ⟨w.heap.size + 1 + 1, 1, none⟩ (.slice O2 (k + 1) c2)) (w2.setCell ⟨w.heap.size + 1 + 1, 1, none⟩ (.slice O2 (k + 1) c2)).heap.size vars O2 (k + 1) c2 (done ++ [now]) none 0 0 [] := by
  have lo := s.lo
  have hi := s.hi
  have hB : Below (w.heap.size + 3) wr w2 := below_ownG h1 (Nat.le_refl _) (by omega) hg
  have hob := s.ob.below hB (by omega)
  have hro := OwnG.push h1 h2 (by omega) (by decide) (s.nw.ints s.wf) (Apart.of_own s.nw) ho hg
  have hgs := grown_setCell w2 ⟨w.heap.size + 1 + 1, 1, none⟩ (.slice O2 (k + 1) c2)
  have hsz := hgs.size
  have hsz2 := hB.size
  refine ⟨?_, ?_, ?_, ?_, ?_, Nat.le_refl _, ?_, Own.nil _ _ _, by simp⟩
  · exact (s.bl.trans (hB.mono (by omega))).setCell (p := ⟨w.heap.size + 1 + 1, 1, none⟩) (show w.heap.size ≤ w.heap.size + 1 + 1 by omega) _
  · exact (s.rb.below hB (by omega)).far (p := ⟨w.heap.size + 1 + 1, 1, none⟩) (show w.heap.size ≠ w.heap.size + 1 + 1 by omega) _
  · exact (s.fb.below hB (by omega)).far (p := ⟨w.heap.size + 1 + 1, 1, none⟩) (show w.heap.size + 1 ≠ w.heap.size + 1 + 1 by omega) _
  · have := hob.set_ 1 (.slice O2 (k + 1) c2)
    simpa using this
  · omega
  · exact (hro.kept hgs (show w.heap.size ≤ w.heap.size + 1 + 1 by omega) (Typed.of_blk hob) (by decide) (by decide)).keep (cutW_top _)
/-- The head tells the variables. -/
theorem RdSt.top (s : RdSt w wr h vars O k cO done N m cN now) (v : Int) : RdSt w (wr.setCell ⟨w.heap.size + 1 + 1, 0, none⟩ (.int .i64 v)) h v O k cO done N m cN now := by
  have lo := s.lo
  have hi := s.hi
  have hgs := grown_setCell wr ⟨w.heap.size + 1 + 1, 0, none⟩ (.int .i64 v)
  have hT : Typed 24 (cutW wr h) (w.heap.size + 1 + 1) := ⟨_, _, (cutW_heap (by omega)).trans s.ob⟩
  refine ⟨s.bl.setCell (p := ⟨w.heap.size + 1 + 1, 0, none⟩) (show w.heap.size ≤ w.heap.size + 1 + 1 by omega) _, s.rb.far (p := ⟨w.heap.size + 1 + 1, 0, none⟩) (show w.heap.size ≠ w.heap.size + 1 + 1 by omega) _,
    s.fb.far (p := ⟨w.heap.size + 1 + 1, 0, none⟩) (show w.heap.size + 1 ≠ w.heap.size + 1 + 1 by omega) _, ?_, lo, Nat.le_trans hi hgs.size,
    s.rows.kept (cutW_grown hi hgs) (show w.heap.size ≤ w.heap.size + 1 + 1 by omega) hT (by decide) (by decide), s.nw.kept hgs (s.nw.geb (show w.heap.size + 1 + 1 < h by omega)), s.wf⟩
  have := s.ob.set_ 0 (.int .i64 v)
  simpa using this
end
theorem RdSt.start (w : World) : RdSt w (((w.alloc (.cells #[.int .i64 0, .slice none 0 0] 24)).alloc (.cells #[.int .i64 0, .int .i64 0] 26)).alloc (.cells #[.int .i64 0, .slice none 0 0] 24)) (w.heap.size + 3) 0 none 0 0 [] none 0 0 [] := by
  obtain ⟨k1, k2, k3, hb, hs⟩ := blk3 (w := w) (t := 24) (t' := 26) (t'' := 24) (cs := #[.int .i64 0, .slice none 0 0]) (cs' := #[.int .i64 0, .int .i64 0]) (cs'' := #[.int .i64 0, .slice none 0 0]) (Below.refl _ _)
  exact ⟨hb, k1, k2, k3, Nat.le_refl _, hs, OwnG.nil _ _ _ _ _, Own.nil _ _ _, by simp⟩
/-- What was read, or what is wrong; what lay in the world lies unturned. -/
def RetRead (r : Int × List (List Int) × Int × Int) (w : World) (e : Ending) (w' : World) : Prop :=
  ∃ A n c, e = .returned (.tuple #[.agg #[.int .i64 r.1, .slice A n c], .agg #[.int .i64 r.2.2.1, .int .i64 r.2.2.2]]) ∧ Grid w' A n c r.2.1 ∧ Below w.heap.size w w'
theorem grid_nil (w : World) : Grid w none 0 0 [] := (OwnG.nil 44 3 w 0 0).grid
/-- The results' boxes are written. -/
theorem RdSt.fin {w wr : World} {h : Nat} {vars : Int} {O : Option Addr} {k cO : Nat} {done : List (List Int)} {N : Option Addr} {m cN : Nat} {now : List Int} (s : RdSt w wr h vars O k cO done N m cN now) (v0 v1 v2 v3 : Value) :
    Below w.heap.size w ((((wr.setCell ⟨w.heap.size, 0, none⟩ v0).setCell ⟨w.heap.size, 1, none⟩ v1).setCell ⟨w.heap.size + 1, 0, none⟩ v2).setCell ⟨w.heap.size + 1, 1, none⟩ v3) ∧
    Grid ((((wr.setCell ⟨w.heap.size, 0, none⟩ v0).setCell ⟨w.heap.size, 1, none⟩ v1).setCell ⟨w.heap.size + 1, 0, none⟩ v2).setCell ⟨w.heap.size + 1, 1, none⟩ v3) O k cO done := by
  have hg := s.rows.keep (cutW_below s.hi)
  have k1 := Typed.of_blk (s.rb.set_ 0 v0)
  have f0 := (s.fb.far (p := ⟨w.heap.size, 0, none⟩) (show w.heap.size + 1 ≠ w.heap.size by omega) v0).far (p := ⟨w.heap.size, 1, none⟩) (show w.heap.size + 1 ≠ w.heap.size by omega) v1
  refine ⟨below_put2 (below_put2 s.bl (Nat.le_refl _) _ _) (by omega) _ _, ?_⟩
  exact ((((hg.kept (grown_setCell wr ⟨w.heap.size, 0, none⟩ v0) (Nat.le_refl _) (Typed.of_blk s.rb) (by decide) (by decide)).kept (grown_setCell _ ⟨w.heap.size, 1, none⟩ v1) (Nat.le_refl _) k1 (by decide) (by decide)).kept
    (grown_setCell _ ⟨w.heap.size + 1, 0, none⟩ v2) (show w.heap.size ≤ w.heap.size + 1 by omega) (Typed.of_blk f0) (by decide) (by decide)).kept (grown_setCell _ ⟨w.heap.size + 1, 1, none⟩ v3) (show w.heap.size ≤ w.heap.size + 1 by omega) (Typed.of_blk (f0.set_ 0 v2)) (by decide) (by decide)).grid
theorem word_of {ss : List ByteArray} {ws : List (List UInt8)} {j : Nat} {u : Value} (h : ss.map (·.data.toList) = ws) (hu : (ss.map Value.string)[j]? = some u) : ∃ sj : ByteArray, u = .string sj ∧ ws[j]? = some sj.data.toList := by
  rw [List.getElem?_map, Option.map_eq_some_iff] at hu
  obtain ⟨sj, h1, h2⟩ := hu
  exact ⟨sj, h2.symm, by rw [← h, List.getElem?_map, h1]; rfl⟩
theorem size_list (s : ByteArray) : s.size = s.data.toList.length := by rw [Array.length_toList]; rfl
end Go.Proofs.YtabjbpkojbdgaaaGreatDoor
