/- Contracts of unit.New and Trail.Add. (The region of Add is printed by wip/tools/ua.py.) -/
import Derived.Test.YtlfgcblijfflfaaGreatUnit
import Derived.Test.YtlfgcblijfflfaaGreatTail
import Derived.Test.YtlfgcblijfflfaaGreatBoxes
namespace Go.Proofs.YtlfgcblijfflfaaGreat
open Go.RowKit Go.Maps Go.WideMaps

/-- A new trail. -/
def RetNew (A : Option Addr) (n c : Nat) (w : World) (e : Ending) (w' : World) : Prop :=
  ∃ g gm, e = .returned (.pointer (some ⟨g, 0, none⟩)) ∧ TrSt w w' g A n c none 0 none 0 gm (.map []) [] []
theorem new_any (A : Option Addr) (n c : Nat) (w : World) : Calls Tryz.prog 40 #[.slice A n c] w (RetNew A n c w) := by
  have hmm := @run_makeMap Tryz.prog
  go_enter Tryz.func40, Tryz.ntmps40
  go_wp2_with fail
  go_ret
  refine ⟨w.heap.size + 1, w.heap.size, rfl, ⟨below_alloc (below_new _ _) _, by omega, ?_, Own.nil _ _ _, Own.nil _ _ _, .inl rfl, ?_, fun x => rfl, Nat.le_refl _⟩⟩
  · have := Blk.new (w.alloc (.map #[] 0)) 93 #[.slice A n c, .slice none 0 0, .slice none 0 0, .map (some w.heap.size)]
    simpa using this
  · have := World.ownsMap_made (H := Unit) w Tryz.prog 3 (plainElem Tryz.prog 4)
    exact MapI.keep this (below_new _ _)

theorem Sl.kept {w w' : World} {A : Option Addr} {n c : Nat} {xs : List Value} {row : Option Nat} (h : Sl w A n c xs) (hg : w.grownBy w' row) (hne : blockOf A = none ∨ blockOf A ≠ row) : Sl w' A n c xs := by
  refine ⟨h.len, h.le, h.cap, fun hn => ?_⟩
  obtain ⟨b, off, rfl, hlt, hc⟩ := h.at_ hn
  refine ⟨b, off, rfl, Nat.lt_of_lt_of_le hlt hg.size, fun k hk => ?_⟩
  rw [World.cell?_of_block (w := w) (w' := w') (a := ⟨b, off + k, none⟩) (hg.block b hlt (by simp [blockOf] at hne; exact hne)), hc k hk]
/-- What a trail that goes on leaves alone: all blocks but its own. -/
structure Frm (wr w' : World) (g gm : Nat) (L Y L' Y' : Option Addr) : Prop where
  size : wr.heap.size ≤ w'.heap.size
  blk : ∀ k, k < wr.heap.size → k ≠ g → k ≠ gm → some k ≠ blockOf L → some k ≠ blockOf Y → w'.heap[k]? = wr.heap[k]?
  l : blockOf L' = blockOf L ∨ ∀ k, blockOf L' = some k → wr.heap.size ≤ k
  y : blockOf Y' = blockOf Y ∨ ∀ k, blockOf Y' = some k → wr.heap.size ≤ k
theorem Frm.refl (wr : World) (g gm : Nat) (L Y : Option Addr) : Frm wr wr g gm L Y L Y := ⟨Nat.le_refl _, fun _ _ _ _ _ _ => rfl, .inl rfl, .inl rfl⟩
theorem frm_next {a b : Option Nat} {k n : Nat} (h : b = a ∨ ∀ j, b = some j → n ≤ j) (hk : k < n) (hne : some k ≠ a) : some k ≠ b := by
  rcases h with h | h
  · rw [h]; exact hne
  · exact fun e => by have := h k e.symm; omega
theorem Frm.trans {w1 w2 w3 : World} {g gm : Nat} {L Y L' Y' L'' Y'' : Option Addr} (h : Frm w1 w2 g gm L Y L' Y') (h' : Frm w2 w3 g gm L' Y' L'' Y'') : Frm w1 w3 g gm L Y L'' Y'' := by
  refine ⟨Nat.le_trans h.size h'.size, fun k hk h1 h2 h3 h4 => ?_, ?_, ?_⟩
  · exact (h'.blk k (Nat.lt_of_lt_of_le hk h.size) h1 h2 (frm_next h.l hk h3) (frm_next h.y hk h4)).trans (h.blk k hk h1 h2 h3 h4)
  · rcases h'.l with e | e
    · rw [e]; exact h.l
    · exact .inr fun k hk => Nat.le_trans h.size (e k hk)
  · rcases h'.y with e | e
    · rw [e]; exact h.y
    · exact .inr fun k hk => Nat.le_trans h.size (e k hk)
theorem Frm.keep {w1 w2 w3 : World} {g gm : Nat} {L Y L' Y' : Option Addr} (h : Frm w1 w2 g gm L Y L' Y') (hb : Below w2.heap.size w2 w3) : Frm w1 w3 g gm L Y L' Y' :=
  ⟨Nat.le_trans h.size hb.size, fun k hk h1 h2 h3 h4 => (hb.block k (Nat.lt_of_lt_of_le hk h.size)).trans (h.blk k hk h1 h2 h3 h4), h.l, h.y⟩
theorem Frm.after {w0 w1 w2 : World} {g gm : Nat} {L Y L' Y' : Option Addr} (hb : Below w0.heap.size w0 w1) (h : Frm w1 w2 g gm L Y L' Y') : Frm w0 w2 g gm L Y L' Y' :=
  ⟨Nat.le_trans hb.size h.size, fun k hk h1 h2 h3 h4 => (h.blk k (Nat.lt_of_lt_of_le hk hb.size) h1 h2 h3 h4).trans (hb.block k hk), h.l.imp id fun e k hk => Nat.le_trans hb.size (e k hk), h.y.imp id fun e k hk => Nat.le_trans hb.size (e k hk)⟩
/-- The row of the literals has grown. -/
structure Mid1 (w wr W w1 : World) (g : Nat) (A : Option Addr) (n c : Nat) (L L' : Option Addr) (cl cl' : Nat) (Y : Option Addr) (cy gm : Nat) (D : DataW Unit) (t y : List Int) (l : Int) : Prop where
  st : TrSt w wr g A n c L cl Y cy gm D t y
  b0 : Below wr.heap.size wr W
  own : Own 3 w1 w.heap.size L' (t.length + 1) cl' (t.map (Value.int .i64) ++ [Value.int .i64 l])
  gr : W.grownBy w1 (blockOf L)
  at_ : blockOf L' = blockOf L ∨ blockOf L' = some W.heap.size
section
variable {w wr W w1 W3 w2 w5 : World} {g : Nat} {A : Option Addr} {n c : Nat} {L L' : Option Addr} {cl cl' : Nat} {Y Y' : Option Addr} {cy cy' gm : Nat} {D D' : DataW Unit} {t y : List Int} {l why : Int}
theorem TrSt.neL (h : TrSt w wr g A n c L cl Y cy gm D t y) : some g ≠ blockOf L := by
  rcases h.lits.ne_typed (Typed.of_blk h.tb) (by decide) with h1 | h1
  · rw [h1]; simp
  · exact fun e => h1 e.symm
theorem TrSt.neY (h : TrSt w wr g A n c L cl Y cy gm D t y) : some g ≠ blockOf Y := by
  rcases h.why.ne_typed (Typed.of_blk h.tb) (by decide) with h1 | h1
  · rw [h1]; simp
  · exact fun e => h1 e.symm
theorem TrSt.ltL (h : TrSt w wr g A n c L cl Y cy gm D t y) {k : Nat} (hk : wr.heap.size ≤ k) : blockOf L ≠ some k := by
  rcases h.lits.form with ⟨rfl, _⟩ | ⟨g', cur, rfl, _, hh, _⟩
  · simp [blockOf]
  · have := heap_lt hh
    simp [blockOf]
    omega
theorem TrSt.ltY (h : TrSt w wr g A n c L cl Y cy gm D t y) {k : Nat} (hk : wr.heap.size ≤ k) : blockOf Y ≠ some k := by
  rcases h.why.form with ⟨rfl, _⟩ | ⟨g', cur, rfl, _, hh, _⟩
  · simp [blockOf]
  · have := heap_lt hh
    simp [blockOf]
    omega
theorem MapI.grown {w w' : World} {b n : Nat} {D : DataW Unit} {row : Option Nat} (h : MapI w b n D) (hg : w.grownBy w' row) (hne : some b ≠ row) : MapI w' b n D := by
  have hlt := World.ownsMap.lt h
  obtain ⟨es, clock, h1, F, hs, hD⟩ := h
  exact ⟨es, clock, (hg.block b hlt hne).trans h1, F, hs, hD⟩
theorem Mid1.tb (m : Mid1 w wr W w1 g A n c L L' cl cl' Y cy gm D t y l) : Blk w1 g 93 #[.slice A n c, .slice L t.length cl, .slice Y y.length cy, .map (some gm)] :=
  (m.st.tb.keep m.b0).grown m.gr m.st.neL
theorem Mid1.ne (m : Mid1 w wr W w1 g A n c L L' cl cl' Y cy gm D t y l) : blockOf Y = none ∨ blockOf Y ≠ blockOf L := by
  rcases m.st.ne with h | h
  · rw [h]; cases blockOf Y <;> simp
  · exact .inr fun e => h e.symm
theorem Mid1.wy (m : Mid1 w wr W w1 g A n c L L' cl cl' Y cy gm D t y l) : Own 3 w1 w.heap.size Y y.length cy (y.map (Value.int .i64)) :=
  (m.st.why.keep m.b0).kept m.gr m.ne
theorem Mid1.bl (m : Mid1 w wr W w1 g A n c L L' cl cl' Y cy gm D t y l) : Below w.heap.size w w1 :=
  below_grown (below_next m.st.bl m.b0) (m.st.lits.keep m.b0) (Nat.le_refl _) m.gr
theorem Mid1.size (m : Mid1 w wr W w1 g A n c L L' cl cl' Y cy gm D t y l) : wr.heap.size ≤ w1.heap.size := Nat.le_trans m.b0.size m.gr.size
theorem Mid1.tb2 (m : Mid1 w wr W w1 g A n c L L' cl cl' Y cy gm D t y l) (hB3 : Below w1.heap.size w1 W3) (hg2 : W3.grownBy w2 (blockOf Y)) : Blk w2 g 93 #[.slice A n c, .slice L t.length cl, .slice Y y.length cy, .map (some gm)] :=
  (m.tb.keep hB3).grown hg2 m.st.neY
/-- Both have grown, both are stored, and the map has been put. -/
theorem Mid1.end_ (m : Mid1 w wr W w1 g A n c L L' cl cl' Y cy gm D t y l) (hB3 : Below w1.heap.size w1 W3) (hown : Own 3 w2 w.heap.size Y' (y.length + 1) cy' (y.map (Value.int .i64) ++ [Value.int .i64 why]))
    (hg2 : W3.grownBy w2 (blockOf Y)) (ha2 : blockOf Y' = blockOf Y ∨ blockOf Y' = some W3.heap.size) :
    MapI ((w2.setCell ⟨g, 1, none⟩ (.slice L' (t.length + 1) cl')).setCell ⟨g, 2, none⟩ (.slice Y' (y.length + 1) cy')) gm t.length D ∧
    (∀ w5 D', ((w2.setCell ⟨g, 1, none⟩ (.slice L' (t.length + 1) cl')).setCell ⟨g, 2, none⟩ (.slice Y' (y.length + 1) cy')).grownBy w5 (some gm) → MapI w5 gm (t.length + 1) D' → MapHas D' (t ++ [l]) → TrSt w w5 g A n c L' cl' Y' cy' gm D' (t ++ [l]) (y ++ [why]) ∧ Frm wr w5 g gm L Y L' Y') := by
  have hmg := m.st.mp
  have mne : ∀ {base k d : Nat} {B : Option Addr} {xs : List Value}, Own 3 wr base B k d xs → some gm ≠ blockOf B := fun ho e => own_map_ne ho hmg e.symm
  have mp1 : MapI w1 gm t.length D := (hmg.keep m.b0).grown m.gr (mne m.st.lits)
  have mp2 : MapI w2 gm t.length D := (mp1.keep hB3).grown hg2 (mne m.st.why)
  have tb2 := m.tb2 hB3 hg2
  have gne : g ≠ gm := blk_map_ne tb2 mp2
  have mp3 := (mp2.grown (grown_setCell w2 ⟨g, 1, none⟩ (.slice L' (t.length + 1) cl')) (by simp; exact fun e => gne e.symm)).grown (grown_setCell _ ⟨g, 2, none⟩ (.slice Y' (y.length + 1) cy')) (by simp; exact fun e => gne e.symm)
  refine ⟨mp3, fun w5 D' hg5 hm5 hD => ?_⟩
  have neL2 : blockOf L' = none ∨ blockOf L' ≠ blockOf Y := by
    rcases m.at_ with h | h
    · rw [h]; exact m.st.ne
    · rw [h]
      exact .inr fun e => m.st.ltY m.b0.size e.symm
  have ownL2 : Own 3 w2 w.heap.size L' (t.length + 1) cl' (t.map (Value.int .i64) ++ [Value.int .i64 l]) := (m.own.keep hB3).kept hg2 neL2
  have b2 : Below w.heap.size w w2 := below_grown (below_next m.bl hB3) (m.wy.keep hB3) (Nat.le_refl _) hg2
  have tb3 := (tb2.set_ 1 (.slice L' (t.length + 1) cl')).set_ 2 (.slice Y' (y.length + 1) cy')
  have gL := ownL2.ne_typed (Typed.of_blk tb2) (by decide)
  have gY := hown.ne_typed (Typed.of_blk tb2) (by decide)
  have ownL3 := (ownL2.kept (grown_setCell w2 ⟨g, 1, none⟩ (.slice L' (t.length + 1) cl')) gL).kept (grown_setCell _ ⟨g, 2, none⟩ (.slice Y' (y.length + 1) cy')) gL
  have ownY3 := (hown.kept (grown_setCell w2 ⟨g, 1, none⟩ (.slice L' (t.length + 1) cl')) gY).kept (grown_setCell _ ⟨g, 2, none⟩ (.slice Y' (y.length + 1) cy')) gY
  have b3 := (b2.setCell (p := ⟨g, 1, none⟩) m.st.lo (.slice L' (t.length + 1) cl')).setCell (p := ⟨g, 2, none⟩) m.st.lo (.slice Y' (y.length + 1) cy')
  have om : ∀ {base k d : Nat} {B : Option Addr} {xs : List Value}, Own 3 ((w2.setCell ⟨g, 1, none⟩ (.slice L' (t.length + 1) cl')).setCell ⟨g, 2, none⟩ (.slice Y' (y.length + 1) cy')) base B k d xs → blockOf B = none ∨ blockOf B ≠ some gm := fun ho => .inr (own_map_ne ho mp3)
  refine ⟨?_, ?_⟩
  rotate_left
  · refine ⟨?_, fun k hk h1 h2 h3 h4 => ?_, ?_, ?_⟩
    · have e1 := m.size
      have e2 := hB3.size
      have e3 := hg2.size
      have e4 := hg5.size
      simp [World.setCell] at e4
      omega
    · have hk1 : k < w1.heap.size := Nat.lt_of_lt_of_le hk m.size
      have hk3 : k < W3.heap.size := Nat.lt_of_lt_of_le hk1 hB3.size
      have hk2 : k < w2.heap.size := Nat.lt_of_lt_of_le hk3 hg2.size
      rw [hg5.block k (by simpa [World.setCell] using hk2) (by simpa using h2), Below.heap_setCell _ ⟨g, 2, none⟩ _ k h1, Below.heap_setCell _ ⟨g, 1, none⟩ _ k h1, hg2.block k hk3 h4, hB3.block k hk1, m.gr.block k (Nat.lt_of_lt_of_le hk m.b0.size) h3, m.b0.block k hk]
    · exact m.at_.imp id fun e k hk => by rw [e] at hk; cases hk; exact m.b0.size
    · exact ha2.imp id fun e k hk => by rw [e] at hk; cases hk; exact Nat.le_trans m.size hB3.size
  refine ⟨b3.grown hg5 b3.size (fun j hj => by cases hj; exact m.st.lm), m.st.lo, ?_, ?_, ?_, ?_, by simpa using hm5, hD, m.st.lm⟩
  · have := tb3.grown hg5 (by simp; exact gne)
    simpa using this
  · have := ownL3.kept hg5 (om ownL3)
    simpa using this
  · have := ownY3.kept hg5 (om ownY3)
    simpa using this
  · rcases ha2 with h | h
    · rw [h]; exact neL2
    · right
      rw [h]
      rcases ownL3.form with ⟨rfl, _⟩ | ⟨g', cur, rfl, _, hh, _⟩
      · simp [blockOf]
      · have h1 := m.own.sl.at_ (by omega)
        obtain ⟨b, off, e1, hlt, _⟩ := h1
        cases e1
        have := hB3.size
        simp [blockOf]
        omega
end

/-- A literal more. -/
def RetAdd (w wr : World) (g : Nat) (A : Option Addr) (n c gm : Nat) (L Y : Option Addr) (t y : List Int) (l why : Int) (e : Ending) (w' : World) : Prop :=
  e = .returned (.tuple #[]) ∧ ∃ L' cl' Y' cy' D', TrSt w w' g A n c L' cl' Y' cy' gm D' (t ++ [l]) (y ++ [why]) ∧ Frm wr w' g gm L Y L' Y'
set_option maxHeartbeats 4000000 in
set_option linter.unusedSimpArgs false in
theorem add_any (w wr : World) (g : Nat) (A : Option Addr) (n c : Nat) (L : Option Addr) (cl : Nat) (Y : Option Addr) (cy gm : Nat) (D : DataW Unit) (t y : List Int) (h : TrSt w wr g A n c L cl Y cy gm D t y) (l why : Int) (hl : I64 l) (ht : t.length ≤ 1000000) (hy : y.length ≤ 1000000) :
    Calls Tryz.prog 78 #[.pointer (some ⟨g, 0, none⟩), .int .i64 l, .int .i64 why] wr (RetAdd w wr g A n c gm L Y t y l why) := by
  obtain ⟨i0, hi0, hz0, hz1, hz2⟩ := info_parts int_info
  have c1 := h.tb.cell 1
  have c2 := h.tb.cell 2
  have c3 := h.tb.cell 3
  simp at c1 c2 c3
  have hlt : g < wr.heap.size := h.tb.lt
  have hwz := h.bl.size
  have H := Lib.hid h
  have HT := Lib.hid ht
  have hkey := keyOf_int_mk (P := Tryz.prog) Tryz.underlying3 (show (Lit.int .i64 l).wf = true from WalkArith.wf_i64 hl)
  clear h
  have hS : wr.drew.cell? ⟨g, 1, none⟩ = some (.slice L t.length cl) ∧ wr.drew.cell? ⟨g, 2, none⟩ = some (.slice Y y.length cy) := ⟨keepBox (below_drewN wr 1) c1, keepBox (below_drewN wr 1) c2⟩
  go_enter Tryz.func78, Tryz.ntmps78
  go_wp2_with fail
  refine wp_region_tail (fun w' => w'.cell? ⟨g, 1, none⟩ = some (.slice L t.length cl) ∧ w'.cell? ⟨g, 2, none⟩ = some (.slice Y y.length cy)) [18, 21] (by kernel_rfl) ?_
  refine take0 (i := 0) (oi := _) (v := ?_) rfl (by kernel_rfl) (by kernel_rfl) (by kernel_rfl) (fun _ _ _ h => h) rfl (Or.inl ⟨by rfl, ?_⟩) (fun _ => hS) ?_
  rotate_left
  · intro w0; go_simp; with_reducible rfl
  (try simp only [Act.put, List.setIfInBounds_toArray, List.set_cons_zero, List.set_cons_succ])
  refine take0 (i := 1) (oi := _) (v := ?_) rfl (by kernel_rfl) (by kernel_rfl) (by kernel_rfl) (fun _ _ _ h => h) rfl (Or.inl ⟨by rfl, ?_⟩) (fun _ => hS) ?_
  rotate_left
  · intro w0; go_simp; with_reducible rfl
  (try simp only [Act.put, List.setIfInBounds_toArray, List.set_cons_zero, List.set_cons_succ])
  refine take0 (i := 2) (oi := _) (v := ?_) rfl (by kernel_rfl) (by kernel_rfl) (by kernel_rfl) (fun _ _ _ h => h) rfl (Or.inl ⟨by rfl, ?_⟩) (fun _ => hS) ?_
  rotate_left
  · intro w0; go_simp; with_reducible rfl
  (try simp only [Act.put, List.setIfInBounds_toArray, List.set_cons_zero, List.set_cons_succ])
  refine take0 (i := 3) (oi := _) (v := ?_) rfl (by kernel_rfl) (by kernel_rfl) (by kernel_rfl) (fun _ _ _ h => h) rfl (Or.inl ⟨by rfl, ?_⟩) (fun _ => hS) ?_
  rotate_left
  · intro w0; go_simp; with_reducible rfl
  (try simp only [Act.put, List.setIfInBounds_toArray, List.set_cons_zero, List.set_cons_succ])
  refine take0 (i := 4) (oi := _) (v := ?_) rfl (by kernel_rfl) (by kernel_rfl) (by kernel_rfl) (fun _ _ _ h => h) rfl (Or.inl ⟨by rfl, ?_⟩) (fun _ => hS) ?_
  rotate_left
  · intro w0; go_simp; with_reducible rfl
  (try simp only [Act.put, List.setIfInBounds_toArray, List.set_cons_zero, List.set_cons_succ])
  refine takeS (i := 5) (oi := _) (v := ?_) rfl (by kernel_rfl) (by kernel_rfl) (by kernel_rfl) (fun _ _ _ h => h) rfl (by kernel_rfl) (by kernel_rfl) (Or.inl ⟨by rfl, ?_⟩) hS ?_
  rotate_left
  · intro w0 hSw; (try dsimp only at hSw); go_simp; with_reducible rfl
  (try simp only [Act.put, List.setIfInBounds_toArray, List.set_cons_zero, List.set_cons_succ])
  refine take0 (i := 6) (oi := _) (v := ?_) rfl (by kernel_rfl) (by kernel_rfl) (by kernel_rfl) (fun _ _ _ h => h) rfl (Or.inl ⟨by rfl, ?_⟩) (fun _ => hS) ?_
  rotate_left
  · intro w0; go_simp; with_reducible rfl
  (try simp only [Act.put, List.setIfInBounds_toArray, List.set_cons_zero, List.set_cons_succ])
  refine take0 (i := 9) (oi := _) (v := ?_) rfl (by kernel_rfl) (by kernel_rfl) (by kernel_rfl) (fun _ _ _ h => h) rfl (Or.inl ⟨by rfl, ?_⟩) (fun _ => hS) ?_
  rotate_left
  · intro w0; go_simp; with_reducible rfl
  (try simp only [Act.put, List.setIfInBounds_toArray, List.set_cons_zero, List.set_cons_succ])
  refine take0 (i := 10) (oi := _) (v := ?_) rfl (by kernel_rfl) (by kernel_rfl) (by kernel_rfl) (fun _ _ _ h => h) rfl (Or.inl ⟨by rfl, ?_⟩) (fun _ => hS) ?_
  rotate_left
  · intro w0; go_simp; with_reducible rfl
  (try simp only [Act.put, List.setIfInBounds_toArray, List.set_cons_zero, List.set_cons_succ])
  refine take0 (i := 11) (oi := _) (v := ?_) rfl (by kernel_rfl) (by kernel_rfl) (by kernel_rfl) (fun _ _ _ h => h) rfl (Or.inl ⟨by rfl, ?_⟩) (fun _ => hS) ?_
  rotate_left
  · intro w0; go_simp; with_reducible rfl
  (try simp only [Act.put, List.setIfInBounds_toArray, List.set_cons_zero, List.set_cons_succ])
  refine takeS (i := 12) (oi := _) (v := ?_) rfl (by kernel_rfl) (by kernel_rfl) (by kernel_rfl) (fun _ _ _ h => h) rfl (by kernel_rfl) (by kernel_rfl) (Or.inl ⟨by rfl, ?_⟩) hS ?_
  rotate_left
  · intro w0 hSw; (try dsimp only at hSw); go_simp; with_reducible rfl
  (try simp only [Act.put, List.setIfInBounds_toArray, List.set_cons_zero, List.set_cons_succ])
  refine take0 (i := 13) (oi := _) (v := ?_) rfl (by kernel_rfl) (by kernel_rfl) (by kernel_rfl) (fun _ _ _ h => h) rfl (Or.inl ⟨by rfl, ?_⟩) (fun _ => hS) ?_
  rotate_left
  · intro w0; go_simp; with_reducible rfl
  (try simp only [Act.put, List.setIfInBounds_toArray, List.set_cons_zero, List.set_cons_succ])
  refine twoT (i := 7) (j := 14) (by kernel_rfl) rfl (by rfl) rfl (by rfl) (fun K hK => ?_) (fun K hK => ?_)
  · go_simp
    have hS : ((wr.alloc (.cells #[.int .i64 l] 3)).drew).cell? ⟨g, 1, none⟩ = some (.slice L t.length cl) ∧ ((wr.alloc (.cells #[.int .i64 l] 3)).drew).cell? ⟨g, 2, none⟩ = some (.slice Y y.length cy) := ⟨keepBox (below_drew1 (below_new wr _)) c1, keepBox (below_drew1 (below_new wr _)) c2⟩
    refine hK _ _ (fun _ => hS) ?_
    clear hK
    (try simp only [Act.put, List.setIfInBounds_toArray, List.set_cons_zero, List.set_cons_succ])
    refine twoT (i := 8) (j := 14) (by kernel_rfl) rfl (by rfl) rfl (by rfl) (fun K hK => ?_) (fun K hK => ?_)
    · refine wp_append_sl _ (.tmp 11) (.tmp 13) 22 rfl w.heap.size 3 i0 _ 8 Tryz.underlying22 hi0 hz0 hz1 hz2 rfl L t.length cl (t.map (Value.int .i64)) rfl (H.out.lits.keep (below_drew1 (below_new wr _))) (some ⟨wr.heap.size, 0, none⟩) 1 1 [.int .i64 l] rfl (Sl.drew1 (sl_one wr 3 (.int .i64 l) rfl)) (by simp [Value.oneCell']) (by simp only [maxLen]; omega) (by omega) (Nat.le_trans hwz (below_drew1 (below_new wr _)).size) ?_
      intro L' cl' w1 hO1 hG1 hA1
      have M := Lib.hid (Mid1.mk H.out (below_drew1 (below_new wr _)) hO1 hG1 hA1)
      clear hO1 hG1 hA1
      have hS : w1.cell? ⟨g, 1, none⟩ = some (.slice L t.length cl) ∧ w1.cell? ⟨g, 2, none⟩ = some (.slice Y y.length cy) := ⟨by have := M.out.tb.cell 1; simpa using this, by have := M.out.tb.cell 2; simpa using this⟩
      have hw1 := M.out.size
      refine hK _ _ (fun _ => hS) ?_
      clear hK
      (try simp only [Act.put, List.setIfInBounds_toArray, List.set_cons_zero, List.set_cons_succ])
      refine oneT (i := 14) (by kernel_rfl) rfl (by rfl) (fun K hK => ?_)
      go_simp
      have hS : (w1.alloc (.cells #[.int .i64 why] 3)).cell? ⟨g, 1, none⟩ = some (.slice L t.length cl) ∧ (w1.alloc (.cells #[.int .i64 why] 3)).cell? ⟨g, 2, none⟩ = some (.slice Y y.length cy) := ⟨keepBox (below_new w1 _) hS.1, keepBox (below_new w1 _) hS.2⟩
      refine hK _ _ (fun _ => hS) ?_
      clear hK
      (try simp only [Act.put, List.setIfInBounds_toArray, List.set_cons_zero, List.set_cons_succ])
      refine oneT (i := 15) (by kernel_rfl) rfl (by rfl) (fun K hK => ?_)
      refine wp_append_sl _ (.tmp 18) (.tmp 20) 22 rfl w.heap.size 3 i0 _ 8 Tryz.underlying22 hi0 hz0 hz1 hz2 rfl Y y.length cy (y.map (Value.int .i64)) rfl (M.out.wy.keep (below_new w1 _)) (some ⟨w1.heap.size, 0, none⟩) 1 1 [.int .i64 why] rfl (sl_one w1 3 (.int .i64 why) rfl) (by simp [Value.oneCell']) (by simp only [maxLen]; omega) (by omega) (Nat.le_trans hwz (Nat.le_trans hw1 (below_new w1 _).size)) ?_
      intro Y' cy' w2 hO2 hG2 hA2
      have HOY := Lib.hid hO2
      have HG2 := Lib.hid hG2
      have HA2 := Lib.hid hA2
      clear hO2 hG2 hA2
      have tb2 := M.out.tb2 (below_new w1 _) HG2.out
      have e1 := tb2.cell 1
      have e2 := tb2.cell 2
      have f1 := tb2.frozen 1
      have f2 := tb2.frozen 2
      simp at e1 e2
      have hS : w2.cell? ⟨g, 1, none⟩ = some (.slice L t.length cl) ∧ w2.cell? ⟨g, 2, none⟩ = some (.slice Y y.length cy) := ⟨e1, e2⟩
      obtain ⟨EM, EE⟩ := M.out.end_ (below_new w1 _) HOY.out HG2.out HA2.out
      have HEE := Lib.hid EE
      have c3' := ((tb2.set_ 1 (.slice L' (t.length + 1) cl')).set_ 2 (.slice Y' (y.length + 1) cy')).cell 3
      simp at c3'
      clear EE tb2
      refine hK _ _ (fun _ => hS) ?_
      clear hK
      (try simp only [Act.put, List.setIfInBounds_toArray, List.set_cons_zero, List.set_cons_succ])
      refine take0 (i := 16) (oi := _) (v := ?_) rfl (by kernel_rfl) (by kernel_rfl) (by kernel_rfl) (fun _ _ _ h => h) rfl (Or.inl ⟨by rfl, ?_⟩) (fun _ => hS) ?_
      rotate_left
      · intro w0; go_simp; with_reducible rfl
      (try simp only [Act.put, List.setIfInBounds_toArray, List.set_cons_zero, List.set_cons_succ])
      refine take0 (i := 17) (oi := _) (v := ?_) rfl (by kernel_rfl) (by kernel_rfl) (by kernel_rfl) (fun _ _ _ h => h) rfl (Or.inl ⟨by rfl, ?_⟩) (fun _ => hS) ?_
      rotate_left
      · intro w0; go_simp; with_reducible rfl
      (try simp only [Act.put, List.setIfInBounds_toArray, List.set_cons_zero, List.set_cons_succ])
      refine oneT (i := 18) (by kernel_rfl) rfl (by rfl) (fun K hK => ?_)
      go_simp
      refine hK _ _ (noT_no (by kernel_rfl)) ?_
      clear hK
      refine take0 (i := 19) (oi := _) (v := ?_) rfl (by kernel_rfl) (by kernel_rfl) (by kernel_rfl) (fun _ _ _ h => h) rfl (Or.inl ⟨by rfl, ?_⟩) (noT_no (by kernel_rfl)) ?_
      rotate_left
      · intro w0; go_simp; with_reducible rfl
      (try simp only [Act.put, List.setIfInBounds_toArray, List.set_cons_zero, List.set_cons_succ])
      refine take0 (i := 20) (oi := _) (v := ?_) rfl (by kernel_rfl) (by kernel_rfl) (by kernel_rfl) (fun _ _ _ h => h) rfl (Or.inl ⟨by rfl, ?_⟩) (noT_no (by kernel_rfl)) ?_
      rotate_left
      · intro w0; go_simp; with_reducible rfl
      (try simp only [Act.put, List.setIfInBounds_toArray, List.set_cons_zero, List.set_cons_succ])
      refine oneT (i := 21) (by kernel_rfl) rfl (by rfl) (fun K hK => ?_)
      go_simp
      refine hK _ _ (noT_no (by kernel_rfl)) ?_
      clear hK
      refine doneT (by kernel_rfl) ?_ _
      go_wp2_with (first | (at_mapUpdate; refine wpList_mapUpdate_own _ rfl _ _ _ 91 rfl 3 4 keyed_int Tryz.underlying91 (plainElem (H := Unit) Tryz.prog 4) gm t.length D rfl EM (by have := HT.out; unfold maxLen; omega) _ _ _ rfl rfl hkey _ [] (plainElem_bool Tryz.underlying4 true) ?_; intro w5 hown1 hgrow1))
      go_end0
      exact ⟨rfl, L', cl', Y', cy', _, HEE.out w5 _ hgrow1 hown1 (MapHas.put H.out.mp H.out.has l)⟩
    · go_simp
      have hS : (((wr.alloc (.cells #[.int .i64 l] 3)).alloc (.cells #[.int .i64 why] 3)).drew).cell? ⟨g, 1, none⟩ = some (.slice L t.length cl) ∧ (((wr.alloc (.cells #[.int .i64 l] 3)).alloc (.cells #[.int .i64 why] 3)).drew).cell? ⟨g, 2, none⟩ = some (.slice Y y.length cy) := ⟨keepBox (below_drew1 (below_alloc (below_new wr _) _)) c1, keepBox (below_drew1 (below_alloc (below_new wr _) _)) c2⟩
      refine hK _ _ (fun _ => hS) ?_
      clear hK
      (try simp only [Act.put, List.setIfInBounds_toArray, List.set_cons_zero, List.set_cons_succ])
      refine oneT (i := 8) (by kernel_rfl) rfl (by rfl) (fun K hK => ?_)
      refine wp_append_sl _ (.tmp 11) (.tmp 13) 22 rfl w.heap.size 3 i0 _ 8 Tryz.underlying22 hi0 hz0 hz1 hz2 rfl L t.length cl (t.map (Value.int .i64)) rfl (H.out.lits.keep (below_drew1 (below_alloc (below_new wr _) _))) (some ⟨wr.heap.size, 0, none⟩) 1 1 [.int .i64 l] rfl (Sl.drew1 (Sl.keep (sl_one wr 3 (.int .i64 l) rfl) (below_new _ _))) (by simp [Value.oneCell']) (by simp only [maxLen]; omega) (by omega) (Nat.le_trans hwz (below_drew1 (below_alloc (below_new wr _) _)).size) ?_
      intro L' cl' w1 hO1 hG1 hA1
      have M := Lib.hid (Mid1.mk H.out (below_drew1 (below_alloc (below_new wr _) _)) hO1 hG1 hA1)
      clear hO1 hG1 hA1
      have hS : w1.cell? ⟨g, 1, none⟩ = some (.slice L t.length cl) ∧ w1.cell? ⟨g, 2, none⟩ = some (.slice Y y.length cy) := ⟨by have := M.out.tb.cell 1; simpa using this, by have := M.out.tb.cell 2; simpa using this⟩
      have hw1 := M.out.size
      refine hK _ _ (fun _ => hS) ?_
      clear hK
      (try simp only [Act.put, List.setIfInBounds_toArray, List.set_cons_zero, List.set_cons_succ])
      refine oneT (i := 15) (by kernel_rfl) rfl (by rfl) (fun K hK => ?_)
      refine wp_append_sl _ (.tmp 18) (.tmp 20) 22 rfl w.heap.size 3 i0 _ 8 Tryz.underlying22 hi0 hz0 hz1 hz2 rfl Y y.length cy (y.map (Value.int .i64)) rfl (M.out.wy.keep (Below.refl w1.heap.size w1)) (some ⟨wr.heap.size + 1, 0, none⟩) 1 1 [.int .i64 why] rfl (Sl.kept (Sl.drew1 (sl_one (wr.alloc (.cells #[.int .i64 l] 3)) 3 (.int .i64 why) (by simp))) M.out.gr (.inr (fun e => H.out.ltL (Nat.le_succ _) e.symm))) (by simp [Value.oneCell']) (by simp only [maxLen]; omega) (by omega) (Nat.le_trans hwz (Nat.le_trans hw1 (Below.refl w1.heap.size w1).size)) ?_
      intro Y' cy' w2 hO2 hG2 hA2
      have HOY := Lib.hid hO2
      have HG2 := Lib.hid hG2
      have HA2 := Lib.hid hA2
      clear hO2 hG2 hA2
      have tb2 := M.out.tb2 (Below.refl w1.heap.size w1) HG2.out
      have e1 := tb2.cell 1
      have e2 := tb2.cell 2
      have f1 := tb2.frozen 1
      have f2 := tb2.frozen 2
      simp at e1 e2
      have hS : w2.cell? ⟨g, 1, none⟩ = some (.slice L t.length cl) ∧ w2.cell? ⟨g, 2, none⟩ = some (.slice Y y.length cy) := ⟨e1, e2⟩
      obtain ⟨EM, EE⟩ := M.out.end_ (Below.refl w1.heap.size w1) HOY.out HG2.out HA2.out
      have HEE := Lib.hid EE
      have c3' := ((tb2.set_ 1 (.slice L' (t.length + 1) cl')).set_ 2 (.slice Y' (y.length + 1) cy')).cell 3
      simp at c3'
      clear EE tb2
      refine hK _ _ (fun _ => hS) ?_
      clear hK
      (try simp only [Act.put, List.setIfInBounds_toArray, List.set_cons_zero, List.set_cons_succ])
      refine take0 (i := 16) (oi := _) (v := ?_) rfl (by kernel_rfl) (by kernel_rfl) (by kernel_rfl) (fun _ _ _ h => h) rfl (Or.inl ⟨by rfl, ?_⟩) (fun _ => hS) ?_
      rotate_left
      · intro w0; go_simp; with_reducible rfl
      (try simp only [Act.put, List.setIfInBounds_toArray, List.set_cons_zero, List.set_cons_succ])
      refine take0 (i := 17) (oi := _) (v := ?_) rfl (by kernel_rfl) (by kernel_rfl) (by kernel_rfl) (fun _ _ _ h => h) rfl (Or.inl ⟨by rfl, ?_⟩) (fun _ => hS) ?_
      rotate_left
      · intro w0; go_simp; with_reducible rfl
      (try simp only [Act.put, List.setIfInBounds_toArray, List.set_cons_zero, List.set_cons_succ])
      refine oneT (i := 18) (by kernel_rfl) rfl (by rfl) (fun K hK => ?_)
      go_simp
      refine hK _ _ (noT_no (by kernel_rfl)) ?_
      clear hK
      refine take0 (i := 19) (oi := _) (v := ?_) rfl (by kernel_rfl) (by kernel_rfl) (by kernel_rfl) (fun _ _ _ h => h) rfl (Or.inl ⟨by rfl, ?_⟩) (noT_no (by kernel_rfl)) ?_
      rotate_left
      · intro w0; go_simp; with_reducible rfl
      (try simp only [Act.put, List.setIfInBounds_toArray, List.set_cons_zero, List.set_cons_succ])
      refine take0 (i := 20) (oi := _) (v := ?_) rfl (by kernel_rfl) (by kernel_rfl) (by kernel_rfl) (fun _ _ _ h => h) rfl (Or.inl ⟨by rfl, ?_⟩) (noT_no (by kernel_rfl)) ?_
      rotate_left
      · intro w0; go_simp; with_reducible rfl
      (try simp only [Act.put, List.setIfInBounds_toArray, List.set_cons_zero, List.set_cons_succ])
      refine oneT (i := 21) (by kernel_rfl) rfl (by rfl) (fun K hK => ?_)
      go_simp
      refine hK _ _ (noT_no (by kernel_rfl)) ?_
      clear hK
      refine doneT (by kernel_rfl) ?_ _
      go_wp2_with (first | (at_mapUpdate; refine wpList_mapUpdate_own _ rfl _ _ _ 91 rfl 3 4 keyed_int Tryz.underlying91 (plainElem (H := Unit) Tryz.prog 4) gm t.length D rfl EM (by have := HT.out; unfold maxLen; omega) _ _ _ rfl rfl hkey _ [] (plainElem_bool Tryz.underlying4 true) ?_; intro w5 hown1 hgrow1))
      go_end0
      exact ⟨rfl, L', cl', Y', cy', _, HEE.out w5 _ hgrow1 hown1 (MapHas.put H.out.mp H.out.has l)⟩
  · go_simp
    have hS : ((wr.alloc (.cells #[.int .i64 why] 3)).drew).cell? ⟨g, 1, none⟩ = some (.slice L t.length cl) ∧ ((wr.alloc (.cells #[.int .i64 why] 3)).drew).cell? ⟨g, 2, none⟩ = some (.slice Y y.length cy) := ⟨keepBox (below_drew1 (below_new wr _)) c1, keepBox (below_drew1 (below_new wr _)) c2⟩
    refine hK _ _ (fun _ => hS) ?_
    clear hK
    (try simp only [Act.put, List.setIfInBounds_toArray, List.set_cons_zero, List.set_cons_succ])
    refine oneT (i := 7) (by kernel_rfl) rfl (by rfl) (fun K hK => ?_)
    go_simp
    have hS : (((wr.alloc (.cells #[.int .i64 why] 3)).alloc (.cells #[.int .i64 l] 3)).drew).cell? ⟨g, 1, none⟩ = some (.slice L t.length cl) ∧ (((wr.alloc (.cells #[.int .i64 why] 3)).alloc (.cells #[.int .i64 l] 3)).drew).cell? ⟨g, 2, none⟩ = some (.slice Y y.length cy) := ⟨keepBox (below_drew1 (below_alloc (below_new wr _) _)) c1, keepBox (below_drew1 (below_alloc (below_new wr _) _)) c2⟩
    refine hK _ _ (fun _ => hS) ?_
    clear hK
    (try simp only [Act.put, List.setIfInBounds_toArray, List.set_cons_zero, List.set_cons_succ])
    refine oneT (i := 8) (by kernel_rfl) rfl (by rfl) (fun K hK => ?_)
    refine wp_append_sl _ (.tmp 11) (.tmp 13) 22 rfl w.heap.size 3 i0 _ 8 Tryz.underlying22 hi0 hz0 hz1 hz2 rfl L t.length cl (t.map (Value.int .i64)) rfl (H.out.lits.keep (below_drew1 (below_alloc (below_new wr _) _))) (some ⟨wr.heap.size + 1, 0, none⟩) 1 1 [.int .i64 l] rfl (Sl.drew1 (sl_one (wr.alloc (.cells #[.int .i64 why] 3)) 3 (.int .i64 l) (by simp))) (by simp [Value.oneCell']) (by simp only [maxLen]; omega) (by omega) (Nat.le_trans hwz (below_drew1 (below_alloc (below_new wr _) _)).size) ?_
    intro L' cl' w1 hO1 hG1 hA1
    have M := Lib.hid (Mid1.mk H.out (below_drew1 (below_alloc (below_new wr _) _)) hO1 hG1 hA1)
    clear hO1 hG1 hA1
    have hS : w1.cell? ⟨g, 1, none⟩ = some (.slice L t.length cl) ∧ w1.cell? ⟨g, 2, none⟩ = some (.slice Y y.length cy) := ⟨by have := M.out.tb.cell 1; simpa using this, by have := M.out.tb.cell 2; simpa using this⟩
    have hw1 := M.out.size
    refine hK _ _ (fun _ => hS) ?_
    clear hK
    (try simp only [Act.put, List.setIfInBounds_toArray, List.set_cons_zero, List.set_cons_succ])
    refine oneT (i := 15) (by kernel_rfl) rfl (by rfl) (fun K hK => ?_)
    refine wp_append_sl _ (.tmp 18) (.tmp 20) 22 rfl w.heap.size 3 i0 _ 8 Tryz.underlying22 hi0 hz0 hz1 hz2 rfl Y y.length cy (y.map (Value.int .i64)) rfl (M.out.wy.keep (Below.refl w1.heap.size w1)) (some ⟨wr.heap.size, 0, none⟩) 1 1 [.int .i64 why] rfl (Sl.kept (Sl.drew1 (Sl.keep (sl_one wr 3 (.int .i64 why) rfl) (below_new _ _))) M.out.gr (.inr (fun e => H.out.ltL (Nat.le_refl _) e.symm))) (by simp [Value.oneCell']) (by simp only [maxLen]; omega) (by omega) (Nat.le_trans hwz (Nat.le_trans hw1 (Below.refl w1.heap.size w1).size)) ?_
    intro Y' cy' w2 hO2 hG2 hA2
    have HOY := Lib.hid hO2
    have HG2 := Lib.hid hG2
    have HA2 := Lib.hid hA2
    clear hO2 hG2 hA2
    have tb2 := M.out.tb2 (Below.refl w1.heap.size w1) HG2.out
    have e1 := tb2.cell 1
    have e2 := tb2.cell 2
    have f1 := tb2.frozen 1
    have f2 := tb2.frozen 2
    simp at e1 e2
    have hS : w2.cell? ⟨g, 1, none⟩ = some (.slice L t.length cl) ∧ w2.cell? ⟨g, 2, none⟩ = some (.slice Y y.length cy) := ⟨e1, e2⟩
    obtain ⟨EM, EE⟩ := M.out.end_ (Below.refl w1.heap.size w1) HOY.out HG2.out HA2.out
    have HEE := Lib.hid EE
    have c3' := ((tb2.set_ 1 (.slice L' (t.length + 1) cl')).set_ 2 (.slice Y' (y.length + 1) cy')).cell 3
    simp at c3'
    clear EE tb2
    refine hK _ _ (fun _ => hS) ?_
    clear hK
    (try simp only [Act.put, List.setIfInBounds_toArray, List.set_cons_zero, List.set_cons_succ])
    refine take0 (i := 16) (oi := _) (v := ?_) rfl (by kernel_rfl) (by kernel_rfl) (by kernel_rfl) (fun _ _ _ h => h) rfl (Or.inl ⟨by rfl, ?_⟩) (fun _ => hS) ?_
    rotate_left
    · intro w0; go_simp; with_reducible rfl
    (try simp only [Act.put, List.setIfInBounds_toArray, List.set_cons_zero, List.set_cons_succ])
    refine take0 (i := 17) (oi := _) (v := ?_) rfl (by kernel_rfl) (by kernel_rfl) (by kernel_rfl) (fun _ _ _ h => h) rfl (Or.inl ⟨by rfl, ?_⟩) (fun _ => hS) ?_
    rotate_left
    · intro w0; go_simp; with_reducible rfl
    (try simp only [Act.put, List.setIfInBounds_toArray, List.set_cons_zero, List.set_cons_succ])
    refine oneT (i := 18) (by kernel_rfl) rfl (by rfl) (fun K hK => ?_)
    go_simp
    refine hK _ _ (noT_no (by kernel_rfl)) ?_
    clear hK
    refine take0 (i := 19) (oi := _) (v := ?_) rfl (by kernel_rfl) (by kernel_rfl) (by kernel_rfl) (fun _ _ _ h => h) rfl (Or.inl ⟨by rfl, ?_⟩) (noT_no (by kernel_rfl)) ?_
    rotate_left
    · intro w0; go_simp; with_reducible rfl
    (try simp only [Act.put, List.setIfInBounds_toArray, List.set_cons_zero, List.set_cons_succ])
    refine take0 (i := 20) (oi := _) (v := ?_) rfl (by kernel_rfl) (by kernel_rfl) (by kernel_rfl) (fun _ _ _ h => h) rfl (Or.inl ⟨by rfl, ?_⟩) (noT_no (by kernel_rfl)) ?_
    rotate_left
    · intro w0; go_simp; with_reducible rfl
    (try simp only [Act.put, List.setIfInBounds_toArray, List.set_cons_zero, List.set_cons_succ])
    refine oneT (i := 21) (by kernel_rfl) rfl (by rfl) (fun K hK => ?_)
    go_simp
    refine hK _ _ (noT_no (by kernel_rfl)) ?_
    clear hK
    refine doneT (by kernel_rfl) ?_ _
    go_wp2_with (first | (at_mapUpdate; refine wpList_mapUpdate_own _ rfl _ _ _ 91 rfl 3 4 keyed_int Tryz.underlying91 (plainElem (H := Unit) Tryz.prog 4) gm t.length D rfl EM (by have := HT.out; unfold maxLen; omega) _ _ _ rfl rfl hkey _ [] (plainElem_bool Tryz.underlying4 true) ?_; intro w5 hown1 hgrow1))
    go_end0
    exact ⟨rfl, L', cl', Y', cy', _, HEE.out w5 _ hgrow1 hown1 (MapHas.put H.out.mp H.out.has l)⟩
end Go.Proofs.YtlfgcblijfflfaaGreat
