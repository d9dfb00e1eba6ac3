/- Contracts of the reference's Asked, Negatives, Falls. (Printed by wip/tools/refask.py.) -/
import Derived.Test.YtabjbpkojbdgaaaRefUnit
namespace Go.Proofs.Ytabjbpkojbdgaaa
open Go.RowKit
set_option linter.unusedSimpArgs false

/-- The state of Asked: the result's box at w's end, the trail behind it, two rows of the call's own. -/
structure AskSt (w wr : World) (L : Option Addr) (nl cl : Nat) (Y : Option Addr) (ny cy : Nat) (t y : List Int) : Prop where
  bl : Below w.heap.size w wr
  rb : Blk wr w.heap.size 35 #[.slice none 0 0, .slice none 0 0, .int .i64 0]
  tb : Blk wr (w.heap.size + 1) 35 #[.slice L nl cl, .slice Y ny cy, .int .i64 0]
  lo : Own 3 wr (w.heap.size + 2) L nl cl (t.map (Value.int .i64))
  yo : Own 3 wr (w.heap.size + 2) Y ny cy (y.map (Value.int .i64))
  ne : blockOf L = none ∨ blockOf L ≠ blockOf Y
section
variable {w wr W w1 : World} {L L' : Option Addr} {nl cl cl' : Nat} {Y Y' : Option Addr} {ny cy cy' : Nat} {t y : List Int} {z : Int}
theorem AskSt.tb1 (h : AskSt w wr L nl cl Y ny cy t y) (hB : Below wr.heap.size wr W) (hG : W.grownBy w1 (blockOf L)) : Blk w1 (w.heap.size + 1) 35 #[.slice L nl cl, .slice Y ny cy, .int .i64 0] :=
  (h.tb.keep hB).grownO (h.lo.keep hB) hG (by omega)
theorem AskSt.tb2 (h : AskSt w wr L nl cl Y ny cy t y) (hB : Below wr.heap.size wr W) (hG : W.grownBy w1 (blockOf Y)) : Blk w1 (w.heap.size + 1) 35 #[.slice L nl cl, .slice Y ny cy, .int .i64 0] :=
  (h.tb.keep hB).grownO (h.yo.keep hB) hG (by omega)
theorem AskSt.pushL (h : AskSt w wr L nl cl Y ny cy t y) (hB : Below wr.heap.size wr W) (hO : Own 3 w1 (w.heap.size + 2) L' (nl + 1) cl' (t.map (Value.int .i64) ++ [Value.int .i64 z])) (hG : W.grownBy w1 (blockOf L))
    (hA : blockOf L' = blockOf L ∨ blockOf L' = some W.heap.size) : AskSt w (w1.setCell ⟨w.heap.size + 1, 0, none⟩ (.slice L' (nl + 1) cl')) L' (nl + 1) cl' Y ny cy (t ++ [z]) y := by
  have tb := h.tb1 hB hG
  have rb := (h.rb.keep hB).grownO (h.lo.keep hB) hG (by omega)
  have yo := (h.yo.keep hB).kept hG (ne_symm' h.ne)
  have bl := below_grown (below_next h.bl hB) (h.lo.keep hB) (by omega) hG
  have hs := grown_setCell w1 ⟨w.heap.size + 1, 0, none⟩ (.slice L' (nl + 1) cl')
  refine ⟨bl.setCell (p := ⟨w.heap.size + 1, 0, none⟩) (by simp) _, rb.far (p := ⟨w.heap.size + 1, 0, none⟩) (by simp) _, ?_, ?_, yo.kept hs (yo.geb (show w.heap.size + 1 < w.heap.size + 2 by omega)), ?_⟩
  · have := tb.set_ 0 (.slice L' (nl + 1) cl')
    simpa using this
  · have := hO.kept hs (hO.geb (show w.heap.size + 1 < w.heap.size + 2 by omega))
    simpa using this
  · rcases hA with h1 | h1
    · rw [h1]; exact h.ne
    · right
      rw [h1]
      exact fun e => (h.yo.ltb hB.size) e.symm
theorem AskSt.pushY (h : AskSt w wr L nl cl Y ny cy t y) (hB : Below wr.heap.size wr W) (hO : Own 3 w1 (w.heap.size + 2) Y' (ny + 1) cy' (y.map (Value.int .i64) ++ [Value.int .i64 z])) (hG : W.grownBy w1 (blockOf Y))
    (hA : blockOf Y' = blockOf Y ∨ blockOf Y' = some W.heap.size) : AskSt w (w1.setCell ⟨w.heap.size + 1, 1, none⟩ (.slice Y' (ny + 1) cy')) L nl cl Y' (ny + 1) cy' t (y ++ [z]) := by
  have tb := h.tb2 hB hG
  have rb := (h.rb.keep hB).grownO (h.yo.keep hB) hG (by omega)
  have lo := (h.lo.keep hB).kept hG h.ne
  have bl := below_grown (below_next h.bl hB) (h.yo.keep hB) (by omega) hG
  have hs := grown_setCell w1 ⟨w.heap.size + 1, 1, none⟩ (.slice Y' (ny + 1) cy')
  refine ⟨bl.setCell (p := ⟨w.heap.size + 1, 1, none⟩) (by simp) _, rb.far (p := ⟨w.heap.size + 1, 1, none⟩) (by simp) _, ?_, lo.kept hs (lo.geb (show w.heap.size + 1 < w.heap.size + 2 by omega)), ?_, ?_⟩
  · have := tb.set_ 1 (.slice Y' (ny + 1) cy')
    simpa using this
  · have := hO.kept hs (hO.geb (show w.heap.size + 1 < w.heap.size + 2 by omega))
    simpa using this
  · rcases hA with h1 | h1
    · rw [h1]; exact h.ne
    · right
      rw [h1]
      exact h.lo.ltb hB.size
end

theorem ge_of {e : TypeId} {wr : World} {B n c s : Nat} {A X : Option Addr} {xs : List Value} (h : Own e wr (s + 2) A n c xs) (hs : s ≤ B) (hf : blockOf X = blockOf A ∨ ∀ k, blockOf X = some k → B ≤ k) : ∀ k, blockOf X = some k → s ≤ k := fun k hk => by
  rcases hf with hf | hf
  · rw [hf] at hk
    exact own_ge h (by omega) k hk
  · exact Nat.le_trans hs (hf k hk)
set_option maxHeartbeats 4000000 in
theorem asked_ref (base : Nat) (A B : Option Addr) (n c m d : Nat) (xss : List (List Int)) (q : List Int) (vars : Int) (w : World) (hg : Grid w A n c xss) (hq : Ints w B m d q) (v0 : 0 ≤ vars) (v1 : vars ≤ 1000000) (hc : ∀ x ∈ xss, Lits vars x) (hl : Lits vars q) (hb0 : base ≤ w.heap.size)
    (t y : List Int) (a : Int) (hr : Hid (askF vars xss q = (t, y, a))) :
    Calls Try.prog 28 #[.slice A n c, .slice B m d] w (RetRT base none none w t y a) := by
  have hbd := hq.bd
  have hlen := Lib.hid hq.len
  have hll := hl.len_le v0
  have hm6 : m ≤ 1000000 := by rw [hlen.out] at hll; omega
  obtain ⟨i0, hi0, hz0, hz1, hz2⟩ := info_parts int_info
  have HC := Lib.hid hc
  have HL := Lib.hid hl
  have HWF := Lib.hid hq.wf
  have H0 : Hid (AskSt w ((w.alloc (.cells #[.slice none 0 0, .slice none 0 0, .int .i64 0] 35)).alloc (.cells #[.slice none 0 0, .slice none 0 0, .int .i64 0] 35)) none 0 0 none 0 0 [] []) := by
    refine ⟨below_alloc (below_new _ _) _, (Blk.new w _ _).alloc _, ?_, Own.nil _ _ _, Own.nil _ _ _, .inl rfl⟩
    have := Blk.new (w.alloc (.cells #[.slice none 0 0, .slice none 0 0, .int .i64 0] 35)) 35 #[.slice none 0 0, .slice none 0 0, .int .i64 0]
    simpa using this
  clear hc hl hll
  go_enter Try.func28, Try.ntmps28
  go_wp2_with fail
  go_loopw [6] (fun i wr => ∃ (k : Nat) (L : Option Addr) (cl : Nat) (Y : Option Addr) (cy : Nat), k ≤ m ∧ i = .int .i64 k ∧ Hid (AskSt w wr L k cl Y k cy (q.take k) ((q.take k).map fun _ => -1))) (fun i _ => m - (intOf i).toNat)
  case atStart => exact ⟨0, none, 0, none, 0, Nat.zero_le _, rfl, by simpa [Hid] using H0.out⟩
  case round =>
    clear H0
    obtain ⟨k, L, cl, Y, cy, hk, rfl, hst⟩ := hrel
    have hx := hq.keep hst.out.bl
    have c0 := hst.out.tb.cell 0
    have c1 := hst.out.tb.cell 1
    have c2 := hst.out.tb.cell 2
    have hlt1 : w.heap.size + 1 < wr.heap.size := hst.out.tb.lt
    have hlt0 : w.heap.size < wr.heap.size := by omega
    simp at c0 c1 c2
    by_cases hlt : k < m
    · obtain ⟨b, off, z, rfl, hb, hcell, z1, z2, hz⟩ := hx.round hlt
      have y1 : (0 : Int) ≤ (k : Int) := by omega
      have y2 : (k : Int) < (m : Int) := by omega
      have hS : wr.drew.cell? ⟨w.heap.size + 1, 0, none⟩ = some (.slice L k cl) ∧ wr.drew.cell? ⟨b, off + k, none⟩ = some (.int .i64 z) := ⟨keepBox (below_drewN wr 1) c0, keepBox (below_drewN wr 1) hcell⟩
      go_wp2_with fail
      refine wp_region_tail (fun w' => w'.cell? ⟨w.heap.size + 1, 0, none⟩ = some (.slice L k cl) ∧ w'.cell? ⟨b, off + k, none⟩ = some (.int .i64 z)) [9] (by kernel_rfl) ?_
      refine take0 (i := 0) (oi := _) (v := ?_) rfl (by kernel_rfl) (by kernel_rfl) (by kernel_rfl) (fun _ _ _ h => h) rfl (Or.inl ⟨by rfl, ?_⟩) (fun _ => hS) ?_
      rotate_left
      · intro w0; go_simp; with_reducible rfl
      (try simp only [Act.put, List.setIfInBounds_toArray, List.set_cons_zero, List.set_cons_succ])
      refine takeS (i := 1) (oi := _) (v := ?_) rfl (by kernel_rfl) (by kernel_rfl) (by kernel_rfl) (fun _ _ _ h => h) rfl (by kernel_rfl) (by kernel_rfl) (Or.inl ⟨by rfl, ?_⟩) hS ?_
      rotate_left
      · intro w0 hSw; (try dsimp only at hSw); go_simp; with_reducible rfl
      (try simp only [Act.put, List.setIfInBounds_toArray, List.set_cons_zero, List.set_cons_succ])
      refine take0 (i := 2) (oi := _) (v := ?_) rfl (by kernel_rfl) (by kernel_rfl) (by kernel_rfl) (fun _ _ _ h => h) rfl (Or.inl ⟨by rfl, ?_⟩) (fun _ => hS) ?_
      rotate_left
      · intro w0; go_simp; with_reducible rfl
      (try simp only [Act.put, List.setIfInBounds_toArray, List.set_cons_zero, List.set_cons_succ])
      refine take0 (i := 3) (oi := _) (v := ?_) rfl (by kernel_rfl) (by kernel_rfl) (by kernel_rfl) (fun _ _ _ h => h) rfl (Or.inl ⟨by rfl, ?_⟩) (fun _ => hS) ?_
      rotate_left
      · intro w0; go_simp; with_reducible rfl
      (try simp only [Act.put, List.setIfInBounds_toArray, List.set_cons_zero, List.set_cons_succ])
      refine take0 (i := 4) (oi := _) (v := ?_) rfl (by kernel_rfl) (by kernel_rfl) (by kernel_rfl) (fun _ _ _ h => h) rfl (Or.inl ⟨by rfl, ?_⟩) (fun _ => hS) ?_
      rotate_left
      · intro w0; go_simp; with_reducible rfl
      (try simp only [Act.put, List.setIfInBounds_toArray, List.set_cons_zero, List.set_cons_succ])
      refine takeS (i := 5) (oi := _) (v := ?_) rfl (by kernel_rfl) (by kernel_rfl) (by kernel_rfl) (fun _ _ _ h => h) rfl (by kernel_rfl) (by kernel_rfl) (Or.inl ⟨by rfl, ?_⟩) hS ?_
      rotate_left
      · intro w0 hSw; (try dsimp only at hSw); go_simp; with_reducible rfl
      (try simp only [Act.put, List.setIfInBounds_toArray, List.set_cons_zero, List.set_cons_succ])
      refine oneT (i := 6) (by kernel_rfl) rfl (by rfl) (fun K hK => ?_)
      go_simp
      have hS : ((wr.alloc (.cells #[.int .i64 z] 3)).drew).cell? ⟨w.heap.size + 1, 0, none⟩ = some (.slice L k cl) ∧ ((wr.alloc (.cells #[.int .i64 z] 3)).drew).cell? ⟨b, off + k, none⟩ = some (.int .i64 z) := ⟨keepBox (below_drew1 (below_new wr _)) c0, keepBox (below_drew1 (below_new wr _)) hcell⟩
      refine hK _ _ (fun _ => hS) ?_
      clear hK
      (try simp only [Act.put, List.setIfInBounds_toArray, List.set_cons_zero, List.set_cons_succ])
      refine oneT (i := 7) (by kernel_rfl) rfl (by rfl) (fun K hK => ?_)
      refine wp_append_sl _ (.tmp 14) (.tmp 19) 25 rfl (w.heap.size + 2) 3 i0 _ 8 Try.underlying25 hi0 hz0 hz1 hz2 rfl L k cl _ rfl (hst.out.lo.keep (below_drew1 (below_new wr _))) (some ⟨wr.heap.size, 0, none⟩) 1 1 [.int .i64 z] rfl (sl_one wr 3 (.int .i64 z) rfl).drew1 (by simp [Value.oneCell']) (by simp only [maxLen]; omega) (by omega) (by simp; omega) ?_
      intro L1 cL1 w1 hO1 hG1 hA1
      have tb := hst.out.tb1 (below_drew1 (below_new wr _)) hG1
      have e0 := tb.cell 0
      have g0 := tb.frozen 0
      simp at e0
      have HST2 := Lib.hid (hst.out.pushL (below_drew1 (below_new wr _)) hO1 hG1 hA1)
      have hlt3 : b < w.heap.size + 1 := by rcases hq.sl.at_ (by omega) with ⟨b', off', e', hlt', _⟩; cases e'; omega
      have hcell1 : w1.cell? ⟨b, off + k, none⟩ = some (.int .i64 z) := by
        have := hst.out.lo.keep (below_drew1 (below_new wr (.cells #[.int .i64 z] 3)))
        exact ((below_grown (below_next hst.out.bl (below_drew1 (below_new wr _))) this (by omega) hG1).cell (p := ⟨b, off + k, none⟩) (by simp only; rcases hq.sl.at_ (by omega) with ⟨b', off', e', hlt', _⟩; cases e'; omega)).trans ((hst.out.bl.cell (p := ⟨b, off + k, none⟩) (by simp only; rcases hq.sl.at_ (by omega) with ⟨b', off', e', hlt', _⟩; cases e'; omega)).symm.trans hcell)
      have hS : w1.cell? ⟨w.heap.size + 1, 0, none⟩ = some (.slice L k cl) ∧ w1.cell? ⟨b, off + k, none⟩ = some (.int .i64 z) := ⟨e0, hcell1⟩
      clear hO1 hG1 hA1 tb
      refine hK _ _ (fun _ => hS) ?_
      clear hK
      (try simp only [Act.put, List.setIfInBounds_toArray, List.set_cons_zero, List.set_cons_succ])
      refine take0 (i := 8) (oi := _) (v := ?_) rfl (by kernel_rfl) (by kernel_rfl) (by kernel_rfl) (fun _ _ _ h => h) rfl (Or.inl ⟨by rfl, ?_⟩) (fun _ => hS) ?_
      rotate_left
      · intro w0; go_simp; with_reducible rfl
      (try simp only [Act.put, List.setIfInBounds_toArray, List.set_cons_zero, List.set_cons_succ])
      refine oneT (i := 9) (by kernel_rfl) rfl (by rfl) (fun K hK => ?_)
      go_simp
      refine hK _ _ (noT_no (by kernel_rfl)) ?_
      clear hK
      (try simp only [Act.put, List.setIfInBounds_toArray, List.set_cons_zero, List.set_cons_succ])
      refine doneT (by kernel_rfl) ?_ _
      obtain ⟨w2, hw2⟩ : ∃ w2 : World, w2 = w1.setCell ⟨w.heap.size + 1, 0, none⟩ (.slice L1 (k + 1) cL1) := ⟨_, rfl⟩
      rw [← hw2] at HST2 ⊢
      have l4 : w.heap.size + 1 < w2.heap.size := HST2.out.tb.lt
      have ltg4 : w.heap.size < w2.heap.size := by omega
      have e1' := HST2.out.tb.cell 1
      simp at e1'
      clear hw2 hS e0 g0 hcell hcell1 c0 c1 c2 hst hlt3
      go_wp2_with (first
        | (at_builtin
           refine wpList_append_sl _ rfl (.tmp 23) (.tmp 24) _ rfl (w.heap.size + 2) 3 i0 _ 8 Try.underlying25 hi0 hz0 hz1 hz2 rfl Y k cy _ rfl (HST2.out.yo.keep (below_new _ _)) (some ⟨w2.heap.size, 0, none⟩) 1 1 _ rfl (sl_one w2 3 (.int .i64 (-1)) rfl) (by simp [Value.oneCell']) (by simp only [maxLen]; omega) (by omega) (by simp; omega) ?_
           intro Y1 cY1 w3 hO3 hG3 hA3
           have tb := HST2.out.tb2 (below_new _ _) hG3
           have e1 := tb.cell 1
           have g1 := tb.frozen 1
           simp at e1
           have HST3 := Lib.hid (HST2.out.pushY (below_new _ _) hO3 hG3 hA3)
           clear hO3 hG3 hA3 tb))
      go_roundw
      case rel => exact ⟨k + 1, L1, cL1, Y1, cY1, by omega, by go_num, by rw [take_snoc_of hz.out, List.map_append]; exact HST3⟩
      case measure => simp [intOf]; omega
    · have hst2 : Hid (AskSt w wr L k cl Y k cy q (q.map fun _ => -1)) := by have := hst.out; rw [List.take_of_length_le (by rw [hlen.out]; omega)] at this; exact this
      clear hst
      have gW := hg.keep hst2.out.bl
      have iL := hst2.out.lo.ints HWF.out
      have iY := hst2.out.yo.ints (fun x hx => (by obtain ⟨_, _, rfl⟩ := List.mem_map.1 hx; unfold I64; omega))
      go_wp2_with fail
      refine (on_ref base _ _ _ _ _ _ _ _ _ xss q _ 0 _ gW iL iY (Nat.le_trans hb0 (Nat.le_of_lt hlt0)) (Apart.of_own hst2.out.lo) (Apart.of_own hst2.out.yo) vars v0 v1 HC.out HL.out (by simp) (vars.toNat + 1) (by omega) t y a hr).mono ?_
      rintro e w2 ⟨L2, nl2, cl2, Y2, ny2, cy2, rfl, i2, j2, pL2, pY2, fL2, fY2, hb2⟩
      have rb2 := hst2.out.rb.keep hb2
      have rr0 := rb2.cell 0
      have rr1 := rb2.cell 1
      have rr2 := rb2.cell 2
      have rf0 := rb2.frozen 0
      have rf1 := rb2.frozen 1
      have rf2 := rb2.frozen 2
      simp at rr0 rr1 rr2
      obtain ⟨q0, q1, q2⟩ := rb2.put3 (.slice L2 nl2 cl2) (.slice Y2 ny2 cy2) (.int .i64 a)
      have Q0 := Lib.hid q0
      have Q1 := Lib.hid q1
      have Q2 := Lib.hid q2
      have HRT := Lib.hid (ret_rt (L0 := none) (Y0 := none) (av := a) (below_next hst2.out.bl hb2) rb2 hb0 (Nat.le_refl _) i2 j2 pL2 pY2 (.inr (ge_of hst2.out.lo hst2.out.bl.size fL2)) (.inr (ge_of hst2.out.yo hst2.out.bl.size fY2)))
      clear q0 q1 q2 hb2 i2 j2 rb2 pL2 pY2 fL2 fY2
      go_wp2_with fail
      exact bodyPost_ret (v := .agg #[.slice L2 nl2 cl2, .slice Y2 ny2 cy2, .int .i64 a]) (by simp [results, Try.results28, go_sem, Q0.out, Q1.out, Q2.out]) rfl HRT.out

set_option maxHeartbeats 1000000 in
theorem negatives_any (B : Option Addr) (m d : Nat) (q : List Int) (w : World) (hq : Ints w B m d q) (hs : ∀ x ∈ q, -1000000 ≤ x ∧ x ≤ 1000000) (hm : m ≤ 1000000) :
    Calls Try.prog 60 #[.slice B m d] w (RetInts (negF q) w) := by
  have hbd := hq.bd
  have hlen := Lib.hid hq.len
  have HS := Lib.hid hs
  obtain ⟨i0, hi0, hz0, hz1, hz2⟩ := info_parts int_info
  clear hs
  go_enter Try.func60, Try.ntmps60
  go_wp2_with fail
  go_loopw [3, 4] (fun o i wr => ∃ (k cl : Nat) (Lf : Option Addr), k ≤ m ∧ o = .slice Lf k cl ∧ i = .int .i64 k ∧ Hid (Own 3 wr w.heap.size Lf k cl ((negF (q.take k)).map (Value.int .i64))) ∧ Hid (Below w.heap.size w wr)) (fun _ i _ => m - (intOf i).toNat)
  case atStart => exact ⟨0, 0, none, Nat.zero_le _, rfl, rfl, Own.nil _ _ _, Below.refl _ _⟩
  case round =>
    obtain ⟨k, cl, Lf, hk, rfl, rfl, hown, hbl⟩ := hrel
    have hx := hq.keep hbl.out
    by_cases hlt : k < m
    · obtain ⟨b, off, z, rfl, hb, hcell, z1, z2, hz⟩ := hx.round hlt
      have hzb := HS.out z (List.mem_of_getElem? hz.out)
      have hS := ints_made wr 3 [-z] rfl (by simp [I64]; omega) (by simp [maxLen])
      go_wp2_with (first
        | (at_builtin
           refine wpList_append_sl _ rfl (.tmp 11) (.tmp 17) _ rfl w.heap.size 3 i0 _ 8 Try.underlying25 hi0 hz0 hz1 hz2 rfl Lf k cl _ rfl (hown.out.keep (below_new _ _)) (some ⟨wr.heap.size, 0, none⟩) 1 1 _ rfl hS.sl (ints_one _) (by simp only [maxLen]; omega) (by omega) (by have := hbl.out.size; simp; omega) ?_
           intro L1 cL1 w5 hL1 hg1 hat1
           have HL1 := Lib.hid hL1
           have HB5 := Lib.hid (below_grown (below_alloc hbl.out (.cells #[.int .i64 (-z)] 3)) (hown.out.keep (below_new wr (.cells #[.int .i64 (-z)] 3))) (Nat.le_refl _) hg1)
           clear hL1 hg1 hat1))
      go_roundw
      case rel => exact ⟨k + 1, cL1, L1, by omega, rfl, by go_num, by rw [take_snoc_of hz.out, negF, List.map_append, List.map_append]; exact HL1, HB5⟩
      case measure => simp [intOf]; omega
    · have hres : Hid (Own 3 wr w.heap.size Lf k cl ((negF q).map (Value.int .i64))) := by have := hown.out; rw [List.take_of_length_le (by rw [hlen.out]; omega)] at this; exact this
      clear hown
      go_wp2_with fail
      go_ret
      exact ⟨Lf, k, cl, rfl, hres.out, hbl.out⟩
theorem negR_i64 {vars : Int} {q : List Int} (v1 : vars ≤ 1000000) (h : Lits vars q) : ∀ x ∈ negF q, I64 x := fun x hx => by
  have := (h.neg).1 x hx
  unfold I64
  omega
theorem run_field1 (w : World) (x0 x1 x2 : Value) : (Instr.field 35 (.agg #[x0, x1, x2]) 1).run Try.prog w = .ok x1 w := by kernel_rfl
theorem run_field2 (w : World) (x0 x1 x2 : Value) : (Instr.field 35 (.agg #[x0, x1, x2]) 2).run Try.prog w = .ok x2 w := by kernel_rfl
set_option maxHeartbeats 1000000 in
theorem fallsR_any (A B : Option Addr) (n c m d : Nat) (xss : List (List Int)) (q : List Int) (vars : Int) (w : World) (hg : Grid w A n c xss) (hq : Ints w B m d q) (v0 : 0 ≤ vars) (v1 : vars ≤ 1000000) (hc : ∀ x ∈ xss, Lits vars x) (hl : Lits vars q)
    (r : Bool) (hr : Hid (fallsF vars xss q = r)) :
    Calls Try.prog 92 #[.slice A n c, .slice B m d] w (RetV (.bool r) w) := by
  have hlen := Lib.hid hq.len
  have hll := hl.len_le v0
  have hm6 : m ≤ 1000000 := by rw [hlen.out] at hll; omega
  have HC := Lib.hid hc
  have HL := Lib.hid hl
  have HS : Hid (∀ x ∈ q, -1000000 ≤ x ∧ x ≤ 1000000) := fun x hx => by have := hl.1 x hx; omega
  obtain ⟨t, y, a, ha⟩ : ∃ t y a, Hid (askF vars xss (negF q) = (t, y, a)) := ⟨_, _, _, rfl⟩
  have hra : Hid (decide (0 ≤ a) = r) := by have := hr.out; rw [fallsF, ha.out] at this; exact this
  have hfld := run_field2
  clear hc hl hll hr
  go_enter Try.func92, Try.ntmps92
  go_wp2_with fail
  refine (negatives_any _ _ _ q w hq HS.out hm6).mono ?_
  rintro e w1 ⟨L, nL, cL, rfl, hown, hb1⟩
  have hI := hown.ints (negR_i64 v1 HL.out)
  have HB1 := Lib.hid hb1
  have hg1 := hg.keep hb1
  clear hown hb1
  go_wp2_with fail
  refine (asked_ref 0 _ _ _ _ _ _ xss (negF q) vars w1 hg1 hI v0 v1 HC.out HL.out.neg (Nat.zero_le _) t y a ha).mono ?_
  rintro e w2 ⟨L2, nl2, cl2, Y2, ny2, cy2, rfl, _, _, _, _, _, _, hb2⟩
  have HB2 := Lib.hid (below_next HB1.out hb2)
  clear hb2
  go_wp2_with fail
  go_ret
  exact ⟨by rw [← hra.out]; rfl, HB2.out⟩

end Go.Proofs.Ytabjbpkojbdgaaa
