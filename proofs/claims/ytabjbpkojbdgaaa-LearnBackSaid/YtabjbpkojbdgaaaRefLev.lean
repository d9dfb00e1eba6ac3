/- Contract of the reference's Levels. (Printed by wip/tools/reflev.py.) -/
import Derived.Test.YtabjbpkojbdgaaaRefAsk
import Derived.Test.YtabjbpkojbdgaaaLearn
namespace Go.Proofs.Ytabjbpkojbdgaaa
open Go.RowKit
set_option linter.unusedSimpArgs false

/-- The state of Levels: the result's box at w's end, the trail's box gt, its rows; the levels, a row of the call's own. -/
structure LvSt (w wr : World) (gt : Nat) (L : Option Addr) (nl cl : Nat) (Y : Option Addr) (ny cy : Nat) (av : Int) (t y : List Int) (V : Option Addr) (nv cv : Nat) (v : List Int) : Prop where
  bl : Below w.heap.size w wr
  rb : Blk wr w.heap.size 35 #[.slice none 0 0, .slice none 0 0, .int .i64 0]
  tb : Blk wr gt 35 #[.slice L nl cl, .slice Y ny cy, .int .i64 av]
  lo : w.heap.size < gt
  li : Ints wr L nl cl t
  yi : Ints wr Y ny cy y
  pL : Apart 3 wr w.heap.size L
  pY : Apart 3 wr w.heap.size Y
  vo : Own 3 wr (w.heap.size + 1) V nv cv (v.map (Value.int .i64))
  nL : blockOf V = none ∨ blockOf V ≠ blockOf L
  nY : blockOf V = none ∨ blockOf V ≠ blockOf Y
section
variable {w wr w' W w1 : World} {gt : Nat} {L : Option Addr} {nl cl : Nat} {Y : Option Addr} {ny cy : Nat} {av : Int} {t y : List Int} {V V' : Option Addr} {nv cv cv' : Nat} {v : List Int}
theorem LvSt.keep (h : LvSt w wr gt L nl cl Y ny cy av t y V nv cv v) (hb : Below wr.heap.size wr w') : LvSt w w' gt L nl cl Y ny cy av t y V nv cv v :=
  ⟨below_next h.bl hb, h.rb.keep hb, h.tb.keep hb, h.lo, h.li.keep hb, h.yi.keep hb, h.pL.keep hb, h.pY.keep hb, h.vo.keep hb, h.nL, h.nY⟩
/-- The trail's box is written. -/
theorem LvSt.set_ {A B : Option Addr} {na ca nb cb : Nat} {ta tb : List Int} {a : Int} (h : LvSt w wr gt L nl cl Y ny cy av t y V nv cv v) (i : Nat) (u : Value) (hs : (#[Value.slice L nl cl, .slice Y ny cy, .int .i64 av] : Array Value).setIfInBounds i u = #[.slice A na ca, .slice B nb cb, .int .i64 a])
    (hA : Ints wr A na ca ta) (hB : Ints wr B nb cb tb) (pA : Apart 3 wr w.heap.size A) (pB : Apart 3 wr w.heap.size B) (nA : blockOf V = none ∨ blockOf V ≠ blockOf A) (nB : blockOf V = none ∨ blockOf V ≠ blockOf B) :
    LvSt w (wr.setCell ⟨gt, i, none⟩ u) gt A na ca B nb cb a ta tb V nv cv v := by
  have hg := grown_setCell wr ⟨gt, i, none⟩ u
  have hT := Typed.of_blk h.tb
  have eA := pA.ne (Nat.le_of_lt h.lo) hT (by decide)
  have eB := pB.ne (Nat.le_of_lt h.lo) hT (by decide)
  refine ⟨h.bl.setCell (p := ⟨gt, i, none⟩) (Nat.le_of_lt h.lo) _, h.rb.far (p := ⟨gt, i, none⟩) (Nat.ne_of_lt h.lo) _, ?_, h.lo, hA.kept hg eA, hB.kept hg eB, pA.kept hg eA, pB.kept hg eB, h.vo.kept hg (h.vo.ne_typed hT (by decide)), nA, nB⟩
  rw [← hs]
  exact h.tb.set_ i u
/-- A level more. -/
theorem LvSt.push (h : LvSt w wr gt L nl cl Y ny cy av t y V nv cv v) (hB : Below wr.heap.size wr W) {x : Int} (hO : Own 3 w1 (w.heap.size + 1) V' (nv + 1) cv' (v.map (Value.int .i64) ++ [Value.int .i64 x])) (hG : W.grownBy w1 (blockOf V))
    (hA : blockOf V' = blockOf V ∨ blockOf V' = some W.heap.size) : LvSt w w1 gt L nl cl Y ny cy av t y V' (nv + 1) cv' (v ++ [x]) := by
  have h1 := h.keep hB
  have e : ∀ {X : Option Addr}, Apart 3 wr w.heap.size X → (blockOf V = none ∨ blockOf V ≠ blockOf X) → (blockOf V' = none ∨ blockOf V' ≠ blockOf X) := fun {X} hp hn => by
    rcases hA with h2 | h2
    · rw [h2]; exact hn
    · right
      rw [h2]
      intro e2
      cases X with
      | none => cases e2
      | some ad =>
        simp [blockOf] at e2
        rcases hp ad rfl with h3 | ⟨cur, fz, hh⟩
        · have := h1.bl.size; omega
        · have := heap_lt hh; have := hB.size; omega
  have eT := h1.vo.ne_typed (Typed.of_blk h1.tb) (by decide)
  have eR := h1.vo.ne_typed (Typed.of_blk h1.rb) (by decide)
  refine ⟨below_grown h1.bl h1.vo (by omega) hG, h1.rb.grown hG (own_typed_ne h1.vo (Typed.of_blk h1.rb) (by decide)), h1.tb.grown hG (own_typed_ne h1.vo (Typed.of_blk h1.tb) (by decide)), h1.lo, h1.li.kept hG (ne_symm' h1.nL), h1.yi.kept hG (ne_symm' h1.nY), h1.pL.kept hG (ne_symm' h1.nL), h1.pY.kept hG (ne_symm' h1.nY), by simpa using hO, e h.pL h.nL, e h.pY h.nY⟩
end
theorem fresh_ne {e : TypeId} {wr : World} {base n c B : Nat} {V A X : Option Addr} {xs : List Value} (h : Own e wr base V n c xs) (hB : wr.heap.size ≤ B) (hn : blockOf V = none ∨ blockOf V ≠ blockOf A) (hf : blockOf X = blockOf A ∨ ∀ k, blockOf X = some k → B ≤ k) : blockOf V = none ∨ blockOf V ≠ blockOf X := by
  rcases hf with hf | hf
  · rw [hf]; exact hn
  · rcases h.form with ⟨rfl, _⟩ | ⟨g, cur, rfl, _, hh, _⟩
    · exact .inl rfl
    · right
      intro e1
      have h1 := hf g (by rw [← e1]; rfl)
      have := heap_lt hh
      omega

/-- A trail, its levels, and the last level. -/
def RetLv (w : World) (t y v : List Int) (z a : Int) (e : Ending) (w' : World) : Prop :=
  ∃ L nl cl Y ny cy V nv cv, e = .returned (.tuple #[.agg #[.slice L nl cl, .slice Y ny cy, .int .i64 a], .slice V nv cv, .int .i64 z]) ∧ Ints w' L nl cl t ∧ Ints w' Y ny cy y ∧ Ints w' V nv cv v ∧ Apart 3 w' w.heap.size L ∧ Apart 3 w' w.heap.size Y ∧ Apart 3 w' w.heap.size V ∧ Below w.heap.size w w'
theorem startF_i64 {v : List Int} {n : Nat} (h : ∀ x ∈ v, 0 ≤ x ∧ x ≤ (n : Int)) (hn : n ≤ 1000000) : ∀ x ∈ v, I64 x := fun x hx => by have := h x hx; unfold I64; omega

set_option maxHeartbeats 8000000 in
theorem lev_ref (A B : Option Addr) (n c m d : Nat) (xss : List (List Int)) (q : List Int) (vars : Int) (w : World) (hg : Grid w A n c xss) (hq : Ints w B m d q) (v0 : 0 ≤ vars) (v1 : vars ≤ 1000000) (hc : ∀ x ∈ xss, Lits vars x) (hl : Lits vars q)
    (t' y' v' : List Int) (z' : Nat) (a' : Int) (hr : Hid (startF vars xss q = (t', y', v', z', a'))) :
    Calls Try.prog 17 #[.slice A n c, .slice B m d] w (RetLv w t' y' v' z' a') := by
  have hbd := hq.bd
  have hlen := Lib.hid hq.len
  have hm6 : m ≤ 1000000 := by have := hl.len_le v0; rw [hlen.out] at this; omega
  obtain ⟨i0, hi0, hz0, hz1, hz2⟩ := info_parts int_info
  have HC := Lib.hid hc
  have HL := Lib.hid hl
  have G := Lib.hid hg
  have Q := Lib.hid hq
  obtain ⟨t0, y0, a0, hr0⟩ : ∃ t0 y0 a0, Hid (runF xss (vars.toNat + 1) [] [] = (t0, y0, a0)) := ⟨_, _, _, rfl⟩
  have hok0 := runF_ok v0 hc (vars.toNat + 1) [] [] ⟨by simp, List.Pairwise.nil⟩ (by simp; omega)
  rw [hr0.out] at hok0
  have HL0 : Hid (Lits vars t0) := hok0.lits
  have HY0 : Hid (y0.length = t0.length) := hok0.same rfl
  have ht06 : t0.length ≤ 1000000 := by have := hok0.lits.len_le v0; simp only at this; omega
  have hr1 : Hid (lvlF vars xss q t0 y0 (List.replicate t0.length 0) 0 a0 = (t', y', v', z', a')) := by have := hr.out; rw [startF, hr0.out] at this; exact this
  clear hc hl hok0 hr hg hq
  go_enter Try.func17, Try.ntmps17
  go_wp2_with fail
  refine (on_ref w.heap.size _ _ _ _ _ _ _ _ _ xss [] [] 0 _ (G.out.keep (below_new _ _)) (ints_nil _) (ints_nil _) (by simp) (apart_none _ _ _) (apart_none _ _ _) vars v0 v1 HC.out ⟨by simp, List.Pairwise.nil⟩ rfl (vars.toNat + 1) (by simp; omega) t0 y0 a0 hr0).mono ?_
  rintro e w1 ⟨L0, nl0, cl0, Y0, ny0, cy0, rfl, iL0, iY0, pL0, pY0, _, _, hb1⟩
  obtain ⟨K0, B1, l1⟩ := blk1 hb1
  have HST0 : Hid (LvSt w (w1.alloc (.cells #[.slice L0 nl0 cl0, .slice Y0 ny0 cy0, .int .i64 a0] 35)) w1.heap.size L0 nl0 cl0 Y0 ny0 cy0 a0 t0 y0 none 0 0 []) :=
    ⟨below_alloc B1 _, K0.alloc _, Blk.new _ _ _, by omega, iL0.keep (below_new _ _), iY0.keep (below_new _ _), pL0.keep (below_new _ _), pY0.keep (below_new _ _), Own.nil _ _ _, .inl rfl, .inl rfl⟩
  have HNL0 : Hid (t0.length = nl0) := iL0.len
  clear hb1 K0 B1 iL0 iY0 pL0 pY0
  go_wp2_with fail
  obtain ⟨gt, hgt⟩ : ∃ gt, gt = w1.heap.size := ⟨_, rfl⟩
  rw [← hgt] at HST0 ⊢
  go_loopw [8, 9] (fun o i wr => ∃ (k cv : Nat) (V : Option Addr), k ≤ nl0 ∧ o = .slice V k cv ∧ i = .int .i64 k ∧ Hid (LvSt w wr gt L0 nl0 cl0 Y0 ny0 cy0 a0 t0 y0 V k cv (List.replicate k 0))) (fun _ i _ => nl0 - (intOf i).toNat)
  case atStart => exact ⟨0, 0, none, Nat.zero_le _, rfl, rfl, HST0⟩
  case round =>
    clear HST0 l1 hgt
    obtain ⟨k, cv, V, hk, rfl, rfl, hst⟩ := hrel
    have c0 := hst.out.tb.cell 0
    have c2 := hst.out.tb.cell 2
    simp at c0 c2
    have ltt := hst.out.tb.lt
    have hnl6 : nl0 ≤ 1000000 := by have := HNL0.out; omega
    by_cases hlt : k < nl0
    · have hS := ints_made wr 3 [0] rfl (by simp [I64]) (by simp [maxLen])
      have hwz := hst.out.bl.size
      have hlo := hst.out.lo
      go_wp2_with (first
        | (at_builtin
           refine wpList_append_sl _ rfl (.tmp 22) (.tmp 23) _ rfl (w.heap.size + 1) 3 i0 _ 8 Try.underlying25 hi0 hz0 hz1 hz2 rfl V k cv _ rfl (hst.out.vo.keep (below_new _ _)) (some ⟨wr.heap.size, 0, none⟩) 1 1 _ rfl hS.sl (ints_one _) (by simp only [maxLen]; omega) (by omega) (by simp; omega) ?_
           intro V1 cV1 w5 hO hG hA
           have HST1 := Lib.hid (hst.out.push (x := 0) (below_new _ _) hO hG hA)
           clear hO hG hA))
      go_roundw
      case rel => exact ⟨k + 1, cV1, V1, by omega, rfl, by go_num, by rw [List.replicate_succ']; exact HST1⟩
      case measure => simp [intOf]; omega
    · obtain rfl : k = nl0 := by omega
      have HST2 : Hid (LvSt w wr gt L0 k cl0 Y0 ny0 cy0 a0 t0 y0 V k cv (List.replicate t0.length 0)) := by rw [HNL0.out]; exact hst
      clear hst hlt
      go_wp2_with fail
      go_loopw [8, 10, 11] (fun o zz i wr => ∃ (k : Nat) (L : Option Addr) (nl cl : Nat) (Y : Option Addr) (ny cy : Nat) (a : Int) (t y : List Int) (V : Option Addr) (nv cv : Nat) (v : List Int) (z : Nat), k ≤ m ∧ z ≤ k ∧ o = .slice V nv cv ∧ zz = .int .i64 z ∧ i = .int .i64 k ∧ Hid (LvSt w wr gt L nl cl Y ny cy a t y V nv cv v) ∧ Hid (Lits vars t) ∧ Hid (y.length = t.length) ∧ Hid (v.length = t.length) ∧ Hid (∀ x ∈ v, 0 ≤ x ∧ x ≤ (z : Int)) ∧ Hid (lvlF vars xss (q.drop k) t y v z a = (t', y', v', z', a'))) (fun _ _ i _ => m - (intOf i).toNat)
      case atStart => exact ⟨0, L0, k, cl0, Y0, ny0, cy0, a0, t0, y0, V, k, cv, _, 0, Nat.zero_le _, Nat.zero_le _, rfl, rfl, rfl, HST2, HL0, HY0, by simp [Hid], (fun x hx => by rw [List.mem_replicate] at hx; rw [hx.2]; simp), hr1⟩
      case round =>
        clear HST2 HL0 HY0 hr1 hr0 c0 c2
        obtain ⟨k, L, nl, cl, Y, ny, cy, a, t, y, V, nv, cv, v, z, hk, hzk, rfl, rfl, rfl, hst, ht, hy, hvt, hvz, hlv⟩ := hrel
        have c0 := hst.out.tb.cell 0
        have c1 := hst.out.tb.cell 1
        have c2 := hst.out.tb.cell 2
        simp at c0 c1 c2
        have ltt := hst.out.tb.lt
        have hfinish : Hid ((t, y, v, z, a) = (t', y', v', z', a') → RetLv w t' y' v' z' a' (.returned (.tuple #[.agg #[.slice L nl cl, .slice Y ny cy, .int .i64 a], .slice V nv cv, .int .i64 z])) (((wr.setCell ⟨w.heap.size, 0, none⟩ (.slice L nl cl)).setCell ⟨w.heap.size, 1, none⟩ (.slice Y ny cy)).setCell ⟨w.heap.size, 2, none⟩ (.int .i64 a))) := fun hfin => by
          obtain ⟨rfl, rfl, rfl, rfl, rfl⟩ : t = t' ∧ y = y' ∧ v = v' ∧ z = z' ∧ a = a' := by simpa using hfin
          have rt := ret_rt (base := w.heap.size) (L0 := L) (Y0 := Y) (av := a) hst.out.bl hst.out.rb (Nat.le_refl _) (Nat.le_refl _) hst.out.li hst.out.yi hst.out.pL hst.out.pY (.inl rfl) (.inl rfl)
          obtain ⟨L', nl', cl', Y', ny', cy', he, i1, i2, p1, p2, _, _, hb⟩ := rt
          cases he
          have iv := hst.out.vo.ints (startF_i64 hvz.out (by omega))
          have ne := hst.out.vo.ne_typed (Typed.of_blk hst.out.rb) (by decide)
          have g0 := grown_setCell wr ⟨w.heap.size, 0, none⟩ (.slice L nl cl)
          have g1 := grown_setCell (wr.setCell ⟨w.heap.size, 0, none⟩ (.slice L nl cl)) ⟨w.heap.size, 1, none⟩ (.slice Y ny cy)
          have g2 := grown_setCell ((wr.setCell ⟨w.heap.size, 0, none⟩ (.slice L nl cl)).setCell ⟨w.heap.size, 1, none⟩ (.slice Y ny cy)) ⟨w.heap.size, 2, none⟩ (.int .i64 a)
          have pv : Apart 3 wr w.heap.size V := Apart.of_own hst.out.vo
          exact ⟨L, nl, cl, Y, ny, cy, V, nv, cv, rfl, i1, i2, ((iv.kept g0 ne).kept g1 ne).kept g2 ne, p1, p2, ((pv.kept g0 ne).kept g1 ne).kept g2 ne, hb⟩
        have rr0 := hst.out.rb.cell 0
        have rr1 := hst.out.rb.cell 1
        have rr2 := hst.out.rb.cell 2
        have rf0 := hst.out.rb.frozen 0
        have rf1 := hst.out.rb.frozen 1
        have rf2 := hst.out.rb.frozen 2
        simp at rr0 rr1 rr2
        obtain ⟨q0, q1, q2⟩ := hst.out.rb.put3 (.slice L nl cl) (.slice Y ny cy) (.int .i64 a)
        have Q0 := Lib.hid q0
        have Q1 := Lib.hid q1
        have Q2 := Lib.hid q2
        clear q0 q1 q2
        by_cases hlt : k < m
        · by_cases ha : 0 ≤ a
          · have dn : decide (a < 0) = false := decide_eq_false (by omega)
            have hfin : Hid ((t, y, v, z, a) = (t', y', v', z', a')) := by
              obtain ⟨b, off, l, _, hb, hcell, l1, l2, hlz⟩ := Q.out.round hlt
              have := hlv.out; rw [drop_cons_of hlz.out, lvlF, if_pos ha] at this; exact this
            go_wp2_with fail
            exact bodyPost_ret (v := .tuple #[.agg #[.slice L nl cl, .slice Y ny cy, .int .i64 a], .slice V nv cv, .int .i64 z]) (by simp [results, Try.results17, go_sem, Q0.out, Q1.out, Q2.out]) rfl (hfinish.out hfin.out)
          · have dn : decide (a < 0) = true := decide_eq_true (by omega)
            have ha' : a < 0 := by omega
            obtain ⟨b, off, l, rfl, hb, hcell, l1, l2, hlz⟩ := (Q.out.keep hst.out.bl).round hlt
            have hlm := List.mem_of_getElem? hlz.out
            have hll := HL.out.1 l hlm
            obtain ⟨q1, hq1⟩ : ∃ q, Hid (hasB t l = q) := ⟨_, rfl⟩
            obtain ⟨q2, hq2⟩ : ∃ q, Hid (hasB t (-l) = q) := ⟨_, rfl⟩
            obtain ⟨t2, y2, a2, hr2⟩ : ∃ t2 y2 a2, Hid (runF xss (vars.toNat + 1) (t ++ [l]) (y ++ [-1]) = (t2, y2, a2)) := ⟨(runF xss (vars.toNat + 1) (t ++ [l]) (y ++ [-1])).1, (runF xss (vars.toNat + 1) (t ++ [l]) (y ++ [-1])).2.1, (runF xss (vars.toNat + 1) (t ++ [l]) (y ++ [-1])).2.2, rfl⟩
            have hlv2 : Hid ((if q1 || q2 then lvlF vars xss (q.drop (k + 1)) t y v z a else lvlF vars xss (q.drop (k + 1)) t2 y2 (v ++ List.replicate (t2.length - v.length) ((z : Int) + 1)) (z + 1) a2) = (t', y', v', z', a')) := by
              have := hlv.out
              rw [drop_cons_of hlz.out, lvlF, if_neg ha, hq1.out, hq2.out, hr2.out] at this
              exact this
            have HLI := Lib.hid hst.out.li
            have x1 : (0 : Int) ≤ (k : Int) := by omega
            have x2 : (k : Int) < (m : Int) := by omega
            clear hlv hfinish Q0 Q1 Q2 rr0 rr1 rr2 rf0 rf1 rf2
            cases q1
            · cases q2
              · go_wp2_with fail
                go_quiet ((go_at_call 29; refine RetQ.quiet (has_any _ _ _ t _ _ (HLI.out.drewN _) false ?_); first | exact hq1 | exact hq2))
                go_wp2_with fail
                obtain ⟨wq, hwq⟩ : ∃ wq : World, wq = wr.drewN nq := ⟨_, rfl⟩
                have hbq : Below wr.heap.size wr wq := by rw [hwq]; exact below_drewN _ _
                have hstq := Lib.hid (hst.out.keep hbq)
                rw [← hwq]
                have b0 := keepBox hbq c0
                have bc := keepBox hbq hcell
                have hnl : nl ≤ 1000000 := by have := hst.out.li.len; have := ht.out.len_le v0; omega
                have hny : ny ≤ 1000000 := by have := hst.out.yi.len; have := ht.out.len_le v0; have := hy.out; omega
                have HLQ := Lib.hid hstq.out.li
                have HLT := Lib.hid (lits_app ht.out HL.out hlm hq1.out hq2.out)
                have l64 : Hid (I64 l) := ⟨l1, l2⟩
                have hwqz := hstq.out.bl.size
                have hlo := hstq.out.lo
                clear hwq hst c0 c1 c2 hcell hbq HLI hlm
                have hS : wq.drew.cell? ⟨gt, 0, none⟩ = some (.slice L nl cl) ∧ wq.drew.cell? ⟨b, off + k, none⟩ = some (.int .i64 l) := ⟨keepBox (below_drewN wq 1) b0, keepBox (below_drewN wq 1) bc⟩
                refine wp_region_tail (fun w' => w'.cell? ⟨gt, 0, none⟩ = some (.slice L nl cl) ∧ w'.cell? ⟨b, off + k, none⟩ = some (.int .i64 l)) [11] (by kernel_rfl) ?_
                refine take0 (i := 1) (oi := _) (v := ?_) rfl (by kernel_rfl) (by kernel_rfl) (by kernel_rfl) (fun _ _ _ h => h) rfl (Or.inl ⟨by rfl, ?_⟩) (fun _ => hS) ?_
                rotate_left
                · intro w0; go_simp; with_reducible rfl
                (try simp only [Act.put, List.setIfInBounds_toArray, List.set_cons_zero, List.set_cons_succ])
                refine takeS (i := 2) (oi := _) (v := ?_) rfl (by kernel_rfl) (by kernel_rfl) (by kernel_rfl) (fun _ _ _ h => h) rfl (by kernel_rfl) (by kernel_rfl) (Or.inl ⟨by rfl, ?_⟩) hS ?_
                rotate_left
                · intro w0 hSw; (try dsimp only at hSw); go_simp; with_reducible rfl
                (try simp only [Act.put, List.setIfInBounds_toArray, List.set_cons_zero, List.set_cons_succ])
                refine take0 (i := 4) (oi := _) (v := ?_) rfl (by kernel_rfl) (by kernel_rfl) (by kernel_rfl) (fun _ _ _ h => h) rfl (Or.inl ⟨by rfl, ?_⟩) (fun _ => hS) ?_
                rotate_left
                · intro w0; go_simp; with_reducible rfl
                (try simp only [Act.put, List.setIfInBounds_toArray, List.set_cons_zero, List.set_cons_succ])
                refine take0 (i := 5) (oi := _) (v := ?_) rfl (by kernel_rfl) (by kernel_rfl) (by kernel_rfl) (fun _ _ _ h => h) rfl (Or.inl ⟨by rfl, ?_⟩) (fun _ => hS) ?_
                rotate_left
                · intro w0; go_simp; with_reducible rfl
                (try simp only [Act.put, List.setIfInBounds_toArray, List.set_cons_zero, List.set_cons_succ])
                refine take0 (i := 6) (oi := _) (v := ?_) rfl (by kernel_rfl) (by kernel_rfl) (by kernel_rfl) (fun _ _ _ h => h) rfl (Or.inl ⟨by rfl, ?_⟩) (fun _ => hS) ?_
                rotate_left
                · intro w0; go_simp; with_reducible rfl
                (try simp only [Act.put, List.setIfInBounds_toArray, List.set_cons_zero, List.set_cons_succ])
                refine takeS (i := 7) (oi := _) (v := ?_) rfl (by kernel_rfl) (by kernel_rfl) (by kernel_rfl) (fun _ _ _ h => h) rfl (by kernel_rfl) (by kernel_rfl) (Or.inl ⟨by rfl, ?_⟩) hS ?_
                rotate_left
                · intro w0 hSw; (try dsimp only at hSw); go_simp; with_reducible rfl
                (try simp only [Act.put, List.setIfInBounds_toArray, List.set_cons_zero, List.set_cons_succ])
                refine twoT (i := 0) (j := 8) (by kernel_rfl) rfl (by rfl) rfl (by rfl) (fun K hK => ?_) (fun K hK => ?_)
                · go_simp
                  have hS : ((wq.alloc (.cells #[] 3)).drew).cell? ⟨gt, 0, none⟩ = some (.slice L nl cl) ∧ ((wq.alloc (.cells #[] 3)).drew).cell? ⟨b, off + k, none⟩ = some (.int .i64 l) := ⟨keepBox (below_drew1 (below_new wq _)) b0, keepBox (below_drew1 (below_new wq _)) bc⟩
                  refine hK _ _ (fun _ => hS) ?_
                  clear hK
                  (try simp only [Act.put, List.setIfInBounds_toArray, List.set_cons_zero, List.set_cons_succ])
                  refine twoT (i := 3) (j := 8) (by kernel_rfl) rfl (by rfl) rfl (by rfl) (fun K hK => ?_) (fun K hK => ?_)
                  · refine wp_append_sl _ (.tmp 55) (.tmp 57) 25 rfl wq.heap.size 3 i0 _ 8 Try.underlying25 hi0 hz0 hz1 hz2 rfl (some ⟨wq.heap.size, 0, none⟩) 0 0 [] rfl (own_empty 3 wq wq.heap.size rfl (Nat.le_refl _)).drew1 L nl cl (t.map (Value.int .i64)) rfl (HLQ.out.keep (below_drew1 (below_new wq _))).sl (ints_one _) (by simp only [maxLen]; omega) (by omega) (by simp; try omega) ?_
                    intro L1 cL1 w1 hO1 hG1 hA1
                    have HB1 := Lib.hid (below_grown (below_drew1 (below_new wq _)) (own_empty 3 wq wq.heap.size rfl (Nat.le_refl _)).drew1 (Nat.le_refl _) hG1)
                    have HG1 := Lib.hid hG1
                    have HO1 : Hid (Own 3 w1 wq.heap.size L1 nl cL1 (t.map (Value.int .i64))) := by simpa [Hid] using hO1
                    have lw1 := HB1.out.size
                    clear hO1 hG1 hA1
                    have hS : w1.cell? ⟨gt, 0, none⟩ = some (.slice L nl cl) ∧ w1.cell? ⟨b, off + k, none⟩ = some (.int .i64 l) := ⟨keepBox HB1.out b0, keepBox HB1.out bc⟩
                    refine hK _ _ (fun _ => hS) ?_
                    clear hK
                    (try simp only [Act.put, List.setIfInBounds_toArray, List.set_cons_zero, List.set_cons_succ])
                    refine oneT (i := 8) (by kernel_rfl) rfl (by rfl) (fun K hK => ?_)
                    go_simp
                    have hS : (w1.alloc (.cells #[.int .i64 l] 3)).cell? ⟨gt, 0, none⟩ = some (.slice L nl cl) ∧ (w1.alloc (.cells #[.int .i64 l] 3)).cell? ⟨b, off + k, none⟩ = some (.int .i64 l) := ⟨keepBox (below_new w1 _) hS.1, keepBox (below_new w1 _) hS.2⟩
                    refine hK _ _ (fun _ => hS) ?_
                    clear hK
                    (try simp only [Act.put, List.setIfInBounds_toArray, List.set_cons_zero, List.set_cons_succ])
                    refine oneT (i := 9) (by kernel_rfl) rfl (by rfl) (fun K hK => ?_)
                    refine wp_append_sl _ (.tmp 58) (.tmp 63) 25 rfl wq.heap.size 3 i0 _ 8 Try.underlying25 hi0 hz0 hz1 hz2 rfl L1 nl cL1 (t.map (Value.int .i64)) rfl (HO1.out.keep (below_new w1 _)) (some ⟨w1.heap.size, 0, none⟩) 1 1 [.int .i64 l] rfl (sl_one w1 3 (.int .i64 l) rfl) (by simp [Value.oneCell']) (by simp only [maxLen]; omega) (by omega) (by first | omega | (simp; omega)) ?_
                    intro L2 cL2 w3 hO3 hG3 hA3
                    have hb3 := below_grown (below_alloc HB1.out _) (HO1.out.keep (below_new w1 _)) (Nat.le_refl _) hG3
                    have st3 := hstq.out.keep hb3
                    have e0 := st3.tb.cell 0
                    have g0 := st3.tb.frozen 0
                    simp at e0
                    have HST4 := Lib.hid (st3.set_ (ta := t ++ [l]) (A := L2) (na := nl + 1) (ca := cL2) (B := Y) (nb := ny) (cb := cy) (tb := y) (a := a) 0 (.slice L2 (nl + 1) cL2) (by simp) ⟨by have := hO3.sl; simpa using this, fun x hx => (by rcases List.mem_append.1 hx with hx | hx; exact st3.li.wf x hx; simp at hx; subst hx; exact l64.out)⟩ st3.yi (Apart.of_own hO3) st3.pY (fresh_ne hstq.out.vo (Nat.le_refl _) (A := none) (by cases blockOf V <;> simp [blockOf]) (.inr (own_ge hO3 (Nat.le_refl _)))) st3.nY)
                    have hS : w3.cell? ⟨gt, 0, none⟩ = some (.slice L nl cl) ∧ w3.cell? ⟨b, off + k, none⟩ = some (.int .i64 l) := ⟨e0, keepBox hb3 bc⟩
                    clear hO3 hG3 hA3 hb3 st3
                    refine hK _ _ (fun _ => hS) ?_
                    clear hK
                    (try simp only [Act.put, List.setIfInBounds_toArray, List.set_cons_zero, List.set_cons_succ])
                    refine take0 (i := 10) (oi := _) (v := ?_) rfl (by kernel_rfl) (by kernel_rfl) (by kernel_rfl) (fun _ _ _ h => h) rfl (Or.inl ⟨by rfl, ?_⟩) (fun _ => hS) ?_
                    rotate_left
                    · intro w0; go_simp; with_reducible rfl
                    (try simp only [Act.put, List.setIfInBounds_toArray, List.set_cons_zero, List.set_cons_succ])
                    refine oneT (i := 11) (by kernel_rfl) rfl (by rfl) (fun K hK => ?_)
                    go_simp
                    refine hK _ _ (noT_no (by kernel_rfl)) ?_
                    clear hK
                    (try simp only [Act.put, List.setIfInBounds_toArray, List.set_cons_zero, List.set_cons_succ])
                    refine doneT (by kernel_rfl) ?_ _
                    obtain ⟨w4, hw4⟩ : ∃ w4 : World, w4 = w3.setCell ⟨gt, 0, none⟩ (.slice L2 (nl + 1) cL2) := ⟨_, rfl⟩
                    rw [← hw4] at HST4 ⊢
                    have l4 := HST4.out.bl.size
                    have e1 := HST4.out.tb.cell 1
                    simp at e1
                    have ltt4 := HST4.out.tb.lt
                    clear hw4 hS e0 g0 bc b0 hstq HB1 HG1 HO1 HLQ
                    go_wp2_with (first
                      | (at_builtin
                         refine wpList_append_sl _ rfl (.tmp 66) (.tmp 68) _ rfl w4.heap.size 3 i0 _ 8 Try.underlying25 hi0 hz0 hz1 hz2 rfl (some ⟨w4.heap.size, 0, none⟩) 0 0 [] rfl (own_empty _ _ _ rfl (Nat.le_refl _)) Y ny cy _ rfl (HST4.out.yi.keep (below_new _ _)).sl (ints_one _) (by simp only [maxLen]; omega) (by omega) (by simp) ?_
                         intro Y1 cY1 w5 hO5 hG5 hA5
                         have HB5 := Lib.hid (below_grown (below_new w4 (.cells #[] 3)) (own_empty 3 w4 w4.heap.size rfl (Nat.le_refl _)) (Nat.le_refl _) hG5)
                         have HO5 : Hid (Own 3 w5 w4.heap.size Y1 ny cY1 (y.map (Value.int .i64))) := by simpa [Hid] using hO5
                         have l5 := HB5.out.size
                         clear hO5 hG5 hA5)
                      | (at_builtin
                         refine wpList_append_sl _ rfl (.tmp 69) (.tmp 70) _ rfl w4.heap.size 3 i0 _ 8 Try.underlying25 hi0 hz0 hz1 hz2 rfl Y1 ny cY1 _ rfl (HO5.out.keep (below_new _ _)) (some ⟨w5.heap.size, 0, none⟩) 1 1 _ rfl (sl_one w5 3 (.int .i64 (-1)) rfl) (by simp [Value.oneCell']) (by simp only [maxLen]; omega) (by omega) (by simp; omega) ?_
                         intro Y2 cY2 w6 hO6 hG6 hA6
                         have hb6 := below_grown (below_alloc HB5.out (.cells #[.int .i64 (-1)] 3)) (HO5.out.keep (below_new w5 (.cells #[.int .i64 (-1)] 3))) (Nat.le_refl _) hG6
                         have st6 := HST4.out.keep hb6
                         have e1 := st6.tb.cell 1
                         have g1 := st6.tb.frozen 1
                         simp at e1
                         have HST7 := Lib.hid (st6.set_ (tb := y ++ [-1]) (B := Y2) (nb := ny + 1) (cb := cY2) (A := L2) (na := nl + 1) (ca := cL2) (ta := t ++ [l]) (a := a) 1 (.slice Y2 (ny + 1) cY2) (by simp) st6.li ⟨by have := hO6.sl; simpa using this, fun x hx => (by rcases List.mem_append.1 hx with hx | hx; exact st6.yi.wf x hx; simp at hx; subst hx; unfold I64; omega)⟩ st6.pL (Apart.of_own hO6) st6.nL (fresh_ne HST4.out.vo (Nat.le_refl _) (A := none) (by cases blockOf V <;> simp [blockOf]) (.inr (own_ge hO6 (Nat.le_refl _)))))
                         have h7c := HST7.out.tb.cell 0
                         have h7d := HST7.out.tb.cell 1
                         have h7e := HST7.out.tb.cell 2
                         simp at h7c h7d h7e
                         have h7l := HST7.out.tb.lt
                         clear hO6 hG6 hA6 hb6 st6))
                    refine (on_ref w.heap.size _ _ _ _ _ _ _ _ _ xss (t ++ [l]) (y ++ [-1]) a _ (G.out.keep HST7.out.bl) HST7.out.li HST7.out.yi HST7.out.bl.size HST7.out.pL HST7.out.pY vars v0 v1 HC.out HLT.out (by have := hy.out; simp [this]) (vars.toNat + 1) (by simp; omega) t2 y2 a2 hr2).mono ?_
                    rintro e w8 ⟨L8, nl8, cl8, Y8, ny8, cy8, rfl, i8, j8, pL8, pY8, fL8, fY8, hb8⟩
                    have st8 := HST7.out.keep hb8
                    have u0 := st8.tb.cell 0
                    have u1 := st8.tb.cell 1
                    have u2 := st8.tb.cell 2
                    have uf0 := st8.tb.frozen 0
                    have uf1 := st8.tb.frozen 1
                    have uf2 := st8.tb.frozen 2
                    simp at u0 u1 u2
                    have nL8 := fresh_ne HST7.out.vo (Nat.le_refl _) HST7.out.nL fL8
                    have nY8 := fresh_ne HST7.out.vo (Nat.le_refl _) HST7.out.nY fY8
                    have k0 := st8.set_ (A := L8) (na := nl8) (ca := cl8) (B := Y2) (nb := ny + 1) (cb := cY2) (ta := t2) (tb := y ++ [-1]) (a := a) 0 (.slice L8 nl8 cl8) (by simp) i8 st8.yi pL8 st8.pY nL8 st8.nY
                    have hs0 := grown_setCell w8 ⟨gt, 0, none⟩ (.slice L8 nl8 cl8)
                    have eL := pL8.ne (Nat.le_of_lt st8.lo) (Typed.of_blk st8.tb) (by decide)
                    have eY := pY8.ne (Nat.le_of_lt st8.lo) (Typed.of_blk st8.tb) (by decide)
                    have k1 := k0.set_ (A := L8) (na := nl8) (ca := cl8) (B := Y8) (nb := ny8) (cb := cy8) (ta := t2) (tb := y2) (a := a) 1 (.slice Y8 ny8 cy8) (by simp) k0.li (j8.kept hs0 eY) k0.pL (pY8.kept hs0 eY) k0.nL nY8
                    have HST9 := Lib.hid (k1.set_ (A := L8) (na := nl8) (ca := cl8) (B := Y8) (nb := ny8) (cb := cy8) (ta := t2) (tb := y2) (a := a2) 2 (.int .i64 a2) (by simp) k1.li k1.yi k1.pL k1.pY k1.nL k1.nY)
                    have HNL8 : Hid (t2.length = nl8) := i8.len
                    clear k0 k1 hs0 eL eY i8 j8 pL8 pY8 fL8 fY8 nL8 nY8 hb8 st8 HST7 HST4 h7c h7d h7e HB5 HO5 e1 g1
                    go_wp2_with fail
                    obtain ⟨w9, hw9⟩ : ∃ w9 : World, w9 = ((w8.setCell ⟨gt, 0, none⟩ (.slice L8 nl8 cl8)).setCell ⟨gt, 1, none⟩ (.slice Y8 ny8 cy8)).setCell ⟨gt, 2, none⟩ (.int .i64 a2) := ⟨_, rfl⟩
                    rw [← hw9] at HST9 ⊢
                    have hok2 := runF_ok v0 HC.out (vars.toNat + 1) (t ++ [l]) (y ++ [-1]) HLT.out (by simp; omega)
                    rw [hr2.out] at hok2
                    have HL2 : Hid (Lits vars t2) := hok2.lits
                    have HY2 : Hid (y2.length = t2.length) := hok2.same (by have := hy.out; simp [this])
                    have htv : v.length ≤ t2.length := by obtain ⟨u, hu⟩ := hok2.ext; simp only at hu; rw [hu, hvt.out]; simp
                    have ht26 : t2.length ≤ 1000000 := by have := hok2.lits.len_le v0; simp only at this; omega
                    clear hw9 hok2 u0 u1 u2 uf0 uf1 uf2
                    go_loopg [8] (t2.length - v.length) (fun f o wr => ∃ (j : Nat) (V : Option Addr) (nv cv : Nat), Hid (j + f = t2.length - v.length) ∧ o = .slice V nv cv ∧ Hid (LvSt w wr gt L8 nl8 cl8 Y8 ny8 cy8 a2 t2 y2 V nv cv (v ++ List.replicate j ((z : Int) + 1))))
                    case atStart => exact ⟨0, V, nv, cv, by simp [Hid], rfl, by simpa [Hid] using HST9.out⟩
                    case round =>
                      clear HST9
                      obtain ⟨j, V, nv, cv, hjf, rfl, hst⟩ := hrel
                      have HNV : Hid (v.length + j = nv) := by have := hst.out.vo.len; simp at this; exact this
                      have c0 := hst.out.tb.cell 0
                      simp at c0
                      have ltg := hst.out.tb.lt
                      cases gk with
                      | zero =>
                        have hnl2 : ¬ nv < nl8 := by have := hjf.out; have := HNV.out; have := HNL8.out; omega
                        have dn2 : decide (nv < nl8) = false := decide_eq_false hnl2
                        have hj2 : Hid (j = t2.length - v.length) := by have := hjf.out; exact this
                        go_wp2_with fail
                        go_roundw
                        case rel =>
                          refine ⟨k + 1, L8, nl8, cl8, Y8, ny8, cy8, a2, t2, y2, V, nv, cv, v ++ List.replicate (t2.length - v.length) ((z : Int) + 1), z + 1, by omega, by omega, rfl, rfl, by go_num, by rw [← hj2.out]; exact hst, HL2, HY2, by simp [Hid]; omega, ?_, by have := hlv2.out; simpa [Hid] using this⟩
                          intro x hx
                          rcases List.mem_append.1 hx with hx | hx
                          · have := hvz.out x hx; omega
                          · rw [List.mem_replicate] at hx; rw [hx.2]; omega
                        case measure => simp [intOf]; omega
                      | succ f =>
                        have hnl2 : nv < nl8 := by have := hjf.out; have := HNV.out; have := HNL8.out; omega
                        have dn2 : decide (nv < nl8) = true := decide_eq_true hnl2
                        have hn8 : nl8 ≤ 1000000 := by have := HNL8.out; omega
                        have hS := ints_made wr 3 [(z : Int) + 1] rfl (by simp [I64]; omega) (by simp [maxLen])
                        have hwz := hst.out.bl.size
                        have hlo2 := hst.out.lo
                        go_wp2_with (first
                          | (at_builtin
                             refine wpList_append_sl _ rfl (.tmp 82) (.tmp 84) _ rfl (w.heap.size + 1) 3 i0 _ 8 Try.underlying25 hi0 hz0 hz1 hz2 rfl V nv cv _ rfl (hst.out.vo.keep (below_new _ _)) (some ⟨wr.heap.size, 0, none⟩) 1 1 _ rfl hS.sl (ints_one _) (by simp only [maxLen]; omega) (by omega) (by simp; omega) ?_
                             intro V1 cV1 wz hO hG hA
                             have HSTz := Lib.hid (hst.out.push (x := (z : Int) + 1) (below_new _ _) hO hG hA)
                             clear hO hG hA))
                        go_roundg f
                        case measure => omega
                        case rel => exact ⟨j + 1, V1, _, cV1, by have := hjf.out; show _ = _; omega, rfl, by rw [List.replicate_succ', ← List.append_assoc]; exact HSTz⟩

                  · go_simp
                    have hS : (((wq.alloc (.cells #[] 3)).alloc (.cells #[.int .i64 l] 3)).drew).cell? ⟨gt, 0, none⟩ = some (.slice L nl cl) ∧ (((wq.alloc (.cells #[] 3)).alloc (.cells #[.int .i64 l] 3)).drew).cell? ⟨b, off + k, none⟩ = some (.int .i64 l) := ⟨keepBox (below_drew1 (below_alloc (below_new wq _) _)) b0, keepBox (below_drew1 (below_alloc (below_new wq _) _)) bc⟩
                    refine hK _ _ (fun _ => hS) ?_
                    clear hK
                    (try simp only [Act.put, List.setIfInBounds_toArray, List.set_cons_zero, List.set_cons_succ])
                    refine oneT (i := 3) (by kernel_rfl) rfl (by rfl) (fun K hK => ?_)
                    refine wp_append_sl _ (.tmp 55) (.tmp 57) 25 rfl wq.heap.size 3 i0 _ 8 Try.underlying25 hi0 hz0 hz1 hz2 rfl (some ⟨wq.heap.size, 0, none⟩) 0 0 [] rfl ((own_empty 3 wq wq.heap.size rfl (Nat.le_refl _)).keep (below_new _ (.cells #[.int .i64 l] 3))).drew1 L nl cl (t.map (Value.int .i64)) rfl (HLQ.out.keep (below_drew1 (below_alloc (below_new wq _) _))).sl (ints_one _) (by simp only [maxLen]; omega) (by omega) (by simp; try omega) ?_
                    intro L1 cL1 w1 hO1 hG1 hA1
                    have HB1 := Lib.hid (below_grown (below_drew1 (below_alloc (below_new wq _) _)) ((own_empty 3 wq wq.heap.size rfl (Nat.le_refl _)).keep (below_new _ (.cells #[.int .i64 l] 3))).drew1 (Nat.le_refl _) hG1)
                    have HG1 := Lib.hid hG1
                    have HO1 : Hid (Own 3 w1 wq.heap.size L1 nl cL1 (t.map (Value.int .i64))) := by simpa [Hid] using hO1
                    have lw1 := HB1.out.size
                    clear hO1 hG1 hA1
                    have hS : w1.cell? ⟨gt, 0, none⟩ = some (.slice L nl cl) ∧ w1.cell? ⟨b, off + k, none⟩ = some (.int .i64 l) := ⟨keepBox HB1.out b0, keepBox HB1.out bc⟩
                    refine hK _ _ (fun _ => hS) ?_
                    clear hK
                    (try simp only [Act.put, List.setIfInBounds_toArray, List.set_cons_zero, List.set_cons_succ])
                    (try simp only [Nat.zero_add])
                    refine oneT (i := 9) (by kernel_rfl) rfl (by rfl) (fun K hK => ?_)
                    refine wp_append_sl _ (.tmp 58) (.tmp 63) 25 rfl wq.heap.size 3 i0 _ 8 Try.underlying25 hi0 hz0 hz1 hz2 rfl L1 nl cL1 (t.map (Value.int .i64)) rfl HO1.out (some ⟨wq.heap.size + 1, 0, none⟩) 1 1 [.int .i64 l] rfl (Sl.kept (Sl.drew1 (sl_one (wq.alloc (.cells #[] 3)) 3 (.int .i64 l) (by simp))) HG1.out (.inr (by simp [blockOf]))) (by simp [Value.oneCell']) (by simp only [maxLen]; omega) (by omega) (by first | omega | (simp; omega)) ?_
                    intro L2 cL2 w3 hO3 hG3 hA3
                    have hb3 := below_grown HB1.out HO1.out (Nat.le_refl _) hG3
                    have st3 := hstq.out.keep hb3
                    have e0 := st3.tb.cell 0
                    have g0 := st3.tb.frozen 0
                    simp at e0
                    have HST4 := Lib.hid (st3.set_ (ta := t ++ [l]) (A := L2) (na := nl + 1) (ca := cL2) (B := Y) (nb := ny) (cb := cy) (tb := y) (a := a) 0 (.slice L2 (nl + 1) cL2) (by simp) ⟨by have := hO3.sl; simpa using this, fun x hx => (by rcases List.mem_append.1 hx with hx | hx; exact st3.li.wf x hx; simp at hx; subst hx; exact l64.out)⟩ st3.yi (Apart.of_own hO3) st3.pY (fresh_ne hstq.out.vo (Nat.le_refl _) (A := none) (by cases blockOf V <;> simp [blockOf]) (.inr (own_ge hO3 (Nat.le_refl _)))) st3.nY)
                    have hS : w3.cell? ⟨gt, 0, none⟩ = some (.slice L nl cl) ∧ w3.cell? ⟨b, off + k, none⟩ = some (.int .i64 l) := ⟨e0, keepBox hb3 bc⟩
                    clear hO3 hG3 hA3 hb3 st3
                    refine hK _ _ (fun _ => hS) ?_
                    clear hK
                    (try simp only [Act.put, List.setIfInBounds_toArray, List.set_cons_zero, List.set_cons_succ])
                    refine take0 (i := 10) (oi := _) (v := ?_) rfl (by kernel_rfl) (by kernel_rfl) (by kernel_rfl) (fun _ _ _ h => h) rfl (Or.inl ⟨by rfl, ?_⟩) (fun _ => hS) ?_
                    rotate_left
                    · intro w0; go_simp; with_reducible rfl
                    (try simp only [Act.put, List.setIfInBounds_toArray, List.set_cons_zero, List.set_cons_succ])
                    refine oneT (i := 11) (by kernel_rfl) rfl (by rfl) (fun K hK => ?_)
                    go_simp
                    refine hK _ _ (noT_no (by kernel_rfl)) ?_
                    clear hK
                    (try simp only [Act.put, List.setIfInBounds_toArray, List.set_cons_zero, List.set_cons_succ])
                    refine doneT (by kernel_rfl) ?_ _
                    obtain ⟨w4, hw4⟩ : ∃ w4 : World, w4 = w3.setCell ⟨gt, 0, none⟩ (.slice L2 (nl + 1) cL2) := ⟨_, rfl⟩
                    rw [← hw4] at HST4 ⊢
                    have l4 := HST4.out.bl.size
                    have e1 := HST4.out.tb.cell 1
                    simp at e1
                    have ltt4 := HST4.out.tb.lt
                    clear hw4 hS e0 g0 bc b0 hstq HB1 HG1 HO1 HLQ
                    go_wp2_with (first
                      | (at_builtin
                         refine wpList_append_sl _ rfl (.tmp 66) (.tmp 68) _ rfl w4.heap.size 3 i0 _ 8 Try.underlying25 hi0 hz0 hz1 hz2 rfl (some ⟨w4.heap.size, 0, none⟩) 0 0 [] rfl (own_empty _ _ _ rfl (Nat.le_refl _)) Y ny cy _ rfl (HST4.out.yi.keep (below_new _ _)).sl (ints_one _) (by simp only [maxLen]; omega) (by omega) (by simp) ?_
                         intro Y1 cY1 w5 hO5 hG5 hA5
                         have HB5 := Lib.hid (below_grown (below_new w4 (.cells #[] 3)) (own_empty 3 w4 w4.heap.size rfl (Nat.le_refl _)) (Nat.le_refl _) hG5)
                         have HO5 : Hid (Own 3 w5 w4.heap.size Y1 ny cY1 (y.map (Value.int .i64))) := by simpa [Hid] using hO5
                         have l5 := HB5.out.size
                         clear hO5 hG5 hA5)
                      | (at_builtin
                         refine wpList_append_sl _ rfl (.tmp 69) (.tmp 70) _ rfl w4.heap.size 3 i0 _ 8 Try.underlying25 hi0 hz0 hz1 hz2 rfl Y1 ny cY1 _ rfl (HO5.out.keep (below_new _ _)) (some ⟨w5.heap.size, 0, none⟩) 1 1 _ rfl (sl_one w5 3 (.int .i64 (-1)) rfl) (by simp [Value.oneCell']) (by simp only [maxLen]; omega) (by omega) (by simp; omega) ?_
                         intro Y2 cY2 w6 hO6 hG6 hA6
                         have hb6 := below_grown (below_alloc HB5.out (.cells #[.int .i64 (-1)] 3)) (HO5.out.keep (below_new w5 (.cells #[.int .i64 (-1)] 3))) (Nat.le_refl _) hG6
                         have st6 := HST4.out.keep hb6
                         have e1 := st6.tb.cell 1
                         have g1 := st6.tb.frozen 1
                         simp at e1
                         have HST7 := Lib.hid (st6.set_ (tb := y ++ [-1]) (B := Y2) (nb := ny + 1) (cb := cY2) (A := L2) (na := nl + 1) (ca := cL2) (ta := t ++ [l]) (a := a) 1 (.slice Y2 (ny + 1) cY2) (by simp) st6.li ⟨by have := hO6.sl; simpa using this, fun x hx => (by rcases List.mem_append.1 hx with hx | hx; exact st6.yi.wf x hx; simp at hx; subst hx; unfold I64; omega)⟩ st6.pL (Apart.of_own hO6) st6.nL (fresh_ne HST4.out.vo (Nat.le_refl _) (A := none) (by cases blockOf V <;> simp [blockOf]) (.inr (own_ge hO6 (Nat.le_refl _)))))
                         have h7c := HST7.out.tb.cell 0
                         have h7d := HST7.out.tb.cell 1
                         have h7e := HST7.out.tb.cell 2
                         simp at h7c h7d h7e
                         have h7l := HST7.out.tb.lt
                         clear hO6 hG6 hA6 hb6 st6))
                    refine (on_ref w.heap.size _ _ _ _ _ _ _ _ _ xss (t ++ [l]) (y ++ [-1]) a _ (G.out.keep HST7.out.bl) HST7.out.li HST7.out.yi HST7.out.bl.size HST7.out.pL HST7.out.pY vars v0 v1 HC.out HLT.out (by have := hy.out; simp [this]) (vars.toNat + 1) (by simp; omega) t2 y2 a2 hr2).mono ?_
                    rintro e w8 ⟨L8, nl8, cl8, Y8, ny8, cy8, rfl, i8, j8, pL8, pY8, fL8, fY8, hb8⟩
                    have st8 := HST7.out.keep hb8
                    have u0 := st8.tb.cell 0
                    have u1 := st8.tb.cell 1
                    have u2 := st8.tb.cell 2
                    have uf0 := st8.tb.frozen 0
                    have uf1 := st8.tb.frozen 1
                    have uf2 := st8.tb.frozen 2
                    simp at u0 u1 u2
                    have nL8 := fresh_ne HST7.out.vo (Nat.le_refl _) HST7.out.nL fL8
                    have nY8 := fresh_ne HST7.out.vo (Nat.le_refl _) HST7.out.nY fY8
                    have k0 := st8.set_ (A := L8) (na := nl8) (ca := cl8) (B := Y2) (nb := ny + 1) (cb := cY2) (ta := t2) (tb := y ++ [-1]) (a := a) 0 (.slice L8 nl8 cl8) (by simp) i8 st8.yi pL8 st8.pY nL8 st8.nY
                    have hs0 := grown_setCell w8 ⟨gt, 0, none⟩ (.slice L8 nl8 cl8)
                    have eL := pL8.ne (Nat.le_of_lt st8.lo) (Typed.of_blk st8.tb) (by decide)
                    have eY := pY8.ne (Nat.le_of_lt st8.lo) (Typed.of_blk st8.tb) (by decide)
                    have k1 := k0.set_ (A := L8) (na := nl8) (ca := cl8) (B := Y8) (nb := ny8) (cb := cy8) (ta := t2) (tb := y2) (a := a) 1 (.slice Y8 ny8 cy8) (by simp) k0.li (j8.kept hs0 eY) k0.pL (pY8.kept hs0 eY) k0.nL nY8
                    have HST9 := Lib.hid (k1.set_ (A := L8) (na := nl8) (ca := cl8) (B := Y8) (nb := ny8) (cb := cy8) (ta := t2) (tb := y2) (a := a2) 2 (.int .i64 a2) (by simp) k1.li k1.yi k1.pL k1.pY k1.nL k1.nY)
                    have HNL8 : Hid (t2.length = nl8) := i8.len
                    clear k0 k1 hs0 eL eY i8 j8 pL8 pY8 fL8 fY8 nL8 nY8 hb8 st8 HST7 HST4 h7c h7d h7e HB5 HO5 e1 g1
                    go_wp2_with fail
                    obtain ⟨w9, hw9⟩ : ∃ w9 : World, w9 = ((w8.setCell ⟨gt, 0, none⟩ (.slice L8 nl8 cl8)).setCell ⟨gt, 1, none⟩ (.slice Y8 ny8 cy8)).setCell ⟨gt, 2, none⟩ (.int .i64 a2) := ⟨_, rfl⟩
                    rw [← hw9] at HST9 ⊢
                    have hok2 := runF_ok v0 HC.out (vars.toNat + 1) (t ++ [l]) (y ++ [-1]) HLT.out (by simp; omega)
                    rw [hr2.out] at hok2
                    have HL2 : Hid (Lits vars t2) := hok2.lits
                    have HY2 : Hid (y2.length = t2.length) := hok2.same (by have := hy.out; simp [this])
                    have htv : v.length ≤ t2.length := by obtain ⟨u, hu⟩ := hok2.ext; simp only at hu; rw [hu, hvt.out]; simp
                    have ht26 : t2.length ≤ 1000000 := by have := hok2.lits.len_le v0; simp only at this; omega
                    clear hw9 hok2 u0 u1 u2 uf0 uf1 uf2
                    go_loopg [8] (t2.length - v.length) (fun f o wr => ∃ (j : Nat) (V : Option Addr) (nv cv : Nat), Hid (j + f = t2.length - v.length) ∧ o = .slice V nv cv ∧ Hid (LvSt w wr gt L8 nl8 cl8 Y8 ny8 cy8 a2 t2 y2 V nv cv (v ++ List.replicate j ((z : Int) + 1))))
                    case atStart => exact ⟨0, V, nv, cv, by simp [Hid], rfl, by simpa [Hid] using HST9.out⟩
                    case round =>
                      clear HST9
                      obtain ⟨j, V, nv, cv, hjf, rfl, hst⟩ := hrel
                      have HNV : Hid (v.length + j = nv) := by have := hst.out.vo.len; simp at this; exact this
                      have c0 := hst.out.tb.cell 0
                      simp at c0
                      have ltg := hst.out.tb.lt
                      cases gk with
                      | zero =>
                        have hnl2 : ¬ nv < nl8 := by have := hjf.out; have := HNV.out; have := HNL8.out; omega
                        have dn2 : decide (nv < nl8) = false := decide_eq_false hnl2
                        have hj2 : Hid (j = t2.length - v.length) := by have := hjf.out; exact this
                        go_wp2_with fail
                        go_roundw
                        case rel =>
                          refine ⟨k + 1, L8, nl8, cl8, Y8, ny8, cy8, a2, t2, y2, V, nv, cv, v ++ List.replicate (t2.length - v.length) ((z : Int) + 1), z + 1, by omega, by omega, rfl, rfl, by go_num, by rw [← hj2.out]; exact hst, HL2, HY2, by simp [Hid]; omega, ?_, by have := hlv2.out; simpa [Hid] using this⟩
                          intro x hx
                          rcases List.mem_append.1 hx with hx | hx
                          · have := hvz.out x hx; omega
                          · rw [List.mem_replicate] at hx; rw [hx.2]; omega
                        case measure => simp [intOf]; omega
                      | succ f =>
                        have hnl2 : nv < nl8 := by have := hjf.out; have := HNV.out; have := HNL8.out; omega
                        have dn2 : decide (nv < nl8) = true := decide_eq_true hnl2
                        have hn8 : nl8 ≤ 1000000 := by have := HNL8.out; omega
                        have hS := ints_made wr 3 [(z : Int) + 1] rfl (by simp [I64]; omega) (by simp [maxLen])
                        have hwz := hst.out.bl.size
                        have hlo2 := hst.out.lo
                        go_wp2_with (first
                          | (at_builtin
                             refine wpList_append_sl _ rfl (.tmp 82) (.tmp 84) _ rfl (w.heap.size + 1) 3 i0 _ 8 Try.underlying25 hi0 hz0 hz1 hz2 rfl V nv cv _ rfl (hst.out.vo.keep (below_new _ _)) (some ⟨wr.heap.size, 0, none⟩) 1 1 _ rfl hS.sl (ints_one _) (by simp only [maxLen]; omega) (by omega) (by simp; omega) ?_
                             intro V1 cV1 wz hO hG hA
                             have HSTz := Lib.hid (hst.out.push (x := (z : Int) + 1) (below_new _ _) hO hG hA)
                             clear hO hG hA))
                        go_roundg f
                        case measure => omega
                        case rel => exact ⟨j + 1, V1, _, cV1, by have := hjf.out; show _ = _; omega, rfl, by rw [List.replicate_succ', ← List.append_assoc]; exact HSTz⟩

                · go_simp
                  have hS : ((wq.alloc (.cells #[.int .i64 l] 3)).drew).cell? ⟨gt, 0, none⟩ = some (.slice L nl cl) ∧ ((wq.alloc (.cells #[.int .i64 l] 3)).drew).cell? ⟨b, off + k, none⟩ = some (.int .i64 l) := ⟨keepBox (below_drew1 (below_new wq _)) b0, keepBox (below_drew1 (below_new wq _)) bc⟩
                  refine hK _ _ (fun _ => hS) ?_
                  clear hK
                  (try simp only [Act.put, List.setIfInBounds_toArray, List.set_cons_zero, List.set_cons_succ])
                  refine oneT (i := 0) (by kernel_rfl) rfl (by rfl) (fun K hK => ?_)
                  go_simp
                  have hS : (((wq.alloc (.cells #[.int .i64 l] 3)).alloc (.cells #[] 3)).drew).cell? ⟨gt, 0, none⟩ = some (.slice L nl cl) ∧ (((wq.alloc (.cells #[.int .i64 l] 3)).alloc (.cells #[] 3)).drew).cell? ⟨b, off + k, none⟩ = some (.int .i64 l) := ⟨keepBox (below_drew1 (below_alloc (below_new wq _) _)) b0, keepBox (below_drew1 (below_alloc (below_new wq _) _)) bc⟩
                  refine hK _ _ (fun _ => hS) ?_
                  clear hK
                  (try simp only [Act.put, List.setIfInBounds_toArray, List.set_cons_zero, List.set_cons_succ])
                  refine oneT (i := 3) (by kernel_rfl) rfl (by rfl) (fun K hK => ?_)
                  refine wp_append_sl _ (.tmp 55) (.tmp 57) 25 rfl wq.heap.size 3 i0 _ 8 Try.underlying25 hi0 hz0 hz1 hz2 rfl (some ⟨wq.heap.size + 1, 0, none⟩) 0 0 [] rfl (own_empty 3 (wq.alloc (.cells #[.int .i64 l] 3)) wq.heap.size (by simp) (by simp)).drew1 L nl cl (t.map (Value.int .i64)) rfl (HLQ.out.keep (below_drew1 (below_alloc (below_new wq _) _))).sl (ints_one _) (by simp only [maxLen]; omega) (by omega) (by simp; try omega) ?_
                  intro L1 cL1 w1 hO1 hG1 hA1
                  have HB1 := Lib.hid (below_grown (below_drew1 (below_alloc (below_new wq _) _)) (own_empty 3 (wq.alloc (.cells #[.int .i64 l] 3)) wq.heap.size (by simp) (by simp)).drew1 (Nat.le_refl _) hG1)
                  have HG1 := Lib.hid hG1
                  have HO1 : Hid (Own 3 w1 wq.heap.size L1 nl cL1 (t.map (Value.int .i64))) := by simpa [Hid] using hO1
                  have lw1 := HB1.out.size
                  clear hO1 hG1 hA1
                  have hS : w1.cell? ⟨gt, 0, none⟩ = some (.slice L nl cl) ∧ w1.cell? ⟨b, off + k, none⟩ = some (.int .i64 l) := ⟨keepBox HB1.out b0, keepBox HB1.out bc⟩
                  refine hK _ _ (fun _ => hS) ?_
                  clear hK
                  (try simp only [Act.put, List.setIfInBounds_toArray, List.set_cons_zero, List.set_cons_succ])
                  (try simp only [Nat.zero_add])
                  refine oneT (i := 9) (by kernel_rfl) rfl (by rfl) (fun K hK => ?_)
                  refine wp_append_sl _ (.tmp 58) (.tmp 63) 25 rfl wq.heap.size 3 i0 _ 8 Try.underlying25 hi0 hz0 hz1 hz2 rfl L1 nl cL1 (t.map (Value.int .i64)) rfl HO1.out (some ⟨wq.heap.size, 0, none⟩) 1 1 [.int .i64 l] rfl (Sl.kept (Sl.drew1 (Sl.keep (sl_one wq 3 (.int .i64 l) rfl) (below_new _ _))) HG1.out (.inr (by simp [blockOf]))) (by simp [Value.oneCell']) (by simp only [maxLen]; omega) (by omega) (by first | omega | (simp; omega)) ?_
                  intro L2 cL2 w3 hO3 hG3 hA3
                  have hb3 := below_grown HB1.out HO1.out (Nat.le_refl _) hG3
                  have st3 := hstq.out.keep hb3
                  have e0 := st3.tb.cell 0
                  have g0 := st3.tb.frozen 0
                  simp at e0
                  have HST4 := Lib.hid (st3.set_ (ta := t ++ [l]) (A := L2) (na := nl + 1) (ca := cL2) (B := Y) (nb := ny) (cb := cy) (tb := y) (a := a) 0 (.slice L2 (nl + 1) cL2) (by simp) ⟨by have := hO3.sl; simpa using this, fun x hx => (by rcases List.mem_append.1 hx with hx | hx; exact st3.li.wf x hx; simp at hx; subst hx; exact l64.out)⟩ st3.yi (Apart.of_own hO3) st3.pY (fresh_ne hstq.out.vo (Nat.le_refl _) (A := none) (by cases blockOf V <;> simp [blockOf]) (.inr (own_ge hO3 (Nat.le_refl _)))) st3.nY)
                  have hS : w3.cell? ⟨gt, 0, none⟩ = some (.slice L nl cl) ∧ w3.cell? ⟨b, off + k, none⟩ = some (.int .i64 l) := ⟨e0, keepBox hb3 bc⟩
                  clear hO3 hG3 hA3 hb3 st3
                  refine hK _ _ (fun _ => hS) ?_
                  clear hK
                  (try simp only [Act.put, List.setIfInBounds_toArray, List.set_cons_zero, List.set_cons_succ])
                  refine take0 (i := 10) (oi := _) (v := ?_) rfl (by kernel_rfl) (by kernel_rfl) (by kernel_rfl) (fun _ _ _ h => h) rfl (Or.inl ⟨by rfl, ?_⟩) (fun _ => hS) ?_
                  rotate_left
                  · intro w0; go_simp; with_reducible rfl
                  (try simp only [Act.put, List.setIfInBounds_toArray, List.set_cons_zero, List.set_cons_succ])
                  refine oneT (i := 11) (by kernel_rfl) rfl (by rfl) (fun K hK => ?_)
                  go_simp
                  refine hK _ _ (noT_no (by kernel_rfl)) ?_
                  clear hK
                  (try simp only [Act.put, List.setIfInBounds_toArray, List.set_cons_zero, List.set_cons_succ])
                  refine doneT (by kernel_rfl) ?_ _
                  obtain ⟨w4, hw4⟩ : ∃ w4 : World, w4 = w3.setCell ⟨gt, 0, none⟩ (.slice L2 (nl + 1) cL2) := ⟨_, rfl⟩
                  rw [← hw4] at HST4 ⊢
                  have l4 := HST4.out.bl.size
                  have e1 := HST4.out.tb.cell 1
                  simp at e1
                  have ltt4 := HST4.out.tb.lt
                  clear hw4 hS e0 g0 bc b0 hstq HB1 HG1 HO1 HLQ
                  go_wp2_with (first
                    | (at_builtin
                       refine wpList_append_sl _ rfl (.tmp 66) (.tmp 68) _ rfl w4.heap.size 3 i0 _ 8 Try.underlying25 hi0 hz0 hz1 hz2 rfl (some ⟨w4.heap.size, 0, none⟩) 0 0 [] rfl (own_empty _ _ _ rfl (Nat.le_refl _)) Y ny cy _ rfl (HST4.out.yi.keep (below_new _ _)).sl (ints_one _) (by simp only [maxLen]; omega) (by omega) (by simp) ?_
                       intro Y1 cY1 w5 hO5 hG5 hA5
                       have HB5 := Lib.hid (below_grown (below_new w4 (.cells #[] 3)) (own_empty 3 w4 w4.heap.size rfl (Nat.le_refl _)) (Nat.le_refl _) hG5)
                       have HO5 : Hid (Own 3 w5 w4.heap.size Y1 ny cY1 (y.map (Value.int .i64))) := by simpa [Hid] using hO5
                       have l5 := HB5.out.size
                       clear hO5 hG5 hA5)
                    | (at_builtin
                       refine wpList_append_sl _ rfl (.tmp 69) (.tmp 70) _ rfl w4.heap.size 3 i0 _ 8 Try.underlying25 hi0 hz0 hz1 hz2 rfl Y1 ny cY1 _ rfl (HO5.out.keep (below_new _ _)) (some ⟨w5.heap.size, 0, none⟩) 1 1 _ rfl (sl_one w5 3 (.int .i64 (-1)) rfl) (by simp [Value.oneCell']) (by simp only [maxLen]; omega) (by omega) (by simp; omega) ?_
                       intro Y2 cY2 w6 hO6 hG6 hA6
                       have hb6 := below_grown (below_alloc HB5.out (.cells #[.int .i64 (-1)] 3)) (HO5.out.keep (below_new w5 (.cells #[.int .i64 (-1)] 3))) (Nat.le_refl _) hG6
                       have st6 := HST4.out.keep hb6
                       have e1 := st6.tb.cell 1
                       have g1 := st6.tb.frozen 1
                       simp at e1
                       have HST7 := Lib.hid (st6.set_ (tb := y ++ [-1]) (B := Y2) (nb := ny + 1) (cb := cY2) (A := L2) (na := nl + 1) (ca := cL2) (ta := t ++ [l]) (a := a) 1 (.slice Y2 (ny + 1) cY2) (by simp) st6.li ⟨by have := hO6.sl; simpa using this, fun x hx => (by rcases List.mem_append.1 hx with hx | hx; exact st6.yi.wf x hx; simp at hx; subst hx; unfold I64; omega)⟩ st6.pL (Apart.of_own hO6) st6.nL (fresh_ne HST4.out.vo (Nat.le_refl _) (A := none) (by cases blockOf V <;> simp [blockOf]) (.inr (own_ge hO6 (Nat.le_refl _)))))
                       have h7c := HST7.out.tb.cell 0
                       have h7d := HST7.out.tb.cell 1
                       have h7e := HST7.out.tb.cell 2
                       simp at h7c h7d h7e
                       have h7l := HST7.out.tb.lt
                       clear hO6 hG6 hA6 hb6 st6))
                  refine (on_ref w.heap.size _ _ _ _ _ _ _ _ _ xss (t ++ [l]) (y ++ [-1]) a _ (G.out.keep HST7.out.bl) HST7.out.li HST7.out.yi HST7.out.bl.size HST7.out.pL HST7.out.pY vars v0 v1 HC.out HLT.out (by have := hy.out; simp [this]) (vars.toNat + 1) (by simp; omega) t2 y2 a2 hr2).mono ?_
                  rintro e w8 ⟨L8, nl8, cl8, Y8, ny8, cy8, rfl, i8, j8, pL8, pY8, fL8, fY8, hb8⟩
                  have st8 := HST7.out.keep hb8
                  have u0 := st8.tb.cell 0
                  have u1 := st8.tb.cell 1
                  have u2 := st8.tb.cell 2
                  have uf0 := st8.tb.frozen 0
                  have uf1 := st8.tb.frozen 1
                  have uf2 := st8.tb.frozen 2
                  simp at u0 u1 u2
                  have nL8 := fresh_ne HST7.out.vo (Nat.le_refl _) HST7.out.nL fL8
                  have nY8 := fresh_ne HST7.out.vo (Nat.le_refl _) HST7.out.nY fY8
                  have k0 := st8.set_ (A := L8) (na := nl8) (ca := cl8) (B := Y2) (nb := ny + 1) (cb := cY2) (ta := t2) (tb := y ++ [-1]) (a := a) 0 (.slice L8 nl8 cl8) (by simp) i8 st8.yi pL8 st8.pY nL8 st8.nY
                  have hs0 := grown_setCell w8 ⟨gt, 0, none⟩ (.slice L8 nl8 cl8)
                  have eL := pL8.ne (Nat.le_of_lt st8.lo) (Typed.of_blk st8.tb) (by decide)
                  have eY := pY8.ne (Nat.le_of_lt st8.lo) (Typed.of_blk st8.tb) (by decide)
                  have k1 := k0.set_ (A := L8) (na := nl8) (ca := cl8) (B := Y8) (nb := ny8) (cb := cy8) (ta := t2) (tb := y2) (a := a) 1 (.slice Y8 ny8 cy8) (by simp) k0.li (j8.kept hs0 eY) k0.pL (pY8.kept hs0 eY) k0.nL nY8
                  have HST9 := Lib.hid (k1.set_ (A := L8) (na := nl8) (ca := cl8) (B := Y8) (nb := ny8) (cb := cy8) (ta := t2) (tb := y2) (a := a2) 2 (.int .i64 a2) (by simp) k1.li k1.yi k1.pL k1.pY k1.nL k1.nY)
                  have HNL8 : Hid (t2.length = nl8) := i8.len
                  clear k0 k1 hs0 eL eY i8 j8 pL8 pY8 fL8 fY8 nL8 nY8 hb8 st8 HST7 HST4 h7c h7d h7e HB5 HO5 e1 g1
                  go_wp2_with fail
                  obtain ⟨w9, hw9⟩ : ∃ w9 : World, w9 = ((w8.setCell ⟨gt, 0, none⟩ (.slice L8 nl8 cl8)).setCell ⟨gt, 1, none⟩ (.slice Y8 ny8 cy8)).setCell ⟨gt, 2, none⟩ (.int .i64 a2) := ⟨_, rfl⟩
                  rw [← hw9] at HST9 ⊢
                  have hok2 := runF_ok v0 HC.out (vars.toNat + 1) (t ++ [l]) (y ++ [-1]) HLT.out (by simp; omega)
                  rw [hr2.out] at hok2
                  have HL2 : Hid (Lits vars t2) := hok2.lits
                  have HY2 : Hid (y2.length = t2.length) := hok2.same (by have := hy.out; simp [this])
                  have htv : v.length ≤ t2.length := by obtain ⟨u, hu⟩ := hok2.ext; simp only at hu; rw [hu, hvt.out]; simp
                  have ht26 : t2.length ≤ 1000000 := by have := hok2.lits.len_le v0; simp only at this; omega
                  clear hw9 hok2 u0 u1 u2 uf0 uf1 uf2
                  go_loopg [8] (t2.length - v.length) (fun f o wr => ∃ (j : Nat) (V : Option Addr) (nv cv : Nat), Hid (j + f = t2.length - v.length) ∧ o = .slice V nv cv ∧ Hid (LvSt w wr gt L8 nl8 cl8 Y8 ny8 cy8 a2 t2 y2 V nv cv (v ++ List.replicate j ((z : Int) + 1))))
                  case atStart => exact ⟨0, V, nv, cv, by simp [Hid], rfl, by simpa [Hid] using HST9.out⟩
                  case round =>
                    clear HST9
                    obtain ⟨j, V, nv, cv, hjf, rfl, hst⟩ := hrel
                    have HNV : Hid (v.length + j = nv) := by have := hst.out.vo.len; simp at this; exact this
                    have c0 := hst.out.tb.cell 0
                    simp at c0
                    have ltg := hst.out.tb.lt
                    cases gk with
                    | zero =>
                      have hnl2 : ¬ nv < nl8 := by have := hjf.out; have := HNV.out; have := HNL8.out; omega
                      have dn2 : decide (nv < nl8) = false := decide_eq_false hnl2
                      have hj2 : Hid (j = t2.length - v.length) := by have := hjf.out; exact this
                      go_wp2_with fail
                      go_roundw
                      case rel =>
                        refine ⟨k + 1, L8, nl8, cl8, Y8, ny8, cy8, a2, t2, y2, V, nv, cv, v ++ List.replicate (t2.length - v.length) ((z : Int) + 1), z + 1, by omega, by omega, rfl, rfl, by go_num, by rw [← hj2.out]; exact hst, HL2, HY2, by simp [Hid]; omega, ?_, by have := hlv2.out; simpa [Hid] using this⟩
                        intro x hx
                        rcases List.mem_append.1 hx with hx | hx
                        · have := hvz.out x hx; omega
                        · rw [List.mem_replicate] at hx; rw [hx.2]; omega
                      case measure => simp [intOf]; omega
                    | succ f =>
                      have hnl2 : nv < nl8 := by have := hjf.out; have := HNV.out; have := HNL8.out; omega
                      have dn2 : decide (nv < nl8) = true := decide_eq_true hnl2
                      have hn8 : nl8 ≤ 1000000 := by have := HNL8.out; omega
                      have hS := ints_made wr 3 [(z : Int) + 1] rfl (by simp [I64]; omega) (by simp [maxLen])
                      have hwz := hst.out.bl.size
                      have hlo2 := hst.out.lo
                      go_wp2_with (first
                        | (at_builtin
                           refine wpList_append_sl _ rfl (.tmp 82) (.tmp 84) _ rfl (w.heap.size + 1) 3 i0 _ 8 Try.underlying25 hi0 hz0 hz1 hz2 rfl V nv cv _ rfl (hst.out.vo.keep (below_new _ _)) (some ⟨wr.heap.size, 0, none⟩) 1 1 _ rfl hS.sl (ints_one _) (by simp only [maxLen]; omega) (by omega) (by simp; omega) ?_
                           intro V1 cV1 wz hO hG hA
                           have HSTz := Lib.hid (hst.out.push (x := (z : Int) + 1) (below_new _ _) hO hG hA)
                           clear hO hG hA))
                      go_roundg f
                      case measure => omega
                      case rel => exact ⟨j + 1, V1, _, cV1, by have := hjf.out; show _ = _; omega, rfl, by rw [List.replicate_succ', ← List.append_assoc]; exact HSTz⟩

              · go_wp2_with fail
                go_quiet ((go_at_call 29; first | (refine RetQ.quiet (has_any _ _ _ t _ _ (HLI.out.drewN _) false ?_); exact hq1) | (refine RetQ.quiet (has_any _ _ _ t _ _ (HLI.out.drewN _) true ?_); exact hq2)))
                go_wp2_with fail
                go_roundw
                case rel => exact ⟨k + 1, L, nl, cl, Y, ny, cy, a, t, y, V, nv, cv, v, z, by omega, by omega, rfl, rfl, by go_num, hst.out.keep (below_drewN _ _), ht, hy, hvt, hvz, by have := hlv2.out; simpa [Hid] using this⟩
                case measure => simp [intOf]; omega
            · go_wp2_with fail
              go_quiet ((go_at_call 29; exact RetQ.quiet (has_any _ _ _ t l _ (HLI.out.drewN _) true hq1)))
              go_wp2_with fail
              go_roundw
              case rel => exact ⟨k + 1, L, nl, cl, Y, ny, cy, a, t, y, V, nv, cv, v, z, by omega, by omega, rfl, rfl, by go_num, hst.out.keep (below_drewN _ _), ht, hy, hvt, hvz, by have := hlv2.out; simpa [Hid] using this⟩
              case measure => simp [intOf]; omega

        · have hfin : Hid ((t, y, v, z, a) = (t', y', v', z', a')) := by have := hlv.out; rw [List.drop_of_length_le (by rw [hlen.out]; omega), lvlF] at this; exact this
          go_wp2_with fail
          exact bodyPost_ret (v := .tuple #[.agg #[.slice L nl cl, .slice Y ny cy, .int .i64 a], .slice V nv cv, .int .i64 z]) (by simp [results, Try.results17, go_sem, Q0.out, Q1.out, Q2.out]) rfl (hfinish.out hfin.out)
end Go.Proofs.Ytabjbpkojbdgaaa
