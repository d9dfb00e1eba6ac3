/- Contracts of package learn: a run in memory; propagate, start. (Printed by wip/tools/learn.py.) -/
import Derived.Test.YtabjbpkojbdgaaaUnitRun
import Derived.Test.YtabjbpkojbdgaaaLevPlain
import Derived.Test.YtabjbpkojbdgaaaPropPlain
namespace Go.Proofs.Ytabjbpkojbdgaaa
open Go.RowKit Go.Maps Go.WideMaps
set_option linter.unusedSimpArgs false

section
variable {w wr w' W w1 : World} {gr g : Nat} {A : Option Addr} {n c : Nat} {L : Option Addr} {cl : Nat} {Y : Option Addr} {cy gm : Nat} {D : DataW Unit} {t y : List Int}
theorem TrSt.kept {row : Option Nat} (h : TrSt w wr g A n c L cl Y cy gm D t y) (hg : wr.grownBy w' row) (h1 : some g ≠ row) (h2 : some gm ≠ row) (hL : blockOf L = none ∨ blockOf L ≠ row) (hY : blockOf Y = none ∨ blockOf Y ≠ row) (hlo : ∀ k, row = some k → w.heap.size ≤ k) : TrSt w w' g A n c L cl Y cy gm D t y :=
  ⟨h.bl.grown hg h.bl.size hlo, h.lo, h.tb.grown hg h1, h.lits.kept hg hL, h.why.kept hg hY, h.ne, h.mp.grown hg h2, h.has, h.lm⟩
end

/-- A run of the call's own: its block gr, its trail g, its levels v, the last level z, what is false a. -/
structure RunSt (w wr : World) (gr g : Nat) (A : Option Addr) (n c : Nat) (L : Option Addr) (cl : Nat) (Y : Option Addr) (cy gm : Nat) (D : DataW Unit) (t y : List Int) (V : Option Addr) (nv cv : Nat) (v : List Int) (z a : Int) : Prop where
  tr : TrSt w wr g A n c L cl Y cy gm D t y
  rb : Blk wr gr 86 #[.pointer (some ⟨g, 0, none⟩), .slice V nv cv, .int .i64 z, .int .i64 a]
  vo : Own 3 wr w.heap.size V nv cv (v.map (Value.int .i64))
  lo : w.heap.size ≤ gr
  nL : blockOf V = none ∨ blockOf V ≠ blockOf L
  nY : blockOf V = none ∨ blockOf V ≠ blockOf Y
section
variable {w wr w' W w1 : World} {gr g : Nat} {A : Option Addr} {n c : Nat} {L : Option Addr} {cl : Nat} {Y : Option Addr} {cy gm : Nat} {D : DataW Unit} {t y : List Int} {V V' L' Y' : Option Addr} {nv cv cv' cl' cy' : Nat} {v t' y' : List Int} {z a : Int} {D' : DataW Unit}
theorem RunSt.keep (h : RunSt w wr gr g A n c L cl Y cy gm D t y V nv cv v z a) (hb : Below wr.heap.size wr w') : RunSt w w' gr g A n c L cl Y cy gm D t y V nv cv v z a :=
  ⟨h.tr.keep hb, h.rb.keep hb, h.vo.keep hb, h.lo, h.nL, h.nY⟩
theorem RunSt.gne (h : RunSt w wr gr g A n c L cl Y cy gm D t y V nv cv v z a) : gr ≠ g := fun e => by
  subst e
  have h1 := h.rb
  have h2 := h.tr.tb
  unfold Blk at h1 h2
  rw [h1] at h2
  injection h2 with h2
  injection h2 with _ h2
  exact absurd h2 (by decide)
theorem RunSt.gmne (h : RunSt w wr gr g A n c L cl Y cy gm D t y V nv cv v z a) : gr ≠ gm := blk_map_ne h.rb h.tr.mp
theorem own_typed_ne {e t' : TypeId} {w : World} {base n c g : Nat} {A : Option Addr} {xs : List Value} (h : Own e w base A n c xs) (hT : Typed t' w g) (hne : e ≠ t') : some g ≠ blockOf A := by
  rcases h.ne_typed hT hne with h1 | h1
  · rw [h1]; simp
  · exact fun e => h1 e.symm
theorem RunSt.frm (h : RunSt w wr gr g A n c L cl Y cy gm D t y V nv cv v z a) (st : TrSt w w' g A n c L' cl' Y' cy' gm D' t' y') (f : Frm wr w' g gm L Y L' Y') : RunSt w w' gr g A n c L' cl' Y' cy' gm D' t' y' V nv cv v z a := by
  have key : ∀ {X : Option Addr} {b : Option Nat}, (blockOf V = none ∨ blockOf V ≠ b) → (blockOf X = b ∨ ∀ k, blockOf X = some k → wr.heap.size ≤ k) → (blockOf V = none ∨ blockOf V ≠ blockOf X) := fun {X b} h1 h2 => by
    rcases h2 with h2 | h2
    · rw [h2]; exact h1
    · rcases h.vo.form with ⟨rfl, _⟩ | ⟨k, cur, rfl, _, hh, _⟩
      · exact .inl rfl
      · right
        intro e
        have h3 := h2 k (by rw [← e]; rfl)
        have := heap_lt hh
        omega
  refine ⟨st, (f.blk gr h.rb.lt h.gne h.gmne (own_typed_ne h.tr.lits (Typed.of_blk h.rb) (by decide)) (own_typed_ne h.tr.why (Typed.of_blk h.rb) (by decide))).trans h.rb, ?_, h.lo, key h.nL f.l, key h.nY f.y⟩
  rcases h.vo.form with ⟨h1, h2, h3, h4⟩ | ⟨k, cur, hV, hk, hh, r⟩
  · rw [h1, h2, h3, h4]; exact Own.nil _ _ _
  · have hVb : blockOf V = some k := by rw [hV]; rfl
    have hbk := f.blk k (heap_lt hh) (fun e => own_typed_ne h.vo (Typed.of_blk h.tr.tb) (by decide) (by rw [hVb, e])) (fun e => own_map_ne h.vo h.tr.mp (by rw [hVb, e]))
      (fun e => by rcases h.nL with h5 | h5; rw [hVb] at h5; cases h5; exact h5 (by rw [hVb, e])) (fun e => by rcases h.nY with h5 | h5; rw [hVb] at h5; cases h5; exact h5 (by rw [hVb, e]))
    refine ⟨h.vo.1, .inr ⟨k, cv, cur, by rw [hV], hk, hbk.trans hh, r.1, r.2.1, by simpa using r.2.2.1, by simpa using r.2.2.2⟩⟩
/-- A store into the run's own box. -/
theorem RunSt.set_ {z' a' : Int} {V' : Option Addr} {nv' cv' : Nat} {v' : List Int} (h : RunSt w wr gr g A n c L cl Y cy gm D t y V nv cv v z a) (i : Nat) (u : Value) (hs : (#[Value.pointer (some ⟨g, 0, none⟩), .slice V nv cv, .int .i64 z, .int .i64 a] : Array Value).setIfInBounds i u = #[.pointer (some ⟨g, 0, none⟩), .slice V' nv' cv', .int .i64 z', .int .i64 a'])
    (hv : Own 3 wr w.heap.size V' nv' cv' (v'.map (Value.int .i64))) (nL : blockOf V' = none ∨ blockOf V' ≠ blockOf L) (nY : blockOf V' = none ∨ blockOf V' ≠ blockOf Y) : RunSt w (wr.setCell ⟨gr, i, none⟩ u) gr g A n c L cl Y cy gm D t y V' nv' cv' v' z' a' := by
  have hg := grown_setCell wr ⟨gr, i, none⟩ u
  have hT := Typed.of_blk h.rb
  refine ⟨h.tr.kept hg (by simp; exact fun e => h.gne e.symm) (by simp; exact fun e => h.gmne e.symm) (h.tr.lits.ne_typed hT (by decide)) (h.tr.why.ne_typed hT (by decide)) (fun k hk => by cases hk; exact h.lo), ?_, hv.kept hg (hv.ne_typed hT (by decide)), h.lo, nL, nY⟩
  rw [← hs]
  exact h.rb.set_ i u
theorem RunSt.setBad (h : RunSt w wr gr g A n c L cl Y cy gm D t y V nv cv v z a) (a' : Int) : RunSt w (wr.setCell ⟨gr, 3, none⟩ (.int .i64 a')) gr g A n c L cl Y cy gm D t y V nv cv v z a' :=
  h.set_ 3 _ (by simp) h.vo h.nL h.nY
theorem RunSt.setLast (h : RunSt w wr gr g A n c L cl Y cy gm D t y V nv cv v z a) (z' : Int) : RunSt w (wr.setCell ⟨gr, 2, none⟩ (.int .i64 z')) gr g A n c L cl Y cy gm D t y V nv cv v z' a :=
  h.set_ 2 _ (by simp) h.vo h.nL h.nY
/-- A level more: appended, not yet stored. -/
theorem RunSt.push1 (h : RunSt w wr gr g A n c L cl Y cy gm D t y V nv cv v z a) (hB : Below wr.heap.size wr W) (hG : W.grownBy w1 (blockOf V)) : TrSt w w1 g A n c L cl Y cy gm D t y ∧ Blk w1 gr 86 #[.pointer (some ⟨g, 0, none⟩), .slice V nv cv, .int .i64 z, .int .i64 a] := by
  have h1 := h.keep hB
  refine ⟨h1.tr.kept hG (own_typed_ne h1.vo (Typed.of_blk h1.tr.tb) (by decide)) (fun e => own_map_ne h1.vo h1.tr.mp e.symm) (ne_symm' h1.nL) (ne_symm' h1.nY) (fun k hk => ?_), h1.rb.grown hG (own_typed_ne h1.vo (Typed.of_blk h1.rb) (by decide))⟩
  rcases h1.vo.form with ⟨rfl, _⟩ | ⟨g', cur, rfl, hg', _⟩
  · cases hk
  · cases hk; exact hg'
theorem RunSt.push (h : RunSt w wr gr g A n c L cl Y cy gm D t y V nv cv v z a) (hB : Below wr.heap.size wr W) {x : Int} (hO : Own 3 w1 w.heap.size V' (nv + 1) cv' (v.map (Value.int .i64) ++ [Value.int .i64 x])) (hG : W.grownBy w1 (blockOf V))
    (hA : blockOf V' = blockOf V ∨ blockOf V' = some W.heap.size) : RunSt w (w1.setCell ⟨gr, 1, none⟩ (.slice V' (nv + 1) cv')) gr g A n c L cl Y cy gm D t y V' (nv + 1) cv' (v ++ [x]) z a := by
  obtain ⟨st, rb⟩ := h.push1 hB hG
  have key : ∀ {base k d : Nat} {X : Option Addr} {xs : List Value}, Own 3 wr base X k d xs → (blockOf V = none ∨ blockOf V ≠ blockOf X) → (blockOf V' = none ∨ blockOf V' ≠ blockOf X) := fun ho hn => by
    rcases hA with h1 | h1
    · rw [h1]; exact hn
    · right
      rw [h1]
      exact fun e => ho.ltb hB.size e.symm
  have h1 : RunSt w w1 gr g A n c L cl Y cy gm D t y V nv cv [] z a → True := fun _ => trivial
  clear h1
  have hg := grown_setCell w1 ⟨gr, 1, none⟩ (.slice V' (nv + 1) cv')
  have hT := Typed.of_blk rb
  have gne := h.gne
  have gmne := h.gmne
  refine ⟨st.kept hg (by simp; exact fun e => gne e.symm) (by simp; exact fun e => gmne e.symm) (st.lits.ne_typed hT (by decide)) (st.why.ne_typed hT (by decide)) (fun k hk => by cases hk; exact h.lo), ?_, ?_, h.lo, key h.tr.lits h.nL, key h.tr.why h.nY⟩
  · have := rb.set_ 1 (.slice V' (nv + 1) cv')
    simpa using this
  · have := hO.kept hg (hO.ne_typed hT (by decide))
    simpa using this
end

/-- A run that went on. -/
def RetPg (w : World) (gr g : Nat) (A : Option Addr) (n c gm : Nat) (t y v : List Int) (z a : Int) (e : Ending) (w' : World) : Prop :=
  e = .returned (.tuple #[]) ∧ ∃ L cl Y cy D V nv cv, RunSt w w' gr g A n c L cl Y cy gm D t y V nv cv v z a

set_option maxHeartbeats 4000000 in
theorem propagate_any (w wr : World) (gr g : Nat) (A : Option Addr) (n c : Nat) (L : Option Addr) (cl : Nat) (Y : Option Addr) (cy gm : Nat) (D : DataW Unit) (t y : List Int) (V : Option Addr) (nv cv : Nat) (v : List Int) (z a : Int) (h : RunSt w wr gr g A n c L cl Y cy gm D t y V nv cv v z a)
    (xss : List (List Int)) (hg : Grid w A n c xss) (vars : Int) (v0 : 0 ≤ vars) (v1 : vars ≤ 1000000) (hc : ∀ x ∈ xss, Lits vars x) (ht : Lits vars t) (hy : y.length = t.length) (k : Nat) (hk : vars < k + t.length)
    (t' y' : List Int) (a' : Int) (hr : Hid (runF xss k t y = (t', y', a'))) :
    Calls Try.prog 82 #[.pointer (some ⟨gr, 0, none⟩)] wr (RetPg w gr g A n c gm t' y' (v ++ List.replicate (t'.length - v.length) z) z a') := by
  have hbd := hg.bd
  obtain ⟨i0, hi0, hz0, hz1, hz2⟩ := info_parts int_info
  have hok := runF_ok v0 hc k t y ht hk
  rw [hr.out] at hok
  have htl : t'.length ≤ 1000000 := by have := hok.lits.len_le v0; simp only at this; omega
  have p0 := h.rb.cell 0
  have p3 := h.rb.cell 3
  simp at p0 p3
  have H := Lib.hid h
  have HC := Lib.hid hc
  have HT := Lib.hid ht
  have HY := Lib.hid hy
  have HK := Lib.hid hk
  have lt0 := h.rb.lt
  clear h hc ht hy hk hok
  go_enter Try.func82, Try.ntmps82
  go_wp2_with fail
  refine (run_any w wr g A n c L cl Y cy gm D t y H.out.tr xss hg vars v0 v1 HC.out HT.out HY.out k HK.out t' y' a' hr).mono ?_
  rintro e w2 ⟨rfl, L2, cl2, Y2, cy2, D2, hst2, hf2⟩
  have h2 := H.out.frm hst2 hf2
  have q3 := h2.rb.cell 3
  have f3 := h2.rb.frozen 3
  simp at q3
  have H3 := Lib.hid (h2.setBad a')
  have HVL : Hid (v.length = nv) := by have := h2.vo.len; rw [List.length_map] at this; exact this
  clear h2 hst2 hf2 p0 p3 H
  go_wp2_with fail
  clear q3 f3
  go_loopg [14] (t'.length - v.length) (fun f _ wr => ∃ (j : Nat) (V : Option Addr) (nv cv : Nat), Hid (j + f = t'.length - v.length) ∧ Hid (RunSt w wr gr g A n c L2 cl2 Y2 cy2 gm D2 t' y' V nv cv (v ++ List.replicate j z) z a'))
  case atStart => exact ⟨0, V, nv, cv, by simp [Hid], by simpa [Hid] using H3.out⟩
  case round =>
    clear H3
    obtain ⟨j, V, nv, cv, hjf, hst⟩ := hrel
    have HNV : Hid (v.length + j = nv) := by have := hst.out.vo.len; simp at this; exact this
    have c0 := hst.out.rb.cell 0
    have c1 := hst.out.rb.cell 1
    have c2 := hst.out.rb.cell 2
    have d1 := hst.out.tr.tb.cell 1
    simp at c0 c1 c2 d1
    have ltr := hst.out.rb.lt
    have ltg := hst.out.tr.tb.lt
    cases gk with
    | zero =>
      have hnl : ¬ nv < t'.length := by have := hjf.out; have := HNV.out; omega
      have dn : decide (nv < t'.length) = false := decide_eq_false hnl
      have hdone : Hid (RunSt w wr gr g A n c L2 cl2 Y2 cy2 gm D2 t' y' V nv cv (v ++ List.replicate (t'.length - v.length) z) z a') := by have := hjf.out; rw [← this]; exact hst
      go_wp2_with fail
      go_quiet (fail)
      go_wp2_with fail
      go_end0
      exact ⟨rfl, L2, cl2, Y2, cy2, D2, V, nv, cv, hdone.out.keep (below_drewN _ _)⟩
    | succ f =>
      have hnl : nv < t'.length := by have := hjf.out; have := HNV.out; omega
      have dn : decide (nv < t'.length) = true := decide_eq_true hnl
      go_wp2_with fail
      go_quiet (fail)
      go_wp2_with fail
      obtain ⟨wq, hwq⟩ : ∃ wq : World, wq = wr.drewN nq := ⟨_, rfl⟩
      have hbq : Below wr.heap.size wr wq := by rw [hwq]; exact below_drewN _ _
      have hstq := Lib.hid (hst.out.keep hbq)
      rw [← hwq]
      have b1 := keepBox hbq c1
      have b2 := keepBox hbq c2
      clear hwq hst c0 c1 c2 d1
      have hwz := hstq.out.tr.bl.size
      have hS : wq.drew.cell? ⟨gr, 1, none⟩ = some (.slice V nv cv) ∧ wq.drew.cell? ⟨gr, 2, none⟩ = some (.int .i64 z) := ⟨keepBox (below_drewN wq 1) b1, keepBox (below_drewN wq 1) b2⟩
      refine wp_region_tail (fun w' => w'.cell? ⟨gr, 1, none⟩ = some (.slice V nv cv) ∧ w'.cell? ⟨gr, 2, none⟩ = some (.int .i64 z)) [13] (by kernel_rfl) ?_
      refine take0 (i := 0) (oi := _) (v := ?_) rfl (by kernel_rfl) (by kernel_rfl) (by kernel_rfl) (fun _ _ _ h => h) rfl (Or.inl ⟨by rfl, ?_⟩) (fun _ => hS) ?_
      rotate_left
      · intro w0; go_simp; with_reducible rfl
      (try simp only [Act.put, List.setIfInBounds_toArray, List.set_cons_zero, List.set_cons_succ])
      refine take0 (i := 1) (oi := _) (v := ?_) rfl (by kernel_rfl) (by kernel_rfl) (by kernel_rfl) (fun _ _ _ h => h) rfl (Or.inl ⟨by rfl, ?_⟩) (fun _ => hS) ?_
      rotate_left
      · intro w0; go_simp; with_reducible rfl
      (try simp only [Act.put, List.setIfInBounds_toArray, List.set_cons_zero, List.set_cons_succ])
      refine take0 (i := 2) (oi := _) (v := ?_) rfl (by kernel_rfl) (by kernel_rfl) (by kernel_rfl) (fun _ _ _ h => h) rfl (Or.inl ⟨by rfl, ?_⟩) (fun _ => hS) ?_
      rotate_left
      · intro w0; go_simp; with_reducible rfl
      (try simp only [Act.put, List.setIfInBounds_toArray, List.set_cons_zero, List.set_cons_succ])
      refine take0 (i := 3) (oi := _) (v := ?_) rfl (by kernel_rfl) (by kernel_rfl) (by kernel_rfl) (fun _ _ _ h => h) rfl (Or.inl ⟨by rfl, ?_⟩) (fun _ => hS) ?_
      rotate_left
      · intro w0; go_simp; with_reducible rfl
      (try simp only [Act.put, List.setIfInBounds_toArray, List.set_cons_zero, List.set_cons_succ])
      refine takeS (i := 4) (oi := _) (v := ?_) rfl (by kernel_rfl) (by kernel_rfl) (by kernel_rfl) (fun _ _ _ h => h) rfl (by kernel_rfl) (by kernel_rfl) (Or.inl ⟨by rfl, ?_⟩) hS ?_
      rotate_left
      · intro w0 hSw; (try dsimp only at hSw); go_simp; with_reducible rfl
      (try simp only [Act.put, List.setIfInBounds_toArray, List.set_cons_zero, List.set_cons_succ])
      refine take0 (i := 5) (oi := _) (v := ?_) rfl (by kernel_rfl) (by kernel_rfl) (by kernel_rfl) (fun _ _ _ h => h) rfl (Or.inl ⟨by rfl, ?_⟩) (fun _ => hS) ?_
      rotate_left
      · intro w0; go_simp; with_reducible rfl
      (try simp only [Act.put, List.setIfInBounds_toArray, List.set_cons_zero, List.set_cons_succ])
      refine take0 (i := 6) (oi := _) (v := ?_) rfl (by kernel_rfl) (by kernel_rfl) (by kernel_rfl) (fun _ _ _ h => h) rfl (Or.inl ⟨by rfl, ?_⟩) (fun _ => hS) ?_
      rotate_left
      · intro w0; go_simp; with_reducible rfl
      (try simp only [Act.put, List.setIfInBounds_toArray, List.set_cons_zero, List.set_cons_succ])
      refine take0 (i := 7) (oi := _) (v := ?_) rfl (by kernel_rfl) (by kernel_rfl) (by kernel_rfl) (fun _ _ _ h => h) rfl (Or.inl ⟨by rfl, ?_⟩) (fun _ => hS) ?_
      rotate_left
      · intro w0; go_simp; with_reducible rfl
      (try simp only [Act.put, List.setIfInBounds_toArray, List.set_cons_zero, List.set_cons_succ])
      refine takeS (i := 8) (oi := _) (v := ?_) rfl (by kernel_rfl) (by kernel_rfl) (by kernel_rfl) (fun _ _ _ h => h) rfl (by kernel_rfl) (by kernel_rfl) (Or.inl ⟨by rfl, ?_⟩) hS ?_
      rotate_left
      · intro w0 hSw; (try dsimp only at hSw); go_simp; with_reducible rfl
      (try simp only [Act.put, List.setIfInBounds_toArray, List.set_cons_zero, List.set_cons_succ])
      refine oneT (i := 9) (by kernel_rfl) rfl (by rfl) (fun K hK => ?_)
      go_simp
      have hS : ((wq.alloc (.cells #[.int .i64 z] 3)).drew).cell? ⟨gr, 1, none⟩ = some (.slice V nv cv) ∧ ((wq.alloc (.cells #[.int .i64 z] 3)).drew).cell? ⟨gr, 2, none⟩ = some (.int .i64 z) := ⟨keepBox (below_drew1 (below_new wq _)) b1, keepBox (below_drew1 (below_new wq _)) b2⟩
      refine hK _ _ (fun _ => hS) ?_
      clear hK
      (try simp only [Act.put, List.setIfInBounds_toArray, List.set_cons_zero, List.set_cons_succ])
      refine oneT (i := 10) (by kernel_rfl) rfl (by rfl) (fun K hK => ?_)
      refine wp_append_sl _ (.tmp 28) (.tmp 33) 25 rfl w.heap.size 3 i0 _ 8 Try.underlying25 hi0 hz0 hz1 hz2 rfl V nv cv _ rfl (hstq.out.vo.keep (below_drew1 (below_new wq _))) (some ⟨wq.heap.size, 0, none⟩) 1 1 [.int .i64 z] rfl (sl_one wq 3 (.int .i64 z) rfl).drew1 (by simp [Value.oneCell']) (by simp only [maxLen]; omega) (by omega) (by simp; omega) ?_
      intro V1 cV1 w5 hO5 hG5 hA5
      obtain ⟨_, rb5⟩ := hstq.out.push1 (below_drew1 (below_new wq _)) hG5
      have e1 := rb5.cell 1
      have e2 := rb5.cell 2
      have g1 := rb5.frozen 1
      simp at e1 e2
      have HST5 := Lib.hid (hstq.out.push (below_drew1 (below_new wq _)) hO5 hG5 hA5)
      have hS : w5.cell? ⟨gr, 1, none⟩ = some (.slice V nv cv) ∧ w5.cell? ⟨gr, 2, none⟩ = some (.int .i64 z) := ⟨e1, e2⟩
      clear hO5 hG5 hA5 rb5
      refine hK _ _ (fun _ => hS) ?_
      clear hK
      (try simp only [Act.put, List.setIfInBounds_toArray, List.set_cons_zero, List.set_cons_succ])
      refine take0 (i := 11) (oi := _) (v := ?_) rfl (by kernel_rfl) (by kernel_rfl) (by kernel_rfl) (fun _ _ _ h => h) rfl (Or.inl ⟨by rfl, ?_⟩) (fun _ => hS) ?_
      rotate_left
      · intro w0; go_simp; with_reducible rfl
      (try simp only [Act.put, List.setIfInBounds_toArray, List.set_cons_zero, List.set_cons_succ])
      refine take0 (i := 12) (oi := _) (v := ?_) rfl (by kernel_rfl) (by kernel_rfl) (by kernel_rfl) (fun _ _ _ h => h) rfl (Or.inl ⟨by rfl, ?_⟩) (fun _ => hS) ?_
      rotate_left
      · intro w0; go_simp; with_reducible rfl
      (try simp only [Act.put, List.setIfInBounds_toArray, List.set_cons_zero, List.set_cons_succ])
      refine oneT (i := 13) (by kernel_rfl) rfl (by rfl) (fun K hK => ?_)
      go_simp
      refine hK _ _ (noT_no (by kernel_rfl)) ?_
      clear hK
      (try simp only [Act.put, List.setIfInBounds_toArray, List.set_cons_zero, List.set_cons_succ])
      refine doneT (by kernel_rfl) ?_ _
      go_wp2_with fail
      go_roundg f
      case measure => omega
      case rel => exact ⟨j + 1, V1, _, cV1, by have := hjf.out; show _ = _; omega, by rw [List.replicate_succ', ← List.append_assoc]; exact HST5⟩

theorem lits_app {vars : Int} {t q : List Int} {l : Int} (ht : Lits vars t) (hq : Lits vars q) (hl : l ∈ q) (h1 : hasB t l = false) (h2 : hasB t (-l) = false) : Lits vars (t ++ [l]) := by
  have g1 := hasB_false.1 h1
  have g2 := hasB_false.1 h2
  refine ⟨fun x hx => ?_, List.pairwise_append.2 ⟨ht.2, by simp, fun x hx y hy => ?_⟩⟩
  · rcases List.mem_append.1 hx with hx | hx
    · exact ht.1 x hx
    · simp at hx; subst hx; exact hq.1 _ hl
  · simp at hy
    subst hy
    intro e
    rcases Int.natAbs_eq_natAbs_iff.1 e with e | e
    · exact g1 (e ▸ hx)
    · exact g2 (e ▸ hx)
/-- A run from asked literals. -/
def RetStart (A : Option Addr) (n c : Nat) (w : World) (t y v : List Int) (z a : Int) (e : Ending) (w' : World) : Prop :=
  ∃ W gr g gm L cl Y cy D V nv cv, e = .returned (.pointer (some ⟨gr, 0, none⟩)) ∧ Below w.heap.size w W ∧ RunSt W w' gr g A n c L cl Y cy gm D t y V nv cv v z a

set_option maxHeartbeats 4000000 in
theorem start_any (A B : Option Addr) (n c m d : Nat) (xss : List (List Int)) (q : List Int) (vars : Int) (w : World) (h : Grid w A n c xss) (h' : Ints w B m d q) (v0 : 0 ≤ vars) (v1 : vars ≤ 1000000) (hc : ∀ x ∈ xss, Lits vars x) (hl : Lits vars q)
    (t' y' v' : List Int) (z' : Nat) (a' : Int) (hr : Hid (startF vars xss q = (t', y', v', z', a'))) :
    Calls Try.prog 54 #[.agg #[.int .i64 vars, .slice A n c], .slice B m d] w (RetStart A n c w t' y' v' z' a') := by
  have hbd := h.bd
  have hbd' := h'.bd
  have hlen := Lib.hid h'.len
  have hm6 : m ≤ 1000000 := by have := hl.len_le v0; rw [hlen.out] at this; omega
  obtain ⟨W, hW⟩ : ∃ W : World, W = w.alloc (.cells #[.int .i64 vars, .slice A n c] 24) := ⟨_, rfl⟩
  have HBW : Hid (Below w.heap.size w W) := by rw [hW]; exact below_new _ _
  have HGW := Lib.hid (h.keep HBW.out)
  have HQW := Lib.hid (h'.keep HBW.out)
  have HC := Lib.hid hc
  have HL := Lib.hid hl
  have c1 : W.cell? ⟨w.heap.size, 1, none⟩ = some (.slice A n c) := by rw [hW]; simp [go_sem]
  have HW := Lib.hid hW
  obtain ⟨t0, y0, a0, hr0⟩ : ∃ t0 y0 a0, Hid (runF xss (vars.toNat + 1) [] [] = (t0, y0, a0)) := ⟨_, _, _, rfl⟩
  have hok0 := runF_ok v0 hc (vars.toNat + 1) [] [] ⟨by simp, List.Pairwise.nil⟩ (by simp; omega)
  rw [hr0.out] at hok0
  have HL0 : Hid (Lits vars t0) := hok0.lits
  have HY0 : Hid (y0.length = t0.length) := hok0.same rfl
  have hr1 : Hid (lvlF vars xss q t0 y0 (List.replicate t0.length 0) 0 a0 = (t', y', v', z', a')) := by have := hr.out; rw [startF, hr0.out] at this; exact this
  clear h h' hc hl hW hok0 hr
  go_enter Try.func54, Try.ntmps54
  go_wp2_with fail
  rw [← HW.out]
  refine (new_any A n c W).mono ?_
  rintro e w1 ⟨g, gm, rfl, hst⟩
  have HR0 : Hid (RunSt W (w1.alloc (.cells #[.pointer (some ⟨g, 0, none⟩), .slice none 0 0, .int .i64 0, .int .i64 0] 86)) w1.heap.size g A n c none 0 none 0 gm (.map []) [] [] none 0 0 [] 0 0) :=
    ⟨hst.keep (below_new _ _), Blk.new _ _ _, Own.nil _ _ _, hst.bl.size, .inl rfl, .inl rfl⟩
  clear hst c1
  go_wp2_with fail
  refine (propagate_any W _ w1.heap.size g A n c none 0 none 0 gm (.map []) [] [] none 0 0 [] 0 0 HR0.out xss HGW.out vars v0 v1 HC.out ⟨by simp, List.Pairwise.nil⟩ rfl (vars.toNat + 1) (by simp; omega) t0 y0 a0 hr0).mono ?_
  rintro e w2 ⟨rfl, L0, cl0, Y0, cy0, D0, V0, nv0, cv0, hst2⟩
  have HR2 : Hid (RunSt W w2 w1.heap.size g A n c L0 cl0 Y0 cy0 gm D0 t0 y0 V0 nv0 cv0 (List.replicate t0.length 0) ((0 : Nat) : Int) a0) := by simpa [Hid] using hst2
  clear hst2 HR0
  obtain ⟨gr, hgr⟩ : ∃ gr, gr = w1.heap.size := ⟨_, rfl⟩
  rw [← hgr] at HR2 ⊢
  clear hgr
  go_wp2_with fail
  go_loopw [17] (fun i wr => ∃ (k : Nat) (L : Option Addr) (cl : Nat) (Y : Option Addr) (cy : Nat) (D : DataW Unit) (V : Option Addr) (nv cv : Nat) (t y v : List Int) (z : Nat) (a : Int), k ≤ m ∧ z ≤ k ∧ i = .int .i64 k ∧ Hid (RunSt W wr gr g A n c L cl Y cy gm D t y V nv cv v z a) ∧ Hid (Lits vars t) ∧ Hid (y.length = t.length) ∧ Hid (lvlF vars xss (q.drop k) t y v z a = (t', y', v', z', a'))) (fun i _ => m - (intOf i).toNat)
  case atStart => exact ⟨0, L0, cl0, Y0, cy0, D0, V0, nv0, cv0, t0, y0, _, 0, a0, Nat.zero_le _, Nat.zero_le _, rfl, HR2, HL0, HY0, hr1⟩
  case round =>
    clear HR2 HL0 HY0 hr1 hr0
    obtain ⟨k, L, cl, Y, cy, D, V, nv, cv, t, y, v, z, a, hk, hzk, rfl, hst, ht, hy, hlv⟩ := hrel
    have c0 := hst.out.rb.cell 0
    have c2 := hst.out.rb.cell 2
    have c3 := hst.out.rb.cell 3
    have f2 := hst.out.rb.frozen 2
    simp at c0 c2 c3
    have ltr := hst.out.rb.lt
    by_cases hlt : k < m
    · obtain ⟨b, off, l, rfl, hb, hcell, l1, l2, hlz⟩ := (HQW.out.keep hst.out.tr.bl).round hlt
      have hlm := List.mem_of_getElem? hlz.out
      have hll := HL.out.1 l hlm
      by_cases ha : 0 ≤ a
      · have hfin : (t, y, v, z, a) = (t', y', v', z', a') := by have := hlv.out; rw [drop_cons_of hlz.out, lvlF, if_pos ha] at this; exact this
        obtain ⟨rfl, rfl, rfl, rfl, rfl⟩ : t = t' ∧ y = y' ∧ v = v' ∧ z = z' ∧ a = a' := by simpa using hfin
        clear hfin hlm
        go_wp2_with fail
        go_ret
        exact ⟨W, gr, g, gm, L, cl, Y, cy, D, V, nv, cv, rfl, HBW.out, hst.out⟩
      · obtain ⟨q1, hq1⟩ : ∃ q, Hid (hasB t l = q) := ⟨_, rfl⟩
        obtain ⟨q2, hq2⟩ : ∃ q, Hid (hasB t (-l) = q) := ⟨_, rfl⟩
        obtain ⟨t2, y2, a2, hr2⟩ : ∃ t2 y2 a2, Hid (runF xss (vars.toNat + 1) (t ++ [l]) (y ++ [-1]) = (t2, y2, a2)) := ⟨(runF xss (vars.toNat + 1) (t ++ [l]) (y ++ [-1])).1, (runF xss (vars.toNat + 1) (t ++ [l]) (y ++ [-1])).2.1, (runF xss (vars.toNat + 1) (t ++ [l]) (y ++ [-1])).2.2, rfl⟩
        have hlv2 : Hid ((if q1 || q2 then lvlF vars xss (q.drop (k + 1)) t y v z a else lvlF vars xss (q.drop (k + 1)) t2 y2 (v ++ List.replicate (t2.length - v.length) ((z : Int) + 1)) (z + 1) a2) = (t', y', v', z', a')) := by
          have := hlv.out
          rw [drop_cons_of hlz.out, lvlF, if_neg ha, hq1.out, hq2.out, hr2.out] at this
          exact this
        have HLOOK := Lib.hid hst.out.tr.look
        clear hlv
        go_wp2_with fail
        refine (has_trail wr g gm t.length D t HLOOK.out l ⟨l1, l2⟩ q1 hq1).mono ?_
        rintro e w3 ⟨rfl, m3, rfl⟩
        cases q1
        · go_wp2_with fail
          refine (has_trail _ g gm t.length D t (HLOOK.out.drewN m3) (-l) ⟨by omega, by omega⟩ q2 hq2).mono ?_
          rintro e w4 ⟨rfl, m4, rfl⟩
          cases q2
          · have HLT := Lib.hid (lits_app ht.out HL.out hlm hq1.out hq2.out)
            have htl := ht.out.len_le v0
            have hok2 := runF_ok v0 HC.out (vars.toNat + 1) (t ++ [l]) (y ++ [-1]) HLT.out (by simp; omega)
            rw [hr2.out] at hok2
            have HL2 : Hid (Lits vars t2) := hok2.lits
            have HY2 : Hid (y2.length = t2.length) := hok2.same (by have := hy.out; simp [this])
            have hstL := Lib.hid ((hst.out.setLast ((z : Int) + 1)).keep (below_drewN _ (m3 + m4)))
            have e0 := hstL.out.rb.cell 0
            simp at e0
            clear hok2 hlm
            go_wp2_with fail
            refine (add_any W _ g A n c L cl Y cy gm D t y hstL.out.tr l (-1) ⟨l1, l2⟩ (by omega) (by have := hy.out; omega)).mono ?_
            rintro e w5 ⟨rfl, L5, cl5, Y5, cy5, D5, hst5, hf5⟩
            have HR5 := Lib.hid (hstL.out.frm hst5 hf5)
            clear hst5 hf5 hstL e0 c0 c2 c3 f2
            go_wp2_with fail
            refine (propagate_any W w5 gr g A n c L5 cl5 Y5 cy5 gm D5 (t ++ [l]) (y ++ [-1]) V nv cv v ((z : Int) + 1) a HR5.out xss HGW.out vars v0 v1 HC.out HLT.out (by have := hy.out; simp [this]) (vars.toNat + 1) (by simp; omega) t2 y2 a2 hr2).mono ?_
            rintro e w6 ⟨rfl, L6, cl6, Y6, cy6, D6, V6, nv6, cv6, hst6⟩
            have HR6 := Lib.hid hst6
            clear hst6 HR5
            go_wp2_with fail
            go_roundw
            case rel => exact ⟨k + 1, L6, cl6, Y6, cy6, D6, V6, nv6, cv6, t2, y2, _, z + 1, a2, by omega, by omega, by go_num, HR6, HL2, HY2, by have := hlv2.out; simpa [Hid] using this⟩
            case measure => simp [intOf]; omega
          · go_wp2_with fail
            go_roundw
            case rel => exact ⟨k + 1, L, cl, Y, cy, D, V, nv, cv, t, y, v, z, a, by omega, by omega, by go_num, hst.out.keep (below_drewN _ _), ht, hy, by have := hlv2.out; simpa [Hid] using this⟩
            case measure => simp [intOf]; omega
        · go_wp2_with fail
          go_roundw
          case rel => exact ⟨k + 1, L, cl, Y, cy, D, V, nv, cv, t, y, v, z, a, by omega, by omega, by go_num, hst.out.keep (below_drewN _ _), ht, hy, by have := hlv2.out; simpa [Hid] using this⟩
          case measure => simp [intOf]; omega
    · have hfin : (t, y, v, z, a) = (t', y', v', z', a') := by have := hlv.out; rw [List.drop_of_length_le (by rw [hlen.out]; omega), lvlF] at this; exact this
      obtain ⟨rfl, rfl, rfl, rfl, rfl⟩ : t = t' ∧ y = y' ∧ v = v' ∧ z = z' ∧ a = a' := by simpa using hfin
      clear hfin
      go_wp2_with fail
      go_ret
      exact ⟨W, gr, g, gm, L, cl, Y, cy, D, V, nv, cv, rfl, HBW.out, hst.out⟩
end Go.Proofs.Ytabjbpkojbdgaaa
