/- res's translation: what its box and its slices hold, how they grow; plain facts of its numbers; the contract of done. -/
import Derived.Test.YtabjbpkojbdgaaaOfPlain
import Derived.Test.YtabjbpkojbdgaaaOwnF
import Derived.Test.YtabjbpkojbdgaaaRowFn
import Derived.Test.YtabjbpkojbdgaaaSnocG
import Derived.Test.YtabjbpkojbdgaaaUnitRun
import Derived.Test.YtabjbpkojbdgaaaResolve
namespace Go.Proofs.Ytabjbpkojbdgaaa
open Go.RowKit Go.Maps Go.WideMaps
set_option linter.unusedSimpArgs false

/-- The box gx of a translation (its cells), its clauses K, their numbers N, its resolutions O. -/
structure TrG (w v : World) (gx : Nat) (cells : Array Value) (K : Option Addr) (nk ck : Nat) (N : Option Addr) (nn cn : Nat) (O : Option Addr) (no co : Nat) (known : List (List Int)) (nums : List Int) (out : List R3) : Prop where
  bl : Below w.heap.size w v
  lo : w.heap.size ≤ gx
  tb : Blk v gx 111 cells
  ko : OwnF 25 3 v w.heap.size w.heap.size K nk ck known N
  no_ : Own 3 v w.heap.size N nn cn (nums.map (Value.int .i64))
  oo : OwnR v w.heap.size O no co out
section
variable {w v v' : World} {gx : Nat} {cells : Array Value} {K N O : Option Addr} {nk ck nn cn no co : Nat} {known : List (List Int)} {nums : List Int} {out : List R3}
theorem TrG.keep (h : TrG w v gx cells K nk ck N nn cn O no co known nums out) (hb : Below v.heap.size v v') : TrG w v' gx cells K nk ck N nn cn O no co known nums out :=
  ⟨below_next h.bl hb, h.lo, h.tb.keep hb, h.ko.keep hb, h.no_.keep hb, h.oo.keep hb⟩
theorem Own.ne_blk {e t : TypeId} {w : World} {base n c g : Nat} {A : Option Addr} {xs : List Value} {cs : Array Value} (h : Own e w base A n c xs) (hb : Blk w g t cs) (hne : e ≠ t) : some g ≠ blockOf A := by
  rcases h.ne_typed (Typed.of_blk hb) hne with h1 | h1
  · rw [h1]; simp
  · exact fun e => h1 e.symm
theorem OwnR.ne_blk {t : TypeId} {w : World} {base n d g : Nat} {B : Option Addr} {rs : List R3} {cs : Array Value} (h : OwnR w base B n d rs) (hb : Blk w g t cs) (hne : 75 ≠ t) : some g ≠ blockOf B := by
  rcases h.ne_typed (Typed.of_blk hb) hne with h1 | h1
  · rw [h1]; simp
  · exact fun e => h1 e.symm
theorem Own.keptT {e t : TypeId} {w w' : World} {base n c : Nat} {A : Option Addr} {xs : List Value} {row : Option Nat} (h : Own e w base A n c xs) (hg : w.grownBy w' row) (hr : ∀ g, row = some g → Typed t w g) (hne : e ≠ t) : Own e w' base A n c xs := by
  refine h.kept hg ?_
  cases row with
  | none =>
    by_cases h0 : blockOf A = none
    · exact .inl h0
    · exact .inr h0
  | some g => exact h.ne_typed (hr g rfl) hne
/-- A clause more. -/
theorem TrG.growK {K' A' : Option Addr} {ck' n' c' : Nat} {xs : List Int} {vs : List Value} (h : TrG w v gx cells K nk ck N nn cn O no co known nums out) (h1 : Own 25 v w.heap.size K nk ck vs) (h2 : RowsP 3 v w.heap.size vs known) (h3 : Far vs N)
    (hi : Ints v A' n' c' xs) (ha : Away 3 v w.heap.size A' n') (hf : 0 < n' → blockOf A' = none ∨ blockOf A' ≠ blockOf N) (ho : Own 25 v' w.heap.size K' (nk + 1) ck' (vs ++ [Value.slice A' n' c'])) (hg : v.grownBy v' (blockOf K)) :
    TrG w v' gx cells K' (nk + 1) ck' N nn cn O no co (known ++ [xs]) nums out :=
  ⟨below_grown h.bl h1 (Nat.le_refl _) hg, h.lo, h.tb.grown hg (h1.ne_blk h.tb (by decide)), OwnF.push h1 h2 h3 (Nat.le_refl _) (by decide) hi ha hf ho hg, h.no_.kept hg (own_ne h.no_ h1 (by decide)), h.oo.keptT hg (fun g hg' => (own_rows h1 (Nat.le_refl _) g hg').2) (by decide)⟩
/-- A number more. -/
theorem TrG.growN {N' : Option Addr} {cn' : Nat} {x : Int} (h : TrG w v gx cells K nk ck N nn cn O no co known nums out) (ho : Own 3 v' w.heap.size N' (nn + 1) cn' (nums.map (Value.int .i64) ++ [Value.int .i64 x])) (hg : v.grownBy v' (blockOf N)) (hat : blockOf N' = blockOf N ∨ blockOf N' = some v.heap.size) :
    TrG w v' gx cells K nk ck N' (nn + 1) cn' O no co known (nums ++ [x]) out :=
  ⟨below_grown h.bl h.no_ (Nat.le_refl _) hg, h.lo, h.tb.grown hg (h.no_.ne_blk h.tb (by decide)), h.ko.grewN h.no_ (by decide) hg hat, by rw [List.map_append]; exact ho, h.oo.keptT hg (fun g hg' => (own_rows h.no_ (Nat.le_refl _) g hg').2) (by decide)⟩
/-- A resolution more. -/
theorem TrG.growO {O' : Option Addr} {co' : Nat} {r : R3} (h : TrG w v gx cells K nk ck N nn cn O no co known nums out) (ho : OwnR v' w.heap.size O' (no + 1) co' (out ++ [r])) (hg : v.grownBy v' (blockOf O)) :
    TrG w v' gx cells K nk ck N nn cn O' (no + 1) co' known nums (out ++ [r]) :=
  ⟨h.bl.grown hg h.bl.size (fun k hk => (h.oo.base hk).1), h.lo, h.tb.grown hg (h.oo.ne_blk h.tb (by decide)), h.ko.kept hg (fun g hg' => h.oo.base hg') (by decide) (by decide), h.no_.keptT hg (fun g hg' => (h.oo.base hg').2) (by decide), ho⟩
/-- A cell of the box is written. -/
theorem TrG.put (h : TrG w v gx cells K nk ck N nn cn O no co known nums out) (j : Nat) (u : Value) : TrG w (v.setCell ⟨gx, j, none⟩ u) gx (cells.setIfInBounds j u) K nk ck N nn cn O no co known nums out :=
  ⟨h.bl.setCell (p := ⟨gx, j, none⟩) h.lo u, h.lo, h.tb.set_ j u, h.ko.kept (grown_setCell v ⟨gx, j, none⟩ u) (fun g hg => by cases hg; exact ⟨h.lo, Typed.of_blk h.tb⟩) (by decide) (by decide),
    h.no_.keptT (grown_setCell v ⟨gx, j, none⟩ u) (fun g hg => by cases hg; exact Typed.of_blk h.tb) (by decide), h.oo.keptT (grown_setCell v ⟨gx, j, none⟩ u) (fun g hg => by cases hg; exact Typed.of_blk h.tb) (by decide)⟩
/-- A block of a resolution that is not the slice's is written. -/
theorem TrG.farPut {b9 : Nat} {cs : Array Value} (h : TrG w v gx cells K nk ck N nn cn O no co known nums out) (hb : Blk v b9 75 cs) (hw : w.heap.size ≤ b9) (hO : ∀ q, blockOf O = some q → q < b9) (j : Nat) (u : Value) :
    TrG w (v.setCell ⟨b9, j, none⟩ u) gx cells K nk ck N nn cn O no co known nums out := by
  have hg := grown_setCell v ⟨b9, j, none⟩ u
  have hr : ∀ q, some b9 = some q → Typed 75 v q := fun q hq => by cases hq; exact Typed.of_blk hb
  refine ⟨h.bl.setCell (p := ⟨b9, j, none⟩) hw u, h.lo, h.tb.grown hg fun e => ?_, h.ko.kept hg (fun q hq => by cases hq; exact ⟨hw, Typed.of_blk hb⟩) (by decide) (by decide), h.no_.keptT hg hr (by decide), h.oo.kept hg ?_⟩
  · injection e with e
    simp only at e
    subst e
    have h1 := h.tb
    unfold Blk at h1 hb
    rw [h1] at hb
    injection hb with hb
    injection hb with _ ht
    exact absurd ht (by decide)
  · cases ho : blockOf O with
    | none => exact .inl rfl
    | some q => exact .inr fun e => by have := hO q ho; injection e with e; simp only at e; omega
theorem TrG.blkN (h : TrG w v gx cells K nk ck N nn cn O no co known nums out) : ∀ q, blockOf N = some q → q < v.heap.size := fun q hq => by
  rcases h.no_.form with ⟨rfl, _⟩ | ⟨g, cur, rfl, _, hh, _⟩
  · cases hq
  · cases hq; exact heap_lt hh
end
theorem OwnR.lt {w : World} {base n d k : Nat} {B : Option Addr} {rs : List R3} (h : OwnR w base B n d rs) (hk : blockOf B = some k) : k < w.heap.size := by
  rcases h.form with ⟨rfl, _⟩ | ⟨g', cur, rfl, _, hh, _⟩
  · cases hk
  · cases hk; exact heap_lt hh
/-- A trail, as the translation reads it. -/
structure Tri (v : World) (b g : Nat) (A : Option Addr) (n c : Nat) (L : Option Addr) (cl : Nat) (Y : Option Addr) (cy gm : Nat) (t y : List Int) : Prop where
  tb : Blk v g 90 #[.slice A n c, .slice L t.length cl, .slice Y y.length cy, .map (some gm)]
  ol : Own 3 v b L t.length cl (t.map (Value.int .i64))
  oy : Own 3 v b Y y.length cy (y.map (Value.int .i64))
  sz : b ≤ v.heap.size
section
variable {v v' : World} {b g : Nat} {A : Option Addr} {n c : Nat} {L : Option Addr} {cl : Nat} {Y : Option Addr} {cy gm : Nat} {t y : List Int}
theorem Tri.keep (h : Tri v b g A n c L cl Y cy gm t y) (hb : Below v.heap.size v v') : Tri v' b g A n c L cl Y cy gm t y := ⟨h.tb.keep hb, h.ol.keep hb, h.oy.keep hb, Nat.le_trans h.sz hb.size⟩
theorem Tri.kept {e : TypeId} {row : Option Nat} (h : Tri v b g A n c L cl Y cy gm t y) (hg : v.grownBy v' row) (hr : ∀ q, row = some q → Typed e v q) (n1 : 90 ≠ e) (n2 : (3 : TypeId) ≠ e) : Tri v' b g A n c L cl Y cy gm t y := by
  refine ⟨h.tb.grown hg fun e1 => ?_, h.ol.keptT hg hr n2, h.oy.keptT hg hr n2, Nat.le_trans h.sz hg.size⟩
  obtain ⟨cs, fz, hcs⟩ := hr g e1.symm
  have := h.tb
  unfold Blk at this
  rw [this] at hcs
  injection hcs with hcs
  injection hcs with _ ht
  exact n1 ht
end

theorem own_far {e : TypeId} {w : World} {b n c : Nat} {P N : Option Addr} {xs : List Value} (h : Own e w b P n c xs) (hN : ∀ q, blockOf N = some q → q < b) : blockOf P = none ∨ blockOf P ≠ blockOf N := by
  cases hp : blockOf P with
  | none => exact .inl rfl
  | some q => exact .inr fun e1 => by have h1 := own_base h hp; have h2 := hN q e1.symm; omega
theorem own_moved {e : TypeId} {w : World} {b n c : Nat} {P N N' : Option Addr} {xs : List Value} (h : Own e w b P n c xs) (hf : blockOf P = none ∨ blockOf P ≠ blockOf N) (ha : blockOf N' = blockOf N ∨ blockOf N' = some w.heap.size) : blockOf P = none ∨ blockOf P ≠ blockOf N' := by
  rcases ha with ha | ha
  · rw [ha]; exact hf
  · rw [ha]
    rcases h.form with ⟨rfl, _⟩ | ⟨g, cur, rfl, _, hh, _⟩
    · exact .inl rfl
    · right
      have := heap_lt hh
      simp only [blockOf, ne_eq, Option.some.injEq]
      omega
theorem var_same (x : Int) (w : World) (h1 : -9223372036854775807 ≤ x) (h2 : x ≤ 9223372036854775807) : Calls Try.prog 100 #[.int .i64 x] w (fun e w' => e = .returned (.int .i64 x.natAbs) ∧ w' = w) := by
  go_enter Try.func100, Try.ntmps100
  go_wp2_with fail
  all_goals
    go_ret
    exact ⟨congrArg Ending.returned (by show Value.int _ _ = Value.int _ _; congr 1; omega), rfl⟩
theorem Tri.put {v : World} {b g : Nat} {A : Option Addr} {n c : Nat} {L : Option Addr} {cl : Nat} {Y : Option Addr} {cy gm : Nat} {t y : List Int} {e : TypeId} {b9 : Nat} {cs : Array Value} (h : Tri v b g A n c L cl Y cy gm t y) (hb : Blk v b9 e cs)
    (n1 : 90 ≠ e) (n2 : (3 : TypeId) ≠ e) (j : Nat) (u : Value) : Tri (v.setCell ⟨b9, j, none⟩ u) b g A n c L cl Y cy gm t y :=
  h.kept (grown_setCell v ⟨b9, j, none⟩ u) (fun q hq => by cases hq; exact Typed.of_blk hb) n1 n2
theorem Own.putT {e t : TypeId} {v : World} {base n c : Nat} {A : Option Addr} {xs : List Value} {b9 : Nat} {cs : Array Value} (h : Own e v base A n c xs) (hb : Blk v b9 t cs) (hne : e ≠ t) (j : Nat) (u : Value) : Own e (v.setCell ⟨b9, j, none⟩ u) base A n c xs :=
  h.keptT (grown_setCell v ⟨b9, j, none⟩ u) (fun q hq => by cases hq; exact Typed.of_blk hb) hne
/-- The resolvent is a clause. -/
theorem rvF_lits {vars v : Int} {a b : List Int} (ha : Lits vars a) (hb : Lits vars b) : Lits vars (rvF a b v) := by
  have hz : ∀ x ∈ a ++ b, x ≠ 0 := fun x hx => by
    rcases List.mem_append.1 hx with hx | hx
    · exact (ha.1 x hx).1
    · exact (hb.1 x hx).1
  unfold rvF
  rw [rsP_eq _ _ _ hz (by simp)]
  cases ho : rsF v (a ++ b) []
  · exact ⟨by simp, List.Pairwise.nil⟩
  · rename_i o
    refine Lits.sortF ⟨fun x hx => ?_, rsF_two' v _ _ _ ho List.Pairwise.nil⟩
    rcases (rsF_mem v _ _ _ ho x).1 hx with hx | ⟨hx, _⟩
    · simp at hx
    · rcases List.mem_append.1 hx with hx | hx
      · exact ha.1 x hx
      · exact hb.1 x hx
/-- The numbers along a way back. -/
theorem trF_num {vars : Int} {known : List (List Int)} {nums t y : List Int} (hk : ∀ c ∈ known, Lits vars c) : ∀ (k : Nat) (now : List Int) (num nx : Int) (out : List R3), Lits vars now → 0 ≤ num → num < nx →
    Lits vars (trF known nums t y k now num nx out).1 ∧ 0 ≤ (trF known nums t y k now num nx out).2.1 ∧ (trF known nums t y k now num nx out).2.1 < (trF known nums t y k now num nx out).2.2.1 ∧
    (trF known nums t y k now num nx out).2.2.1 - (trF known nums t y k now num nx out).2.2.2.length = nx - out.length ∧ nx ≤ (trF known nums t y k now num nx out).2.2.1 ∧ (trF known nums t y k now num nx out).2.2.1 ≤ nx + k
  | 0, now, num, nx, out, hl, h0, h1 => by rw [trF]; simp only; exact ⟨hl, h0, h1, by trivial, by omega, by omega⟩
  | k + 1, now, num, nx, out, hl, h0, h1 => by
    rw [trF]
    by_cases hc : y.getD k 0 < 0 ∨ hasB now (-(t.getD k 0)) = false
    · rw [if_pos hc]
      obtain ⟨g0, g1, g2, g3, g4, g5⟩ := trF_num (nums := nums) (t := t) (y := y) hk k now num nx out hl h0 h1
      exact ⟨g0, g1, g2, g3, g4, by omega⟩
    · rw [if_neg hc]
      have hrow : Lits vars (known.getD (y.getD k 0).toNat []) := by
        rw [List.getD_eq_getElem?_getD]
        cases hg : known[(y.getD k 0).toNat]?
        · exact ⟨by simp, List.Pairwise.nil⟩
        · exact hk _ (List.mem_of_getElem? hg)
      obtain ⟨g0, g1, g2, g3, g4, g5⟩ := trF_num (nums := nums) (t := t) (y := y) hk k (rvF (known.getD (y.getD k 0).toNat []) now ((t.getD k 0).natAbs : Int)) nx (nx + 1) (out ++ [rsT (t.getD k 0) num (nums.getD (y.getD k 0).toNat 0)]) (rvF_lits hrow hl) (by omega) (by omega)
      refine ⟨g0, g1, g2, ?_, by omega, by omega⟩
      rw [g3, List.length_append, List.length_singleton]
      omega

set_option maxHeartbeats 1000000 in
theorem done1_any (X : Option Addr) (n c : Nat) (xs : List Int) (w : World) (h : Ints w X n c xs) : Calls Try.prog 99 #[.slice X n c] w (RetV (.bool xs.isEmpty) w) := by
  have hl := h.len
  by_cases h0 : n = 0
  · subst h0
    have e : xs.isEmpty = true := by rw [List.isEmpty_iff_length_eq_zero]; exact hl
    rw [e]
    go_enter Try.func99, Try.ntmps99
    go_wp2_with fail
    go_ret
    exact ⟨rfl, Below.refl _ _⟩
  · have e : xs.isEmpty = false := by rw [Bool.eq_false_iff]; intro e; rw [List.isEmpty_iff_length_eq_zero] at e; omega
    have d : ((n : Int) == 0) = false := by rw [beq_eq_false_iff_ne]; omega
    rw [e]
    go_enter Try.func99, Try.ntmps99
    go_wp2_with fail
    go_ret
    exact ⟨rfl, Below.refl _ _⟩
theorem enters_done1 : Enters Try.prog 99 := enters_of Try.func99 (by kernel_rfl) rfl
set_option maxHeartbeats 1000000 in
theorem done_any (gx : Nat) (K : Option Addr) (nk ck : Nat) (known : List (List Int)) (w : World) (hc : w.cell? ⟨gx, 0, none⟩ = some (.slice K nk ck)) (h : Grid w K nk ck known) (q : Bool) (hq : Hid (known.any (fun x => x.isEmpty) = q)) :
    Calls Try.prog 65 #[.pointer (some ⟨gx, 0, none⟩)] w (RetV (.bool q) w) := by
  have hlt := (cell_lt hc).1
  have HG := Lib.hid h
  have HP : Hid (PredR 99 #[] known (fun x => x.isEmpty) w) := by
    intro V' Y ny cy y hV hy hm
    exact done1_any Y ny cy y V' hy
  clear h
  go_enter Try.func65, Try.ntmps65
  go_wp2_with fail
  refine (containsFunc_rows _ _ _ known _ HG.out _ _ enters_done1 _ HP.out q hq).mono ?_
  rintro e w5 ⟨rfl, hb5⟩
  go_wp2_with fail
  go_ret
  exact ⟨rfl, hb5⟩
end Go.Proofs.Ytabjbpkojbdgaaa
