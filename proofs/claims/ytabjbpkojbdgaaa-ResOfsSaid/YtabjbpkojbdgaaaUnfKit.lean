/- What the reference's Unfolded holds (clauses K, numbers N, resolutions O, each of the call's own), and how it grows. -/
import Derived.Test.YtabjbpkojbdgaaaTransl
namespace Go.Proofs.Ytabjbpkojbdgaaa
open Go.RowKit
set_option linter.unusedSimpArgs false

structure UnG (w v : World) (K : Option Addr) (nk ck : Nat) (N : Option Addr) (nn cn : Nat) (O : Option Addr) (no co : Nat) (all : List (List Int)) (known : List Int) (out : List R3) : Prop where
  bl : Below w.heap.size w v
  ko : OwnF 25 3 v w.heap.size w.heap.size K nk ck all N
  no_ : Own 3 v w.heap.size N nn cn (known.map (Value.int .i64))
  oo : OwnR v w.heap.size O no co out
section
variable {w v v' : World} {K N O : Option Addr} {nk ck nn cn no co : Nat} {all : List (List Int)} {known : List Int} {out : List R3}
theorem UnG.keep (h : UnG w v K nk ck N nn cn O no co all known out) (hb : Below v.heap.size v v') : UnG w v' K nk ck N nn cn O no co all known out :=
  ⟨below_next h.bl hb, h.ko.keep hb, h.no_.keep hb, h.oo.keep hb⟩
theorem UnG.growK {K' A' : Option Addr} {ck' n' c' : Nat} {xs : List Int} {vs : List Value} (h : UnG w v K nk ck N nn cn O no co all known out) (h1 : Own 25 v w.heap.size K nk ck vs) (h2 : RowsP 3 v w.heap.size vs all) (h3 : Far vs N)
    (hi : Ints v A' n' c' xs) (ha : Away 3 v w.heap.size A' n') (hf : 0 < n' → blockOf A' = none ∨ blockOf A' ≠ blockOf N) (ho : Own 25 v' w.heap.size K' (nk + 1) ck' (vs ++ [Value.slice A' n' c'])) (hg : v.grownBy v' (blockOf K)) :
    UnG w v' K' (nk + 1) ck' N nn cn O no co (all ++ [xs]) known out :=
  ⟨below_grown h.bl h1 (Nat.le_refl _) hg, OwnF.push h1 h2 h3 (Nat.le_refl _) (by decide) hi ha hf ho hg, h.no_.kept hg (own_ne h.no_ h1 (by decide)), h.oo.keptT hg (fun g hg' => (own_rows h1 (Nat.le_refl _) g hg').2) (by decide)⟩
theorem UnG.growN {N' : Option Addr} {cn' : Nat} {x : Int} (h : UnG w v K nk ck N nn cn O no co all known out) (ho : Own 3 v' w.heap.size N' (nn + 1) cn' (known.map (Value.int .i64) ++ [Value.int .i64 x])) (hg : v.grownBy v' (blockOf N)) (hat : blockOf N' = blockOf N ∨ blockOf N' = some v.heap.size) :
    UnG w v' K nk ck N' (nn + 1) cn' O no co all (known ++ [x]) out :=
  ⟨below_grown h.bl h.no_ (Nat.le_refl _) hg, h.ko.grewN h.no_ (by decide) hg hat, by rw [List.map_append]; exact ho, h.oo.keptT hg (fun g hg' => (own_rows h.no_ (Nat.le_refl _) g hg').2) (by decide)⟩
theorem UnG.growO {O' : Option Addr} {co' : Nat} {r : R3} (h : UnG w v K nk ck N nn cn O no co all known out) (ho : OwnR v' w.heap.size O' (no + 1) co' (out ++ [r])) (hg : v.grownBy v' (blockOf O)) :
    UnG w v' K nk ck N nn cn O' (no + 1) co' all known (out ++ [r]) :=
  ⟨h.bl.grown hg h.bl.size (fun k hk => (h.oo.base hk).1), h.ko.kept hg (fun g hg' => h.oo.base hg') (by decide) (by decide), h.no_.keptT hg (fun g hg' => (h.oo.base hg').2) (by decide), ho⟩
/-- A box of another kind than the slices' is written. -/
theorem UnG.put {t : TypeId} {b : Nat} {cs : Array Value} (h : UnG w v K nk ck N nn cn O no co all known out) (hb : Blk v b t cs) (hw : w.heap.size ≤ b) (n1 : (25 : TypeId) ≠ t) (n2 : (3 : TypeId) ≠ t) (hO : ∀ q, blockOf O = some q → q ≠ b) (j : Nat) (u : Value) :
    UnG w (v.setCell ⟨b, j, none⟩ u) K nk ck N nn cn O no co all known out := by
  have hg := grown_setCell v ⟨b, j, none⟩ u
  refine ⟨h.bl.setCell (p := ⟨b, j, none⟩) hw u, h.ko.kept hg (fun q hq => by cases hq; exact ⟨hw, Typed.of_blk hb⟩) n1 n2, h.no_.keptT hg (fun q hq => by cases hq; exact Typed.of_blk hb) n2, h.oo.kept hg ?_⟩
  cases ho : blockOf O with
  | none => exact .inl rfl
  | some q => exact .inr fun e => by injection e with e; exact hO q ho e
theorem UnG.nil (w : World) : UnG w w none 0 0 none 0 0 none 0 0 [] [] [] := ⟨Below.refl _ _, OwnF.nil _ _ _ _ _ _, Own.nil _ _ _, OwnR.nil _ _⟩
end
theorem blk_kept {v v' : World} {g : Nat} {t e : TypeId} {cs : Array Value} {row : Option Nat} (h : Blk v g t cs) (hg : v.grownBy v' row) (hr : ∀ q, row = some q → Typed e v q) (n1 : t ≠ e) : Blk v' g t cs := by
  refine h.grown hg fun e1 => ?_
  obtain ⟨cs', fz, hcs⟩ := hr g e1.symm
  unfold Blk at h
  rw [h] at hcs
  injection hcs with hcs
  injection hcs with _ ht
  exact n1 ht
theorem two_kept {v v' : World} {e : TypeId} {L Y : Option Addr} {nl cl ny cy : Nat} {t y : List Int} {row : Option Nat}
    (h : Ints v L nl cl t ∧ Ints v Y ny cy y ∧ Apart 3 v 0 L ∧ Apart 3 v 0 Y) (hg : v.grownBy v' row) (hr : ∀ q, row = some q → Typed e v q) (hne : (3 : TypeId) ≠ e) :
    Ints v' L nl cl t ∧ Ints v' Y ny cy y ∧ Apart 3 v' 0 L ∧ Apart 3 v' 0 Y := by
  have key : ∀ A, Apart 3 v 0 A → blockOf A = none ∨ blockOf A ≠ row := fun A hA => by
    cases row with
    | none => cases A with
      | none => exact .inl rfl
      | some a => exact .inr (by simp [blockOf])
    | some q => exact hA.ne (Nat.zero_le _) (hr q rfl) hne
  obtain ⟨h1, h2, h3, h4⟩ := h
  exact ⟨h1.kept hg (key _ h3), h2.kept hg (key _ h4), h3.kept hg (key _ h3), h4.kept hg (key _ h4)⟩
end Go.Proofs.Ytabjbpkojbdgaaa
