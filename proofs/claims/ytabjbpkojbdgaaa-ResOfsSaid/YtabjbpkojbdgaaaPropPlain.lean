/- What the laws of unit propagation say, plainly. -/
import Derived.Test.YtabjbpkojbdgaaaUnitPlain
import Derived.Test.YtabjbpkojbdgaaaBoth
import Derived.Test.YtabjbpkojbdgaaaBoxes
namespace Go.Proofs.Ytabjbpkojbdgaaa
open Go.RowKit
theorem Lits.take {vars : Int} {l : List Int} (h : Lits vars l) (k : Nat) : Lits vars (l.take k) :=
  ⟨fun x hx => h.1 x (List.mem_of_mem_take hx), h.2.sublist (List.take_sublist _ _)⟩
theorem besideR_of {vars : Int} {xss : List (List Int)} {l : List Int} (h : checkC vars xss = (0, 0)) (hl : Lits vars l) : besideR vars xss l = (0, 0) := by
  unfold besideR listR
  rw [h, lits_iff.1 hl]
  simp
theorem ask_ok {vars : Int} {xss : List (List Int)} {l t y : List Int} {a : Int} (v0 : 0 ≤ vars) (hc : ∀ c ∈ xss, Lits vars c) (hl : Lits vars l) (ha : askF vars xss l = (t, y, a)) : RunOk vars xss l (l.map fun _ => -1) t y a := by
  have := runF_ok v0 hc (vars.toNat + 1) l (l.map fun _ => -1) hl (by omega)
  unfold askF at ha
  rw [ha] at this
  exact this
theorem ask_more {vars : Int} {xss : List (List Int)} {l t y m y2 : List Int} {a b : Int} {k : Nat} (v0 : 0 ≤ vars) (hc : ∀ c ∈ xss, Lits vars c) (hl : Lits vars l) (ha : askF vars xss l = (t, y, a)) (hm : askF vars xss (l.take k) = (m, y2, b)) (hn : a < 0) : b = -1 ∧ ∀ x ∈ m, x ∈ t := by
  have ok := ask_ok v0 hc hl ha
  obtain ⟨u, hu⟩ := ok.ext
  have := runF_more (fun c hc' => (hc c hc').cls.1) (ok.shut hn) (vars.toNat + 1) (l.take k) ((l.take k).map fun _ => -1) (fun x hx => by rw [hu]; exact List.mem_append_left _ (List.mem_of_mem_take hx))
  unfold askF at hm
  rw [hm] at this
  exact ⟨this.2, this.1⟩
theorem ask_sound {vars : Int} {xss : List (List Int)} {l t y : List Int} {a : Int} {av : List Bool} (hc : ∀ c ∈ xss, Lits vars c) (ha : askF vars xss l = (t, y, a)) (hA : allB xss av = true) (hl : ∀ x ∈ l, litB av x = true) : a = -1 ∧ ∀ x ∈ t, litB av x = true := by
  have := runF_sound (fun c hc' => (hc c hc').cls.1) hA (vars.toNat + 1) l (l.map fun _ => -1) hl
  unfold askF at ha
  rw [ha] at this
  exact ⟨this.2, this.1⟩
/-- A literal of a trail: nothing of its variable stands ahead of it. -/
theorem lits_at {vars : Int} {t : List Int} {i : Nat} {z : Int} (h : Lits vars t) (hz : t[i]? = some z) : hasB (t.take i) z = false ∧ hasB (t.take i) (-z) = false := by
  have key : ∀ x ∈ t.take i, x.natAbs ≠ z.natAbs := fun x hx => by
    have h2 := h.2
    rw [← List.take_append_drop i t, drop_cons_of hz] at h2
    exact (List.pairwise_append.1 h2).2.2 x hx z (by simp)
  exact ⟨hasB_false.2 fun hm => key z hm rfl, hasB_false.2 fun hm => key (-z) hm (by simp)⟩
theorem Ints.one {w : World} {b off n c : Nat} {xs : List Int} (h : Ints w (some ⟨b, off, none⟩) n c xs) {i : Nat} {z : Int} (hz : xs[i]? = some z) (hi : i < n) : Ints w (some ⟨b, off + i, none⟩) 1 (c - i) [z] := by
  have hbd := h.bd
  obtain ⟨b', off', e, hlt, hc⟩ := h.sl.at_ (by omega)
  cases e
  refine ⟨⟨rfl, by omega, by have := h.sl.cap; omega, fun _ => ⟨b, off + i, rfl, hlt, fun k hk => ?_⟩⟩, fun x hx => ?_⟩
  · obtain rfl : k = 0 := by omega
    have := hc i hi
    simpa [List.getElem?_map, hz] using this
  · simp at hx; subst hx; exact h.wf _ (List.mem_of_getElem? hz)
theorem sat_one (av : List Bool) (z : Int) : satB av [z] = litB av z := by simp [satB]
end Go.Proofs.Ytabjbpkojbdgaaa
