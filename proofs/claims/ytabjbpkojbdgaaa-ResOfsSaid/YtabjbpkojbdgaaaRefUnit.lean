/- Contracts of the reference's falseIn, must, On, Asked, Negatives, Falls. (Printed by wip/tools/refu.py.) -/
import Derived.Test.YtabjbpkojbdgaaaUnitPlain
import Derived.Test.YtabjbpkojbdgaaaRefA
import Derived.Test.YtabjbpkojbdgaaaClone
import Derived.Test.YtabjbpkojbdgaaaGrid
import Derived.Test.YtabjbpkojbdgaaaTail
import Derived.Test.YtabjbpkojbdgaaaBoxes
namespace Go.Proofs.Ytabjbpkojbdgaaa
open Go.RowKit
set_option linter.unusedSimpArgs false

set_option maxHeartbeats 1000000 in
theorem falseIn_any (A B : Option Addr) (n c m d : Nat) (xs t : List Int) (but : Int) (w : World) (h : Ints w A n c xs) (h' : Ints w B m d t) (hs : ∀ x ∈ xs, -1000000 ≤ x ∧ x ≤ 1000000) (r : Bool) (hr : Hid (falB t but xs = r)) :
    Calls Try.prog 77 #[.slice A n c, .slice B m d, .int .i64 but] w (RetQ (.bool r) w) := by
  have hbd := h.bd
  have hlen := Lib.hid h.len
  have HS := Lib.hid hs
  clear hs
  go_enter Try.func77, Try.ntmps77
  go_wp2_with fail
  go_loopw [7] (fun i wr => ∃ k : Nat, k ≤ n ∧ i = .int .i64 k ∧ Hid (falB t but (xs.drop k) = r) ∧ Hid (∃ m, wr = w.drewN m)) (fun i _ => n - (intOf i).toNat)
  case atStart => exact ⟨0, Nat.zero_le _, rfl, hr.out, ⟨0, rfl⟩⟩
  case round =>
    obtain ⟨k, hk, rfl, hn, hB⟩ := hrel
    have hx : Ints wr A n c xs := by obtain ⟨m, rfl⟩ := hB.out; exact h.drewN m
    have hx' : Ints wr B m d t := by obtain ⟨m, rfl⟩ := hB.out; exact h'.drewN m
    by_cases hlt : k < n
    · obtain ⟨b, off, z, rfl, hb, hcell, z1, z2, hz⟩ := hx.round hlt
      have hzb := HS.out z (List.mem_of_getElem? hz.out)
      by_cases hzt : z = but
      · have hn2 : Hid (falB t but (xs.drop (k + 1)) = r) := by have := hn.out; rw [drop_cons_of hz.out, falB] at this; simpa [hzt, Hid] using this
        have d1 : (z != but) = false := by simpa using hzt
        go_wp2_with fail
        go_roundw
        case rel => exact ⟨k + 1, by omega, by go_num, hn2, hB⟩
        case measure => simp [intOf] <;> omega
      · have d1 : (z != but) = true := by simpa using hzt
        obtain ⟨q, hq⟩ : ∃ q, Hid (hasB t (-z) = q) := ⟨_, rfl⟩
        have hn2 : Hid ((if !q then false else falB t but (xs.drop (k + 1))) = r) := by have := hn.out; rw [drop_cons_of hz.out, falB, hq.out, d1] at this; simpa [Hid] using this
        go_wp2_with fail
        refine (has_any _ _ _ t (-z) wr hx' q hq).mono ?_
        rintro e w1 ⟨rfl, m1, rfl⟩
        cases q
        · have : false = r := by have := hn2.out; simpa using this
          subst this
          go_wp2_with fail
          go_ret
          obtain ⟨m2, rfl⟩ := hB.out
          rw [World.drewN_drewN]
          exact RetQ.of _ rfl
        · go_wp2_with fail
          go_roundw
          case rel => exact ⟨k + 1, by omega, by go_num, by have := hn2.out; simpa [Hid] using this, by obtain ⟨m, rfl⟩ := hB.out; exact ⟨_, World.drewN_drewN _ _ _⟩⟩
          case measure => simp [intOf] <;> omega
    · have : true = r := by rw [← hn.out, List.drop_of_length_le (by have := hlen.out; omega)]; rfl
      subst this
      go_wp2_with fail
      go_ret
      obtain ⟨m2, rfl⟩ := hB.out
      exact RetQ.of _ rfl

set_option maxHeartbeats 1000000 in
theorem must_any (A B : Option Addr) (n c m d : Nat) (xs t : List Int) (w : World) (h : Ints w A n c xs) (h' : Ints w B m d t) (hs : ∀ x ∈ xs, -1000000 ≤ x ∧ x ≤ 1000000) (r : Int) (hr : Hid (mustF t xs xs = r)) :
    Calls Try.prog 78 #[.slice A n c, .slice B m d] w (RetQ (.int .i64 r) w) := by
  have hbd := h.bd
  have hlen := Lib.hid h.len
  have HS := Lib.hid hs
  clear hs
  go_enter Try.func78, Try.ntmps78
  go_wp2_with fail
  go_loopw [5] (fun i wr => ∃ k : Nat, k ≤ n ∧ i = .int .i64 k ∧ Hid (mustF t xs (xs.drop k) = r) ∧ Hid (∃ m, wr = w.drewN m)) (fun i _ => n - (intOf i).toNat)
  case atStart => exact ⟨0, Nat.zero_le _, rfl, hr.out, ⟨0, rfl⟩⟩
  case round =>
    obtain ⟨k, hk, rfl, hn, hB⟩ := hrel
    have hx : Ints wr A n c xs := by obtain ⟨m, rfl⟩ := hB.out; exact h.drewN m
    have hx' : Ints wr B m d t := by obtain ⟨m, rfl⟩ := hB.out; exact h'.drewN m
    by_cases hlt : k < n
    · obtain ⟨b, off, z, rfl, hb, hcell, z1, z2, hz⟩ := hx.round hlt
      have hzb := HS.out z (List.mem_of_getElem? hz.out)
      obtain ⟨q1, hq1⟩ : ∃ q, Hid (hasB t z = q) := ⟨_, rfl⟩
      obtain ⟨q2, hq2⟩ : ∃ q, Hid (hasB t (-z) = q) := ⟨_, rfl⟩
      obtain ⟨q3, hq3⟩ : ∃ q, Hid (falB t z xs = q) := ⟨_, rfl⟩
      have hn2 : Hid ((if !q1 && !q2 then (if q3 then z else 0) else mustF t xs (xs.drop (k + 1))) = r) := by have := hn.out; rw [drop_cons_of hz.out, mustF, hq1.out, hq2.out, hq3.out] at this; exact this
      clear hn
      go_wp2_with fail
      refine (has_any _ _ _ t z wr hx' q1 hq1).mono ?_
      rintro e w1 ⟨rfl, m1, rfl⟩
      cases q1
      · go_wp2_with fail
        refine (has_any _ _ _ t (-z) _ (hx'.drewN m1) q2 hq2).mono ?_
        rintro e w2 ⟨rfl, m2, rfl⟩
        cases q2
        · go_wp2_with fail
          refine (falseIn_any _ _ _ _ _ _ xs t z _ (hx.drewN (m1 + m2)) (hx'.drewN (m1 + m2)) HS.out q3 hq3).mono ?_
          rintro e w3 ⟨rfl, m3, rfl⟩
          cases q3
          · have : 0 = r := by have := hn2.out; simpa using this
            subst this
            go_wp2_with fail
            go_ret
            obtain ⟨m0, rfl⟩ := hB.out
            simp only [World.drewN_drewN]
            exact RetQ.of _ rfl
          · have : z = r := by have := hn2.out; simpa using this
            subst this
            go_wp2_with fail
            go_ret
            obtain ⟨m0, rfl⟩ := hB.out
            simp only [World.drewN_drewN]
            exact RetQ.of _ rfl
        · go_wp2_with fail
          go_roundw
          case rel => exact ⟨k + 1, by omega, by go_num, by have := hn2.out; simpa [Hid] using this, by obtain ⟨m, rfl⟩ := hB.out; exact ⟨m + (m1 + m2), by simp only [World.drewN_drewN]⟩⟩
          case measure => simp [intOf] <;> omega
      · go_wp2_with fail
        go_roundw
        case rel => exact ⟨k + 1, by omega, by go_num, by have := hn2.out; simpa [Hid] using this, by obtain ⟨m, rfl⟩ := hB.out; exact ⟨_, World.drewN_drewN _ _ _⟩⟩
        case measure => simp [intOf] <;> omega
    · have : 0 = r := by rw [← hn.out, List.drop_of_length_le (by have := hlen.out; omega)]; rfl
      subst this
      go_wp2_with fail
      go_ret
      obtain ⟨m2, rfl⟩ := hB.out
      exact RetQ.of _ rfl

theorem own_ge {e : TypeId} {w : World} {base n c s : Nat} {A : Option Addr} {xs : List Value} (h : Own e w base A n c xs) (hb : s ≤ base) : ∀ k, blockOf A = some k → s ≤ k := fun k hk => by
  rcases h.form with ⟨rfl, _⟩ | ⟨g, cur, rfl, hg, _⟩
  · cases hk
  · cases hk; exact Nat.le_trans hb hg
/-- The state of On: its box at w's end, the result's box behind it; the rows lie below 'base' or are rows of ints. -/
structure OnSt (base : Nat) (L0 Y0 : Option Addr) (w wr : World) (L : Option Addr) (nl cl : Nat) (Y : Option Addr) (ny cy : Nat) (av : Int) (t y : List Int) : Prop where
  hb : base ≤ w.heap.size
  bl : Below w.heap.size w wr
  tb : Blk wr w.heap.size 35 #[.slice L nl cl, .slice Y ny cy, .int .i64 av]
  rb : Blk wr (w.heap.size + 1) 35 #[.slice none 0 0, .slice none 0 0, .int .i64 0]
  li : Ints wr L nl cl t
  yi : Ints wr Y ny cy y
  pL : Apart 3 wr base L
  pY : Apart 3 wr base Y
  fL : blockOf L = blockOf L0 ∨ ∀ k, blockOf L = some k → w.heap.size ≤ k
  fY : blockOf Y = blockOf Y0 ∨ ∀ k, blockOf Y = some k → w.heap.size ≤ k
section
variable {base : Nat} {L0 Y0 : Option Addr} {w wr w1 : World} {L L2 : Option Addr} {nl cl n2 c2 : Nat} {Y : Option Addr} {ny cy : Nat} {av : Int} {t y s : List Int}
theorem OnSt.keep (h : OnSt base L0 Y0 w wr L nl cl Y ny cy av t y) (hb : Below wr.heap.size wr w1) : OnSt base L0 Y0 w w1 L nl cl Y ny cy av t y :=
  ⟨h.hb, below_next h.bl hb, h.tb.keep hb, h.rb.keep hb, h.li.keep hb, h.yi.keep hb, h.pL.keep hb, h.pY.keep hb, h.fL, h.fY⟩
theorem OnSt.set_ (h : OnSt base L0 Y0 w wr L nl cl Y ny cy av t y) (i : Nat) (u : Value) {A B : Option Addr} {na ca nb cb : Nat} {ta tb : List Int} {a : Int} (hs : (#[Value.slice L nl cl, .slice Y ny cy, .int .i64 av] : Array Value).setIfInBounds i u = #[.slice A na ca, .slice B nb cb, .int .i64 a])
    (hA : Ints wr A na ca ta) (hB : Ints wr B nb cb tb) (pA : Apart 3 wr base A) (pB : Apart 3 wr base B) (fA : blockOf A = blockOf L0 ∨ ∀ k, blockOf A = some k → w.heap.size ≤ k) (fB : blockOf B = blockOf Y0 ∨ ∀ k, blockOf B = some k → w.heap.size ≤ k) : OnSt base L0 Y0 w (wr.setCell ⟨w.heap.size, i, none⟩ u) A na ca B nb cb a ta tb := by
  have hg := grown_setCell wr ⟨w.heap.size, i, none⟩ u
  have nA := pA.ne h.hb (Typed.of_blk h.tb) (by decide)
  have nB := pB.ne h.hb (Typed.of_blk h.tb) (by decide)
  refine ⟨h.hb, h.bl.setCell (p := ⟨w.heap.size, i, none⟩) (Nat.le_refl _) _, ?_, h.rb.far (p := ⟨w.heap.size, i, none⟩) (by simp) _, hA.kept hg nA, hB.kept hg nB, pA.kept hg nA, pB.kept hg nB, fA, fB⟩
  rw [← hs]
  exact h.tb.set_ i u
theorem OnSt.setAt (h : OnSt base L0 Y0 w wr L nl cl Y ny cy av t y) (a : Int) : OnSt base L0 Y0 w (wr.setCell ⟨w.heap.size, 2, none⟩ (.int .i64 a)) L nl cl Y ny cy a t y :=
  h.set_ 2 _ (by simp) h.li h.yi h.pL h.pY h.fL h.fY
theorem OnSt.setL (h : OnSt base L0 Y0 w wr L nl cl Y ny cy av t y) (hi : Ints wr L2 n2 c2 s) (ha : Apart 3 wr base L2) (fA : blockOf L2 = blockOf L0 ∨ ∀ k, blockOf L2 = some k → w.heap.size ≤ k) : OnSt base L0 Y0 w (wr.setCell ⟨w.heap.size, 0, none⟩ (.slice L2 n2 c2)) L2 n2 c2 Y ny cy av s y :=
  h.set_ 0 _ (by simp) hi h.yi ha h.pY fA h.fY
theorem OnSt.setY (h : OnSt base L0 Y0 w wr L nl cl Y ny cy av t y) (hi : Ints wr L2 n2 c2 s) (ha : Apart 3 wr base L2) (fA : blockOf L2 = blockOf Y0 ∨ ∀ k, blockOf L2 = some k → w.heap.size ≤ k) : OnSt base L0 Y0 w (wr.setCell ⟨w.heap.size, 1, none⟩ (.slice L2 n2 c2)) L nl cl L2 n2 c2 av t s :=
  h.set_ 1 _ (by simp) h.li hi h.pL ha h.fL fA
theorem OnSt.lt (h : OnSt base L0 Y0 w wr L nl cl Y ny cy av t y) : w.heap.size + 2 ≤ wr.heap.size := h.rb.lt
theorem Blk.put3 {w : World} {g : Nat} {t : TypeId} {x y z : Value} (h : Blk w g t #[x, y, z]) (a b c : Value) :
    (((w.setCell ⟨g, 0, none⟩ a).setCell ⟨g, 1, none⟩ b).setCell ⟨g, 2, none⟩ c).cell? ⟨g, 0, none⟩ = some a ∧ (((w.setCell ⟨g, 0, none⟩ a).setCell ⟨g, 1, none⟩ b).setCell ⟨g, 2, none⟩ c).cell? ⟨g, 1, none⟩ = some b ∧ (((w.setCell ⟨g, 0, none⟩ a).setCell ⟨g, 1, none⟩ b).setCell ⟨g, 2, none⟩ c).cell? ⟨g, 2, none⟩ = some c := by
  have hs := ((h.set_ 0 a).set_ 1 b).set_ 2 c
  exact ⟨by rw [hs.cell 0]; simp, by rw [hs.cell 1]; simp, by rw [hs.cell 2]; simp⟩
theorem below_put3 {B g : Nat} {w wr : World} (h : Below B w wr) (hg : B ≤ g) (a b c : Value) : Below B w (((wr.setCell ⟨g, 0, none⟩ a).setCell ⟨g, 1, none⟩ b).setCell ⟨g, 2, none⟩ c) :=
  ((h.setCell (p := ⟨g, 0, none⟩) hg a).setCell (p := ⟨g, 1, none⟩) hg b).setCell (p := ⟨g, 2, none⟩) hg c
end
theorem firF_step {t xs : List Int} {xss : List (List Int)} {j : Nat} (h : xss[j]? = some xs) : firF t (xss.drop j) j = if falB t 0 xs then (j : Int) else firF t (xss.drop (j + 1)) (j + 1) := by
  rw [drop_cons_of h, firF, idxF]; rfl
theorem uniF_step {t xs : List Int} {xss : List (List Int)} {j : Nat} (h : xss[j]? = some xs) : uniF t (xss.drop j) j = if mustF t xs xs != 0 then (j : Int) else uniF t (xss.drop (j + 1)) (j + 1) := by
  rw [drop_cons_of h, uniF, idxF]; rfl

/-- A trail, as the reference has it; its rows lie below 'base' or are rows of ints. -/
def RetRT (base : Nat) (L0 Y0 : Option Addr) (w : World) (t y : List Int) (a : Int) (e : Ending) (w' : World) : Prop :=
  ∃ L nl cl Y ny cy, e = .returned (.agg #[.slice L nl cl, .slice Y ny cy, .int .i64 a]) ∧ Ints w' L nl cl t ∧ Ints w' Y ny cy y ∧ Apart 3 w' base L ∧ Apart 3 w' base Y ∧ (blockOf L = blockOf L0 ∨ ∀ k, blockOf L = some k → w.heap.size ≤ k) ∧ (blockOf Y = blockOf Y0 ∨ ∀ k, blockOf Y = some k → w.heap.size ≤ k) ∧ Below w.heap.size w w'
theorem ret_rt {base : Nat} {L0 Y0 : Option Addr} {w wr : World} {g : Nat} {L : Option Addr} {nl cl : Nat} {Y : Option Addr} {ny cy : Nat} {av : Int} {t y : List Int} {cs : Array Value} (hbl : Below w.heap.size w wr) (hb : Blk wr g 35 cs) (hg : base ≤ g) (hw : w.heap.size ≤ g) (hL : Ints wr L nl cl t) (hY : Ints wr Y ny cy y) (pL : Apart 3 wr base L) (pY : Apart 3 wr base Y) (fL : blockOf L = blockOf L0 ∨ ∀ k, blockOf L = some k → w.heap.size ≤ k) (fY : blockOf Y = blockOf Y0 ∨ ∀ k, blockOf Y = some k → w.heap.size ≤ k) :
    RetRT base L0 Y0 w t y av (.returned (.agg #[.slice L nl cl, .slice Y ny cy, .int .i64 av])) (((wr.setCell ⟨g, 0, none⟩ (.slice L nl cl)).setCell ⟨g, 1, none⟩ (.slice Y ny cy)).setCell ⟨g, 2, none⟩ (.int .i64 av)) := by
  have nL := pL.ne hg (Typed.of_blk hb) (by decide)
  have nY := pY.ne hg (Typed.of_blk hb) (by decide)
  have g0 := grown_setCell wr ⟨g, 0, none⟩ (.slice L nl cl)
  have g1 := grown_setCell (wr.setCell ⟨g, 0, none⟩ (.slice L nl cl)) ⟨g, 1, none⟩ (.slice Y ny cy)
  have g2 := grown_setCell ((wr.setCell ⟨g, 0, none⟩ (.slice L nl cl)).setCell ⟨g, 1, none⟩ (.slice Y ny cy)) ⟨g, 2, none⟩ (.int .i64 av)
  exact ⟨L, nl, cl, Y, ny, cy, rfl, ((hL.kept g0 nL).kept g1 nL).kept g2 nL, ((hY.kept g0 nY).kept g1 nY).kept g2 nY, ((pL.kept g0 nL).kept g1 nL).kept g2 nL, ((pY.kept g0 nY).kept g1 nY).kept g2 nY, fL, fY, below_put3 hbl hw _ _ _⟩
theorem OnSt.ret {base : Nat} {L0 Y0 : Option Addr} {w wr : World} {L : Option Addr} {nl cl : Nat} {Y : Option Addr} {ny cy : Nat} {av : Int} {t y : List Int} (h : OnSt base L0 Y0 w wr L nl cl Y ny cy av t y) :
    RetRT base L0 Y0 w t y av (.returned (.agg #[.slice L nl cl, .slice Y ny cy, .int .i64 av])) (((wr.setCell ⟨w.heap.size + 1, 0, none⟩ (.slice L nl cl)).setCell ⟨w.heap.size + 1, 1, none⟩ (.slice Y ny cy)).setCell ⟨w.heap.size + 1, 2, none⟩ (.int .i64 av)) :=
  ret_rt h.bl h.rb (by have := h.hb; omega) (by omega) h.li h.yi h.pL h.pY h.fL h.fY

set_option maxHeartbeats 4000000 in
set_option maxRecDepth 100000 in
theorem on_ref (base : Nat) (A L Y : Option Addr) (n c nl cl ny cy : Nat) (xss : List (List Int)) (t y : List Int) (av : Int) (w : World) (hg : Grid w A n c xss) (hL : Ints w L nl cl t) (hY : Ints w Y ny cy y) (hb0 : base ≤ w.heap.size) (pL : Apart 3 w base L) (pY : Apart 3 w base Y) (vars : Int) (v0 : 0 ≤ vars) (v1 : vars ≤ 1000000) (hc : ∀ x ∈ xss, Lits vars x) (ht : Lits vars t) (hy : y.length = t.length) (k : Nat) (hk : vars < k + t.length)
    (t' y' : List Int) (a : Int) (hr : Hid (runF xss k t y = (t', y', a))) :
    Calls Try.prog 49 #[.slice A n c, .agg #[.slice L nl cl, .slice Y ny cy, .int .i64 av]] w (RetRT base L Y w t' y' a) := by
  obtain ⟨L0, hL0⟩ : ∃ L0, L0 = L := ⟨_, rfl⟩
  obtain ⟨Y0, hY0⟩ : ∃ Y0, Y0 = Y := ⟨_, rfl⟩
  have HL0 : Hid (blockOf L = blockOf L0) := by rw [hL0]; rfl
  have HY0 : Hid (blockOf Y = blockOf Y0) := by rw [hY0]; rfl
  conv => rhs; rw [← hL0, ← hY0]
  clear hL0 hY0
  have hbd := hg.bd
  have hlen := Lib.hid hg.len
  obtain ⟨i0, hi0, hz0, hz1, hz2⟩ := info_parts int_info
  have HC := Lib.hid hc
  have HT := Lib.hid ht
  have HY := Lib.hid hy
  have HK := Lib.hid hk
  have H0 : Hid (OnSt base L0 Y0 w ((w.alloc (.cells #[.slice L nl cl, .slice Y ny cy, .int .i64 av] 35)).alloc (.cells #[.slice none 0 0, .slice none 0 0, .int .i64 0] 35)) L nl cl Y ny cy av t y) := by
    refine ⟨hb0, below_alloc (below_new _ _) _, (Blk.new w _ _).alloc _, ?_, hL.keep (below_alloc (below_new _ _) _), hY.keep (below_alloc (below_new _ _) _), pL.keep (below_alloc (below_new _ _) _), pY.keep (below_alloc (below_new _ _) _), .inl HL0.out, .inl HY0.out⟩
    have := Blk.new (w.alloc (.cells #[.slice L nl cl, .slice Y ny cy, .int .i64 av] 35)) 35 #[.slice none 0 0, .slice none 0 0, .int .i64 0]
    simpa using this
  clear hc ht hy hk hL hY pL pY hb0
  go_enter Try.func49, Try.ntmps49
  go_wp2_with fail
  go_loopg [5] k (fun f _ wr => ∃ (L : Option Addr) (nl cl : Nat) (Y : Option Addr) (ny cy : Nat) (av : Int) (t y : List Int), Hid (OnSt base L0 Y0 w wr L nl cl Y ny cy av t y) ∧ Hid (Lits vars t) ∧ Hid (y.length = t.length) ∧ Hid (vars < f + t.length) ∧ Hid (runF xss f t y = (t', y', a)))
  case atStart => exact ⟨L, nl, cl, Y, ny, cy, av, t, y, H0, HT, HY, HK, hr⟩
  case round =>
    clear H0 HT HY HK hr
    obtain ⟨L, nl, cl, Y, ny, cy, av, t, y, hst, ht, hy, hk, hr⟩ := hrel
    have htl := ht.out.len_le v0
    cases gk with
    | zero => exfalso; have := hk.out; omega
    | succ f =>
    obtain ⟨wo, hwo⟩ : ∃ wo : World, wo = wr := ⟨_, rfl⟩
    subst hwo
    have c2 := hst.out.tb.cell 2
    have f2 := hst.out.tb.frozen 2
    simp at c2
    have lt2 := hst.out.lt
    have ltg : w.heap.size < wo.heap.size := by omega
    have HST1 := Lib.hid (hst.out.setAt (-1))
    clear hst
    go_wp2_with fail
    go_loopw [5] (fun i wr => ∃ (j : Nat) (iv av : Int), j ≤ n ∧ i = .int .i64 iv ∧ iv ≤ (j : Int) - 1 ∧ (j : Int) - 1 ≤ iv ∧ Hid (OnSt base L0 Y0 w wr L nl cl Y ny cy av t y) ∧ Hid (firF t (xss.drop j) j = av)) (fun i _ => (intOf i + 1).toNat)
    case atStart => exact ⟨n, _, -1, Nat.le_refl _, rfl, by omega, by omega, HST1, by rw [List.drop_of_length_le (by rw [hlen.out]; omega)]; rfl⟩
    case round =>
      clear HST1 c2 f2
      obtain ⟨j, iv, av, hj, rfl, i1, i2, hst, hav⟩ := hrel
      have hgr := hg.keep hst.out.bl
      have c0 := hst.out.tb.cell 0
      have c2 := hst.out.tb.cell 2
      have f2 := hst.out.tb.frozen 2
      simp at c0 c2
      by_cases hiv : 0 ≤ iv
      · obtain ⟨k, rfl⟩ : ∃ k : Nat, iv = k := ⟨iv.toNat, by omega⟩
        obtain rfl : j = k + 1 := by omega
        obtain ⟨b0, off, A', n', c', xs, rfl, hb, hcell, hi, hxs⟩ := hgr.round (k := k) (by omega)
        have hli := HC.out xs (List.mem_of_getElem? hxs.out)
        have HBND : Hid (∀ x ∈ xs, -1000000 ≤ x ∧ x ≤ 1000000) := fun x hx => by have := hli.1 x hx; omega
        have HLI := Lib.hid hst.out.li
        have HI := Lib.hid hi
        obtain ⟨q, hq⟩ : ∃ q, Hid (falB t 0 xs = q) := ⟨_, rfl⟩
        have hav2 : Hid (firF t (xss.drop k) k = if q then (k : Int) else av) := by rw [firF_step hxs.out, hq.out, hav.out]; rfl
        have z1 : (0 : Int) ≤ (k : Int) := by omega
        have z2 : (k : Int) < (n : Int) := by omega
        clear hli hi hav
        cases q
        · go_wp2_with fail
          go_quiet ((go_at_call 77; exact RetQ.quiet (falseIn_any _ _ _ _ _ _ xs t 0 _ (HI.out.drewN _) (HLI.out.drewN _) HBND.out false hq)))
          go_wp2_with fail
          go_roundw
          case rel => exact ⟨k, _, av, by omega, rfl, by omega, by omega, hst.out.keep (below_drewN _ _), hav2⟩
          case measure => simp [intOf] <;> omega
        · go_wp2_with fail
          go_quiet ((go_at_call 77; exact RetQ.quiet (falseIn_any _ _ _ _ _ _ xs t 0 _ (HI.out.drewN _) (HLI.out.drewN _) HBND.out true hq)))
          go_wp2_with fail
          go_roundw
          case rel => exact ⟨k, _, k, by omega, rfl, by omega, by omega, (hst.out.setAt k).keep (below_drewN _ _), hav2⟩
          case measure => simp [intOf] <;> omega
      · obtain rfl : j = 0 := by omega
        obtain rfl : iv = -1 := by omega
        have hav2 : Hid (firF t xss 0 = av) := hav
        clear hav
        by_cases hap : 0 ≤ av
        · have hfin : (t, y, av) = (t', y', a) := by have := hr.out; rw [runF, hav2.out, if_pos hap] at this; exact this
          obtain ⟨rfl, rfl, rfl⟩ : t = t' ∧ y = y' ∧ av = a := by simpa using hfin
          clear hfin
          have cc0 := hst.out.tb.cell 0
          have cc1 := hst.out.tb.cell 1
          have cc2 := hst.out.tb.cell 2
          have rr0 := hst.out.rb.cell 0
          have rr1 := hst.out.rb.cell 1
          have rr2 := hst.out.rb.cell 2
          have rf0 := hst.out.rb.frozen 0
          have rf1 := hst.out.rb.frozen 1
          have rf2 := hst.out.rb.frozen 2
          simp at cc0 cc1 cc2 rr0 rr1 rr2
          obtain ⟨q0, q1, q2⟩ := hst.out.rb.put3 (.slice L nl cl) (.slice Y ny cy) (.int .i64 av)
          have Q0 := Lib.hid q0
          have Q1 := Lib.hid q1
          have Q2 := Lib.hid q2
          have HRT := Lib.hid hst.out.ret
          clear q0 q1 q2
          go_wp2_with fail
          exact bodyPost_ret (v := .agg #[.slice L nl cl, .slice Y ny cy, .int .i64 av]) (by simp [results, Try.results49, go_sem, Q0.out, Q1.out, Q2.out]) rfl HRT.out
        · have hr2 : Hid ((if uniF t xss 0 < 0 then (t, y, -1) else runF xss f (t ++ [mustF t (xss.getD (uniF t xss 0).toNat []) (xss.getD (uniF t xss 0).toNat [])]) (y ++ [uniF t xss 0])) = (t', y', a)) := by have := hr.out; rw [runF, hav2.out, if_neg hap] at this; exact this
          obtain rfl : av = -1 := by
            rcases idxF_lt (fun c => falB t 0 c) xss 0 with h2 | ⟨h2, _⟩
            · have := hav2.out; unfold firF at this; omega
            · have := hav2.out; unfold firF at this; omega
          obtain ⟨wm, hwm⟩ : ∃ wm : World, wm = wr := ⟨_, rfl⟩
          subst hwm
          clear hr hav2 hap hiv i1 i2
          go_wp2_with fail
          go_loopw [6, 7] (fun u i wr => ∃ (j : Nat) (iv uv : Int), j ≤ n ∧ u = .int .i64 uv ∧ i = .int .i64 iv ∧ iv ≤ (j : Int) - 1 ∧ (j : Int) - 1 ≤ iv ∧ Hid (OnSt base L0 Y0 w wr L nl cl Y ny cy (-1) t y) ∧ Hid (uniF t (xss.drop j) j = uv)) (fun _ i _ => (intOf i + 1).toNat)
          case atStart => exact ⟨n, _, -1, Nat.le_refl _, rfl, rfl, by omega, by omega, hst, by rw [List.drop_of_length_le (by rw [hlen.out]; omega)]; rfl⟩
          case round =>
            clear hst c0 c2 f2 hgr hj
            obtain ⟨j, iv, uv, hj, rfl, rfl, i1, i2, hst, huv⟩ := hrel
            have hgr := hg.keep hst.out.bl
            have c0 := hst.out.tb.cell 0
            simp at c0
            by_cases hiv : 0 ≤ iv
            · obtain ⟨k, rfl⟩ : ∃ k : Nat, iv = k := ⟨iv.toNat, by omega⟩
              obtain rfl : j = k + 1 := by omega
              obtain ⟨b0, off, A', n', c', xs, rfl, hb, hcell, hi, hxs⟩ := hgr.round (k := k) (by omega)
              have hli := HC.out xs (List.mem_of_getElem? hxs.out)
              have HBND : Hid (∀ x ∈ xs, -1000000 ≤ x ∧ x ≤ 1000000) := fun x hx => by have := hli.1 x hx; omega
              have HLI := Lib.hid hst.out.li
              have HI := Lib.hid hi
              obtain ⟨q, hq⟩ : ∃ q, Hid (mustF t xs xs = q) := ⟨_, rfl⟩
              have huv2 : Hid (uniF t (xss.drop k) k = if q != 0 then (k : Int) else uv) := by rw [uniF_step hxs.out, hq.out, huv.out]; rfl
              have z1 : (0 : Int) ≤ (k : Int) := by omega
              have z2 : (k : Int) < (n : Int) := by omega
              clear hli hi huv
              by_cases hq0 : q = 0
              · subst hq0
                go_wp2_with fail
                go_quiet ((go_at_call 78; exact RetQ.quiet (must_any _ _ _ _ _ _ xs t _ (HI.out.drewN _) (HLI.out.drewN _) HBND.out 0 hq)))
                go_wp2_with fail
                go_roundw
                case rel => exact ⟨k, _, uv, by omega, rfl, rfl, by omega, by omega, hst.out.keep (below_drewN _ _), by have := huv2.out; simpa [Hid] using this⟩
                case measure => simp [intOf] <;> omega
              · have d1 : (q != 0) = true := by simpa using hq0
                go_wp2_with fail
                go_quiet ((go_at_call 78; exact RetQ.quiet (must_any _ _ _ _ _ _ xs t _ (HI.out.drewN _) (HLI.out.drewN _) HBND.out q hq)))
                go_wp2_with fail
                go_roundw
                case rel => exact ⟨k, _, k, by omega, rfl, rfl, by omega, by omega, hst.out.keep (below_drewN _ _), by have := huv2.out; rw [d1] at this; simpa [Hid] using this⟩
                case measure => simp [intOf] <;> omega
            · obtain rfl : j = 0 := by omega
              obtain rfl : iv = -1 := by omega
              have huv2 : Hid (uniF t xss 0 = uv) := huv
              clear huv
              by_cases hup : uv < 0
              · have hfin : (t, y, (-1 : Int)) = (t', y', a) := by have := hr2.out; rw [huv2.out, if_pos hup] at this; exact this
                obtain ⟨rfl, rfl, rfl⟩ : t = t' ∧ y = y' ∧ (-1 : Int) = a := by simpa using hfin
                clear hfin
                have cc0 := hst.out.tb.cell 0
                have cc1 := hst.out.tb.cell 1
                have cc2 := hst.out.tb.cell 2
                have rr0 := hst.out.rb.cell 0
                have rr1 := hst.out.rb.cell 1
                have rr2 := hst.out.rb.cell 2
                have rf0 := hst.out.rb.frozen 0
                have rf1 := hst.out.rb.frozen 1
                have rf2 := hst.out.rb.frozen 2
                simp at cc0 cc1 cc2 rr0 rr1 rr2
                obtain ⟨q0, q1, q2⟩ := hst.out.rb.put3 (.slice L nl cl) (.slice Y ny cy) (.int .i64 (-1))
                have Q0 := Lib.hid q0
                have Q1 := Lib.hid q1
                have Q2 := Lib.hid q2
                have HRT := Lib.hid hst.out.ret
                clear q0 q1 q2
                go_wp2_with fail
                exact bodyPost_ret (v := .agg #[.slice L nl cl, .slice Y ny cy, .int .i64 (-1)]) (by simp [results, Try.results49, go_sem, Q0.out, Q1.out, Q2.out]) rfl HRT.out
              · obtain ⟨q, rfl⟩ : ∃ q : Nat, uv = q := ⟨uv.toNat, by omega⟩
                obtain ⟨cs, h3, h4, h5, h6, h7⟩ := uni_spec (t := t) (xss := xss) (by rw [huv2.out]; omega)
                rw [huv2.out] at h3 h5 h7
                simp only [Int.toNat_natCast] at h3 h5 h7
                have hr3 : Hid (runF xss f (t ++ [mustF t cs cs]) (y ++ [(q : Int)]) = (t', y', a)) := by have := hr2.out; rw [huv2.out, if_neg hup] at this; simp only [Int.toNat_natCast] at this; rw [h5] at this; exact this
                have hqn : q < n := by rw [← hlen.out]; exact h7
                obtain ⟨b0, off, A', n', c', xs, rfl, hb, hcell, hi, hxs⟩ := hgr.round hqn
                obtain rfl : xs = cs := by have := hxs.out; rw [h3] at this; cases this; rfl
                have hli := HC.out xs h4
                have HBND : Hid (∀ x ∈ xs, -1000000 ≤ x ∧ x ≤ 1000000) := fun x hx => by have := hli.1 x hx; omega
                have hlits := Lib.hid (lits_snoc ht.out hli h6)
                have hm64 : Hid (I64 (mustF t xs xs)) := by have := HBND.out _ (mustF_spec h6).1; unfold Hid I64; omega
                obtain ⟨mu, hmu⟩ : ∃ mu, Hid (mustF t xs xs = mu) := ⟨_, rfl⟩
                rw [hmu.out] at hlits hm64 hr3
                have hnl : nl ≤ 1000000 := by have := hst.out.li.len; omega
                have hny : ny ≤ 1000000 := by have := hst.out.yi.len; have := hy.out; omega
                have HLN : Hid (t.length = nl) := hst.out.li.len
                have HYN : Hid (y.length = ny) := hst.out.yi.len
                have hwlt := hst.out.lt
                have HI := Lib.hid hi
                have HLI := Lib.hid hst.out.li
                have z1 : (0 : Int) ≤ (q : Int) := by omega
                have z2 : (q : Int) < (n : Int) := by omega
                have q64 : I64 q := by unfold I64; omega
                obtain ⟨wq, hwq⟩ : ∃ wq : World, wq = wr := ⟨_, rfl⟩
                subst hwq
                clear hr2 huv2 h3 h4 h5 h6 h7 hli hi hgr hup hiv i1 i2 hxs
                have hS : wq.drew.cell? ⟨w.heap.size, 0, none⟩ = some (.slice L nl cl) ∧ wq.drew.cell? ⟨b0, off + q, none⟩ = some (.slice A' n' c') := ⟨keepBox (below_drewN wq 1) c0, keepBox (below_drewN wq 1) hcell⟩
                go_wp2_with fail
                refine wp_region_tail (fun w' => w'.cell? ⟨w.heap.size, 0, none⟩ = some (.slice L nl cl) ∧ w'.cell? ⟨b0, off + q, none⟩ = some (.slice A' n' c')) [14] (by kernel_rfl) ?_
                refine take0 (i := 1) (oi := _) (v := ?_) rfl (by kernel_rfl) (by kernel_rfl) (by kernel_rfl) (fun _ _ _ h => h) rfl (Or.inl ⟨by rfl, ?_⟩) (fun _ => hS) ?_
                rotate_left
                · intro w0; go_simp; with_reducible rfl
                (try simp only [Act.put, List.setIfInBounds_toArray, List.set_cons_zero, List.set_cons_succ])
                refine takeS (i := 2) (oi := _) (v := ?_) rfl (by kernel_rfl) (by kernel_rfl) (by kernel_rfl) (fun _ _ _ h => h) rfl (by kernel_rfl) (by kernel_rfl) (Or.inl ⟨by rfl, ?_⟩) hS ?_
                rotate_left
                · intro w0 hSw; (try dsimp only at hSw); go_simp; with_reducible rfl
                (try simp only [Act.put, List.setIfInBounds_toArray, List.set_cons_zero, List.set_cons_succ])
                refine take0 (i := 4) (oi := _) (v := ?_) rfl (by kernel_rfl) (by kernel_rfl) (by kernel_rfl) (fun _ _ _ h => h) rfl (Or.inl ⟨by rfl, ?_⟩) (fun _ => hS) ?_
                rotate_left
                · intro w0; go_simp; with_reducible rfl
                (try simp only [Act.put, List.setIfInBounds_toArray, List.set_cons_zero, List.set_cons_succ])
                refine take0 (i := 5) (oi := _) (v := ?_) rfl (by kernel_rfl) (by kernel_rfl) (by kernel_rfl) (fun _ _ _ h => h) rfl (Or.inl ⟨by rfl, ?_⟩) (fun _ => hS) ?_
                rotate_left
                · intro w0; go_simp; with_reducible rfl
                (try simp only [Act.put, List.setIfInBounds_toArray, List.set_cons_zero, List.set_cons_succ])
                refine take0 (i := 6) (oi := _) (v := ?_) rfl (by kernel_rfl) (by kernel_rfl) (by kernel_rfl) (fun _ _ _ h => h) rfl (Or.inl ⟨by rfl, ?_⟩) (fun _ => hS) ?_
                rotate_left
                · intro w0; go_simp; with_reducible rfl
                (try simp only [Act.put, List.setIfInBounds_toArray, List.set_cons_zero, List.set_cons_succ])
                refine takeS (i := 7) (oi := _) (v := ?_) rfl (by kernel_rfl) (by kernel_rfl) (by kernel_rfl) (fun _ _ _ h => h) rfl (by kernel_rfl) (by kernel_rfl) (Or.inl ⟨by rfl, ?_⟩) hS ?_
                rotate_left
                · intro w0 hSw; (try dsimp only at hSw); go_simp; with_reducible rfl
                (try simp only [Act.put, List.setIfInBounds_toArray, List.set_cons_zero, List.set_cons_succ])
                refine take0 (i := 8) (oi := _) (v := ?_) rfl (by kernel_rfl) (by kernel_rfl) (by kernel_rfl) (fun _ _ _ h => h) rfl (Or.inl ⟨by rfl, ?_⟩) (fun _ => hS) ?_
                rotate_left
                · intro w0; go_simp; with_reducible rfl
                (try simp only [Act.put, List.setIfInBounds_toArray, List.set_cons_zero, List.set_cons_succ])
                refine takeS (i := 9) (oi := _) (v := ?_) rfl (by kernel_rfl) (by kernel_rfl) (by kernel_rfl) (fun _ _ _ h => h) rfl (by kernel_rfl) (by kernel_rfl) (Or.inl ⟨by rfl, ?_⟩) hS ?_
                rotate_left
                · intro w0 hSw; (try dsimp only at hSw); go_simp; with_reducible rfl
                (try simp only [Act.put, List.setIfInBounds_toArray, List.set_cons_zero, List.set_cons_succ])
                refine oneT (i := 0) (by kernel_rfl) rfl (by rfl) (fun K hK => ?_)
                go_simp
                have hS : ((wq.alloc (.cells #[] 3)).drew).cell? ⟨w.heap.size, 0, none⟩ = some (.slice L nl cl) ∧ ((wq.alloc (.cells #[] 3)).drew).cell? ⟨b0, off + q, none⟩ = some (.slice A' n' c') := ⟨keepBox (below_drew1 (below_new wq _)) c0, keepBox (below_drew1 (below_new wq _)) hcell⟩
                refine hK _ _ (fun _ => hS) ?_
                clear hK
                (try simp only [Act.put, List.setIfInBounds_toArray, List.set_cons_zero, List.set_cons_succ])
                refine oneT (i := 3) (by kernel_rfl) rfl (by rfl) (fun K hK => ?_)
                refine wp_append_sl _ (.tmp 48) (.tmp 50) 25 rfl wq.heap.size 3 i0 _ 8 Try.underlying25 hi0 hz0 hz1 hz2 rfl (some ⟨wq.heap.size, 0, none⟩) 0 0 [] rfl (own_empty 3 wq wq.heap.size rfl (Nat.le_refl _)).drew1 L nl cl (t.map (Value.int .i64)) rfl (HLI.out.keep (below_new wq _)).sl.drew1 (ints_one _) (by simp only [maxLen]; omega) (by omega) (by simp) ?_
                intro L1 cL1 w1 hO1 hG1 hA1
                have HB1 := Lib.hid (below_grown (below_drew1 (below_new wq (.cells #[] 3))) (own_empty 3 wq wq.heap.size rfl (Nat.le_refl _)).drew1 (Nat.le_refl _) hG1)
                have HO1 : Hid (Own 3 w1 wq.heap.size L1 nl cL1 (t.map (Value.int .i64))) := by simpa [Hid] using hO1
                have l1 := HB1.out.size
                clear hO1 hG1 hA1
                have hS : w1.cell? ⟨w.heap.size, 0, none⟩ = some (.slice L nl cl) ∧ w1.cell? ⟨b0, off + q, none⟩ = some (.slice A' n' c') := ⟨keepBox HB1.out c0, keepBox HB1.out hcell⟩
                refine hK _ _ (fun _ => hS) ?_
                clear hK
                (try simp only [Act.put, List.setIfInBounds_toArray, List.set_cons_zero, List.set_cons_succ])
                refine oneT (i := 10) (by kernel_rfl) rfl (by rfl) (fun K hK => ?_)
                go_simp
                refine (must_any _ _ _ _ _ _ xs t _ (HI.out.keep HB1.out) (HLI.out.keep HB1.out) HBND.out mu hmu).mono ?_
                rintro e w2 ⟨rfl, m2, rfl⟩
                have HB2 := Lib.hid (below_next HB1.out (below_drewN w1 m2))
                have HO2 := Lib.hid (HO1.out.keep (below_drewN w1 m2))
                have hS : (w1.drewN m2).cell? ⟨w.heap.size, 0, none⟩ = some (.slice L nl cl) ∧ (w1.drewN m2).cell? ⟨b0, off + q, none⟩ = some (.slice A' n' c') := ⟨keepBox HB2.out c0, keepBox HB2.out hcell⟩
                refine hK _ _ (fun _ => hS) ?_
                clear hK
                (try simp only [Act.put, List.setIfInBounds_toArray, List.set_cons_zero, List.set_cons_succ])
                refine oneT (i := 11) (by kernel_rfl) rfl (by rfl) (fun K hK => ?_)
                go_simp
                have hS : ((w1.drewN m2).alloc (.cells #[.int .i64 mu] 3)).cell? ⟨w.heap.size, 0, none⟩ = some (.slice L nl cl) ∧ ((w1.drewN m2).alloc (.cells #[.int .i64 mu] 3)).cell? ⟨b0, off + q, none⟩ = some (.slice A' n' c') := ⟨keepBox (below_alloc HB2.out _) c0, keepBox (below_alloc HB2.out _) hcell⟩
                refine hK _ _ (fun _ => hS) ?_
                clear hK
                (try simp only [Act.put, List.setIfInBounds_toArray, List.set_cons_zero, List.set_cons_succ])
                refine oneT (i := 12) (by kernel_rfl) rfl (by rfl) (fun K hK => ?_)
                refine wp_append_sl _ (.tmp 51) (.tmp 59) 25 rfl wq.heap.size 3 i0 _ 8 Try.underlying25 hi0 hz0 hz1 hz2 rfl L1 nl cL1 (t.map (Value.int .i64)) rfl (HO2.out.keep (below_new _ _)) (some ⟨w1.heap.size, 0, none⟩) 1 1 [.int .i64 mu] rfl (sl_one (w1.drewN m2) 3 (.int .i64 mu) rfl) (by simp [Value.oneCell']) (by simp only [maxLen]; omega) (by omega) (by simp; omega) ?_
                intro L2 cL2 w3 hO3 hG3 hA3
                have hb3 := below_grown (below_alloc HB2.out (.cells #[.int .i64 mu] 3)) (HO2.out.keep (below_new (w1.drewN m2) (.cells #[.int .i64 mu] 3))) (Nat.le_refl _) hG3
                have st3 := hst.out.keep hb3
                have e0 := st3.tb.cell 0
                have g0 := st3.tb.frozen 0
                simp at e0
                have HST4 := Lib.hid (st3.setL (s := t ++ [mu]) ⟨by have := hO3.sl; simpa using this, fun z hz => (by rcases List.mem_append.1 hz with hz | hz; exact st3.li.wf z hz; simp at hz; subst hz; exact hm64.out)⟩ (Apart.of_own hO3) (.inr (own_ge hO3 (by omega))))
                have hS : w3.cell? ⟨w.heap.size, 0, none⟩ = some (.slice L nl cl) ∧ w3.cell? ⟨b0, off + q, none⟩ = some (.slice A' n' c') := ⟨e0, keepBox hb3 hcell⟩
                clear hO3 hG3 hA3 hb3 st3
                refine hK _ _ (fun _ => hS) ?_
                clear hK
                (try simp only [Act.put, List.setIfInBounds_toArray, List.set_cons_zero, List.set_cons_succ])
                refine take0 (i := 13) (oi := _) (v := ?_) rfl (by kernel_rfl) (by kernel_rfl) (by kernel_rfl) (fun _ _ _ h => h) rfl (Or.inl ⟨by rfl, ?_⟩) (fun _ => hS) ?_
                rotate_left
                · intro w0; go_simp; with_reducible rfl
                (try simp only [Act.put, List.setIfInBounds_toArray, List.set_cons_zero, List.set_cons_succ])
                refine oneT (i := 14) (by kernel_rfl) rfl (by rfl) (fun K hK => ?_)
                go_simp
                refine hK _ _ (noT_no (by kernel_rfl)) ?_
                clear hK
                (try simp only [Act.put, List.setIfInBounds_toArray, List.set_cons_zero, List.set_cons_succ])
                refine doneT (by kernel_rfl) ?_ _
                obtain ⟨w4, hw4⟩ : ∃ w4 : World, w4 = w3.setCell ⟨w.heap.size, 0, none⟩ (.slice L2 (nl + 1) cL2) := ⟨_, rfl⟩
                rw [← hw4] at HST4 ⊢
                have l4 := HST4.out.lt
                have ltg4 : w.heap.size < w4.heap.size := by omega
                have e1 := HST4.out.tb.cell 1
                simp at e1
                clear hw4 hS e0 g0 hcell c0 hst HB1 HB2 HO1 HO2 HI HLI
                go_wp2_with (first
                  | (at_builtin
                     refine wpList_append_sl _ rfl (.tmp 62) (.tmp 64) _ rfl w4.heap.size 3 i0 _ 8 Try.underlying25 hi0 hz0 hz1 hz2 rfl (some ⟨w4.heap.size, 0, none⟩) 0 0 [] rfl (own_empty _ _ _ rfl (Nat.le_refl _)) Y ny cy _ rfl (HST4.out.yi.keep (below_new _ _)).sl (ints_one _) (by simp only [maxLen]; omega) (by omega) (by simp) ?_
                     intro Y1 cY1 w5 hO5 hG5 hA5
                     have HB5 := Lib.hid (below_grown (below_new w4 (.cells #[] 3)) (own_empty 3 w4 w4.heap.size rfl (Nat.le_refl _)) (Nat.le_refl _) hG5)
                     have HO5 : Hid (Own 3 w5 w4.heap.size Y1 ny cY1 (y.map (Value.int .i64))) := by simpa [Hid] using hO5
                     have l5 := HB5.out.size
                     clear hO5 hG5 hA5)
                  | (at_builtin
                     refine wpList_append_sl _ rfl (.tmp 65) (.tmp 67) _ rfl w4.heap.size 3 i0 _ 8 Try.underlying25 hi0 hz0 hz1 hz2 rfl Y1 ny cY1 _ rfl (HO5.out.keep (below_new _ _)) (some ⟨w5.heap.size, 0, none⟩) 1 1 _ rfl (sl_one w5 3 (.int .i64 q) rfl) (by simp [Value.oneCell']) (by simp only [maxLen]; omega) (by omega) (by simp; omega) ?_
                     intro Y2 cY2 w6 hO6 hG6 hA6
                     have hb6 := below_grown (below_alloc HB5.out (.cells #[.int .i64 q] 3)) (HO5.out.keep (below_new w5 (.cells #[.int .i64 q] 3))) (Nat.le_refl _) hG6
                     have st6 := HST4.out.keep hb6
                     have e1 := st6.tb.cell 1
                     have g1 := st6.tb.frozen 1
                     simp at e1
                     have HST7 := Lib.hid (st6.setY (s := y ++ [(q : Int)]) ⟨by have := hO6.sl; simpa using this, fun z hz => (by rcases List.mem_append.1 hz with hz | hz; exact st6.yi.wf z hz; simp at hz; subst hz; exact q64)⟩ (Apart.of_own hO6) (.inr (own_ge hO6 (by omega))))
                     clear hO6 hG6 hA6 hb6 st6))
                go_roundg f
                case measure => omega
                case rel => exact ⟨L2, _, cL2, Y2, _, cY2, _, _, _, HST7, hlits, by have := hy.out; simp [Hid, this], by have := hk.out; simp only [Hid, List.length_append, List.length_singleton]; omega, hr3⟩
end Go.Proofs.Ytabjbpkojbdgaaa
