/- Contract of best.plan: the acts that led to a state. -/
import Derived.Test.YtlfgcblijfflfaaWays
import Derived.Test.YtlfgcblijfflfaaClone
import Derived.Test.YtlfgcblijfflfaaGrid
import Derived.Test.YtlfgcblijfflfaaSlices
import Derived.Test.YtlfgcblijfflfaaBoxes
namespace Go.Proofs.Ytlfgcblijfflfaa
open Go.RowKit
set_option linter.unusedSimpArgs false
set_option linter.unusedVariables false

def slN : Value → Nat
  | .slice _ n _ => n
  | _ => 0
def natI (o : List Nat) : List Int := o.map (fun k : Nat => (k : Int))
theorem own_base_p {e : TypeId} {w : World} {base n c k : Nat} {A : Option Addr} {xs : List Value} (h : Own e w base A n c xs) (hk : blockOf A = some k) : base ≤ k := by
  rcases h.form with ⟨rfl, _⟩ | ⟨g', _, rfl, hg', _⟩
  · cases hk
  · cases hk; exact hg'
/-- A plan. -/
def RetPlan (al : List Ac) (f0 t L : Nat) (w : World) (e : Ending) (w' : World) : Prop := ∃ P np cp p, e = .returned (.slice P np cp) ∧ Ints w' P np cp (natI p) ∧ walkF al p f0 = some t ∧ p.length = L ∧ Below w.heap.size w w'

set_option maxHeartbeats 4000000 in
set_option maxRecDepth 100000 in
theorem plan_any (bm n : Nat) (D : DataW Unit) (W : List Wy) (al : List Ac) (f0 i k : Nat) (x0 : Wy) (w : World) (hM : MapW w bm n D) (hD : WayM D W) (hB : Bfs al f0 W i k) (hx : x0 ∈ W) (ha : al.length ≤ 1000) :
    Calls Try.prog 18 #[.map (some bm), .int .i64 (x0.s : Int)] w (RetPlan al f0 x0.s x0.long w) := by
  obtain ⟨i0, hi0, hz0, hz1, hz2⟩ := info_parts int_info
  have HM := Lib.hid hM
  have HD := Lib.hid hD
  have HBF := Lib.hid hB
  have HX0 := Lib.hid hx
  have hL16 : x0.long ≤ 16 := by
    obtain ⟨j, hj, ej⟩ := List.getElem_of_mem hx
    have := hB.idx j x0 (by rw [List.getElem?_eq_getElem hj, ej])
    have := hB.len
    omega
  have hst : Hid (Back al W x0.s x0.long x0.s []) := by
    obtain ⟨j, hj, ej⟩ := List.getElem_of_mem hx
    exact Back.start (i := j) (by rw [List.getElem?_eq_getElem hj, ej])
  have hbl : bm < w.heap.size := World.ownsMap.lt hM
  have wf0 := way_f0
  have wf1 := way_f1
  clear hM hD hB hx
  go_enter Try.func18, Try.ntmps18
  go_wp2_with fail
  go_loopw [1, 5] (fun s1 s5 wr => ∃ (x : Wy) (o : List Nat) (n5 c5 : Nat) (O : Option Addr), s1 = .int .i64 (x.s : Int) ∧ s5 = .slice O n5 c5 ∧ Hid (o.length = n5) ∧ n5 ≤ x0.long ∧ Hid (x ∈ W) ∧ Hid (Back al W x0.s x0.long x.s o) ∧ Hid (Below w.heap.size w wr) ∧ Hid (Own 3 wr w.heap.size O n5 c5 ((natI o).map (Value.int .i64))) ∧ Hid (∀ z ∈ o, z < al.length)) (fun _ s5 _ => x0.long - slN s5)
  case atStart => exact ⟨x0, [], 0, 0, none, rfl, rfl, rfl, Nat.zero_le _, HX0, hst, Below.refl _ _, Own.nil _ _ _, by simp [Hid]⟩
  case round =>
    obtain ⟨x, o, n5, c5, O, rfl, rfl, HL, hn5, HX, HBK, HB, HO, HAL⟩ := hrel
    have HMr := Lib.hid (HM.out.keep HB.out)
    have hxs := HBF.out.lt x HX.out
    have hlk := way_look HMr.out HD.out HX.out hxs
    have hsum := HBK.out.sum HBF.out HX.out
    rw [HL.out] at hsum
    by_cases hv : 0 ≤ x.via
    · obtain ⟨a, s', e1, e2, e3, e4, y, hy, e5, e6⟩ := HBK.out.step HBF.out HX.out hv
      subst e5
      have HY := Lib.hid hy
      have HBK2 := Lib.hid e4
      have ha2 : a < 1000 := by omega
      have HAL2 : Hid (∀ z ∈ o ++ [a], z < al.length) := fun z hz => by
        rcases List.mem_append.1 hz with hz | hz
        · exact HAL.out z hz
        · rw [List.mem_singleton.1 hz]; exact e3
      rw [e1, e2] at hlk
      have v0 : (0 : Int) ≤ (a : Int) := by omega
      have HSL := Lib.hid (sl_one wr 3 (.int .i64 (a : Int)) rfl)
      have hb4 := below_new wr (.cells #[.int .i64 (a : Int)] 3)
      have HOn := Lib.hid (HO.out.keep hb4)
      have HBn := Lib.hid (below_next HB.out hb4)
      have hsz := HB.out.size
      have hlk2 : (Instr.lookup 63 (.map (some bm)) (.int .i64 (x.s : Int)) false).run Try.prog wr = .ok (.agg #[.int .i64 y.s, .int .i64 a, .int .i64 x.long]) wr := hlk
      have HE2 := Lib.hid e2
      clear hb4 HO hv hy e4 e1 e2 e3 hlk
      go_wp2_with (first
        | (at_builtin
           refine wpList_append_sl _ rfl (.tmp 11) (.tmp 16) _ rfl w.heap.size 3 i0 _ 8 Try.underlying22 hi0 hz0 hz1 hz2 rfl O n5 c5 _ rfl HOn.out (some ⟨wr.heap.size, 0, none⟩) 1 1 _ rfl HSL.out (by simp [Value.oneCell']) (by simp only [maxLen]; omega) (by omega) (by simp; omega) ?_
           intro L1 c1 w9 hL1 hg1 hat1
           have HL1 : Hid (Own 3 w9 w.heap.size L1 (n5 + 1) c1 ((natI (o ++ [a])).map (Value.int .i64))) := by unfold natI; rw [List.map_append, List.map_append]; exact hL1
           have HB9 : Hid (Below w.heap.size w w9) := HBn.out.grown hg1 HBn.out.size (fun j hj => own_base_p HOn.out hj)
           have HM9 := Lib.hid (HM.out.keep HB9.out)
           have hlk9 := way_look HM9.out HD.out HX.out hxs
           clear hL1 hg1 hat1))
      go_roundw
      case rel => exact ⟨y, o ++ [a], n5 + 1, c1, L1, by rw [HE2.out], rfl, by show _ = _; rw [List.length_append, HL.out]; rfl, by omega, HY, HBK2, HB9, HL1, HAL2⟩
      case measure => simp [slN] <;> omega
    · have hfin := HBK.out.fin HBF.out HX.out (by omega)
      have HW := Lib.hid hfin.1
      have hol : Hid (o.length = x0.long) := hfin.2
      have hv2 : ¬ 0 ≤ x.via := hv
      have hv3 : decide (0 ≤ x.via) = false := decide_eq_false hv
      have HOO : Hid (Own 3 wr w.heap.size O n5 c5 ((natI o).map (Value.int .i64))) := HO
      clear hfin hv HO
      go_wp2_with fail
      refine (reverse_own w.heap.size n5 c5 O (natI o) wr HOO.out (by omega)).mono ?_
      rintro e wz ⟨rfl, hO2, hg2⟩
      have HB2 : Hid (Below w.heap.size w wz) := HB.out.grown hg2 HB.out.size (fun j hj => own_base_p HOO.out hj)
      have HO2 := Lib.hid hO2
      clear hO2 hg2
      go_wp2_with fail
      go_ret
      refine ⟨O, n5, c5, o.reverse, rfl, ?_, HW.out, by rw [List.length_reverse]; exact hol.out, HB2.out⟩
      have h9 := HO2.out
      rw [show (natI o).reverse = natI o.reverse by unfold natI; rw [List.map_reverse]] at h9
      refine h9.ints (fun z hz => ?_)
      obtain ⟨q, hq, rfl⟩ := List.mem_map.1 hz
      have := HAL.out q (List.mem_reverse.1 hq)
      unfold I64
      omega
end Go.Proofs.Ytlfgcblijfflfaa
