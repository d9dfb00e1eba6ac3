/- Contracts of Trail.Run, unit.Assume, unit.Negated, unit.Falls. -/
import Derived.Test.YtlfgcblijfflfaaGreatUnitAdd
namespace Go.Proofs.YtlfgcblijfflfaaGreat
open Go.RowKit Go.Maps Go.WideMaps

/-- A trail that went on: the clause that is false, or -1. -/
def RetTr (w wr : World) (L0 Y0 : Option Addr) (g : Nat) (A : Option Addr) (n c gm : Nat) (t y : List Int) (a : Int) (e : Ending) (w' : World) : Prop :=
  e = .returned (.int .i64 a) ∧ ∃ L cl Y cy D, TrSt w w' g A n c L cl Y cy gm D t y ∧ Frm wr w' g gm L0 Y0 L Y

/-- What the look at all clauses tells of the trail. -/
theorem scan_true {t y : List Int} {xss : List (List Int)} {p : Int} {f : Nat} {r : List Int × List Int × Int} (hc : ∀ c ∈ xss, Cls c) (hs : scanF t xss 0 (-1) = (p, true)) (hr : runF xss (f + 1) t y = r) : (t, y, p) = r := by
  rw [scanF_eq t xss 0 (-1) hc] at hs
  rw [runF] at hr
  by_cases h : 0 ≤ firF t xss 0
  · rw [if_pos h] at hs hr
    rw [← hr]
    injection hs with h1
    rw [h1]
  · rw [if_neg h] at hs
    injection hs with _ h2
    cases h2
theorem scan_none {t y : List Int} {xss : List (List Int)} {p : Int} {f : Nat} {r : List Int × List Int × Int} (hc : ∀ c ∈ xss, Cls c) (hs : scanF t xss 0 (-1) = (p, false)) (hp : p < 0) (hr : runF xss (f + 1) t y = r) : (t, y, -1) = r := by
  rw [scanF_eq t xss 0 (-1) hc] at hs
  rw [runF] at hr
  by_cases h : 0 ≤ firF t xss 0
  · rw [if_pos h] at hs
    injection hs with _ h2
    cases h2
  · rw [if_neg h] at hs hr
    injection hs with h1
    rw [if_pos (by omega)] at h1
    by_cases h2 : uniF t xss 0 < 0
    · rw [if_pos h2] at hr; exact hr
    · rw [if_neg h2] at h1; omega
theorem scan_some {t y : List Int} {xss : List (List Int)} {p : Nat} {f : Nat} {r : List Int × List Int × Int} (hc : ∀ c ∈ xss, Cls c) (hs : scanF t xss 0 (-1) = ((p : Int), false)) (hr : runF xss (f + 1) t y = r) :
    ∃ c, xss[p]? = some c ∧ c ∈ xss ∧ mustF t c c ≠ 0 ∧ p < xss.length ∧ runF xss f (t ++ [mustF t c c]) (y ++ [(p : Int)]) = r := by
  rw [scanF_eq t xss 0 (-1) hc] at hs
  rw [runF] at hr
  by_cases h : 0 ≤ firF t xss 0
  · rw [if_pos h] at hs
    injection hs with _ h2
    cases h2
  · rw [if_neg h] at hs hr
    injection hs with h1
    rw [if_pos (by omega)] at h1
    by_cases h2 : uniF t xss 0 < 0
    · rw [if_pos h2] at h1; omega
    · rw [if_neg h2] at h1 hr
      obtain ⟨c, h3, h4, h5, h6, h7⟩ := uni_spec (t := t) (xss := xss) (by omega)
      rw [h1] at h3 h5 h7 hr
      simp only [Int.toNat_natCast] at h3 h5 h7 hr
      rw [h5] at hr
      exact ⟨c, h3, h4, h6, h7, hr⟩

set_option maxHeartbeats 4000000 in
theorem run_any (w wr : World) (g : Nat) (A : Option Addr) (n c : Nat) (L : Option Addr) (cl : Nat) (Y : Option Addr) (cy gm : Nat) (D : DataW Unit) (t y : List Int) (h : TrSt w wr g A n c L cl Y cy gm D t y)
    (xss : List (List Int)) (hg : Grid w A n c xss) (vars : Int) (v0 : 0 ≤ vars) (v1 : vars ≤ 1000000) (hc : ∀ x ∈ xss, Lits vars x) (ht : Lits vars t) (hy : y.length = t.length) (k : Nat) (hk : vars < k + t.length)
    (t' y' : List Int) (a : Int) (hr : Hid (runF xss k t y = (t', y', a))) :
    Calls Tryz.prog 73 #[.pointer (some ⟨g, 0, none⟩)] wr (RetTr w wr L Y g A n c gm t' y' a) := by
  obtain ⟨w00, hw00⟩ : ∃ w00 : World, w00 = wr := ⟨_, rfl⟩
  obtain ⟨L0, hL0⟩ : ∃ L0, L0 = L := ⟨_, rfl⟩
  obtain ⟨Y0, hY0⟩ : ∃ Y0, Y0 = Y := ⟨_, rfl⟩
  have HF0 : Hid (Frm w00 wr g gm L0 Y0 L Y) := by rw [hw00, hL0, hY0]; exact Frm.refl _ _ _ _ _
  rw [← hL0, ← hY0]
  conv => rhs; rw [← hw00]
  clear hw00 hL0 hY0
  have hbd := hg.bd
  have hlen := Lib.hid hg.len
  have HC := Lib.hid hc
  have H0 := Lib.hid h
  have HT := Lib.hid ht
  have HY := Lib.hid hy
  have HK := Lib.hid hk
  have HCL : Hid (∀ x ∈ xss, Cls x) := fun x hx => (hc x hx).cls
  clear hc h ht hy hk
  go_enter Tryz.func73, Tryz.ntmps73
  go_wp2_with fail
  go_loopg [3] k (fun f _ wr => ∃ L cl Y cy D t y, Hid (TrSt w wr g A n c L cl Y cy gm D t y) ∧ Hid (Frm w00 wr g gm L0 Y0 L Y) ∧ Hid (Lits vars t) ∧ Hid (y.length = t.length) ∧ Hid (vars < f + t.length) ∧ Hid (runF xss f t y = (t', y', a)))
  case atStart => exact ⟨L, cl, Y, cy, D, t, y, H0, HF0, HT, HY, HK, hr⟩
  case round =>
    clear H0 HT HY HK hr HF0
    obtain ⟨L, cl, Y, cy, D, t, y, hst, hfr, ht, hy, hk, hr⟩ := hrel
    have htl := ht.out.len_le v0
    cases gk with
    | zero => exfalso; have := hk.out; omega
    | succ f =>
    obtain ⟨wo, hwo⟩ : ∃ wo : World, wo = wr := ⟨_, rfl⟩
    subst hwo
    have hx := hg.keep hst.out.bl
    have c0 := hst.out.tb.cell 0
    simp at c0
    have HLK := Lib.hid hst.out.look
    obtain ⟨p, b, hs⟩ : ∃ p b, Hid (scanF t xss 0 (-1) = (p, b)) := ⟨_, _, rfl⟩
    go_wp2_with fail
    go_loopw [3, 15] (fun fs i wr => ∃ (j : Nat) (fv : Int), j ≤ n ∧ fs = .int .i64 fv ∧ i = .int .i64 j ∧ Hid (∃ m, wr = wo.drewN m) ∧ Hid (scanF t (xss.drop j) j fv = (p, b))) (fun _ i _ => n - (intOf i).toNat)
    case atStart => exact ⟨0, -1, Nat.zero_le _, rfl, rfl, ⟨0, rfl⟩, hs⟩
    case round =>
      obtain ⟨j, fv, hj, rfl, rfl, hB, hn⟩ := hrel
      have hx' : Grid wr A n c xss := by obtain ⟨m, rfl⟩ := hB.out; exact hx.drewN m
      have hlk : TrLook wr g gm t.length D t := by obtain ⟨m, rfl⟩ := hB.out; exact HLK.out.drewN m
      by_cases hlt : j < n
      · obtain ⟨b0, off, A', n', c', xs, rfl, hb, hcell, hi, hxs⟩ := hx'.round hlt
        have hli := HC.out xs (List.mem_of_getElem? hxs.out)
        obtain ⟨s1, s2, hs12⟩ : ∃ s1 s2, Hid (stF t xs 0 = (s1, s2)) := ⟨_, _, rfl⟩
        have hn2 : Hid ((if s1 then ((j : Int), true) else scanF t (xss.drop (j + 1)) (j + 1) (if s2 != 0 && decide (fv < 0) then (j : Int) else fv)) = (p, b)) := by
          have := hn.out
          rw [drop_cons_of hxs.out, scanF, hs12.out] at this
          exact this
        have hbnd : ∀ x ∈ xs, -1000000 ≤ x ∧ x ≤ 1000000 := fun x hx => by have := hli.1 x hx; omega
        clear hn hli
        go_wp2_with fail
        refine (state_any wr g gm t.length D t hlk _ _ _ xs hi hbnd s1 s2 hs12).mono ?_
        rintro e w1 ⟨rfl, m1, rfl⟩
        clear hbnd
        cases s1
        · by_cases hs2 : s2 = 0
          · subst hs2
            go_wp2_with fail
            go_roundw
            case rel => exact ⟨j + 1, fv, by omega, rfl, by go_num, (by obtain ⟨m, rfl⟩ := hB.out; exact ⟨_, World.drewN_drewN _ _ _⟩), by have := hn2.out; simpa [Hid] using this⟩
            case measure => simp [intOf]; omega
          · have d1 : (s2 != 0) = true := by simpa using hs2
            by_cases hfv : fv < 0
            · have d2 : decide (fv < 0) = true := decide_eq_true hfv
              go_wp2_with fail
              go_roundw
              case rel => exact ⟨j + 1, j, by omega, rfl, by go_num, (by obtain ⟨m, rfl⟩ := hB.out; exact ⟨_, World.drewN_drewN _ _ _⟩), by have := hn2.out; rw [d1, d2] at this; simpa [Hid] using this⟩
              case measure => simp [intOf]; omega
            · have d2 : decide (fv < 0) = false := decide_eq_false hfv
              go_wp2_with fail
              go_roundw
              case rel => exact ⟨j + 1, fv, by omega, rfl, by go_num, (by obtain ⟨m, rfl⟩ := hB.out; exact ⟨_, World.drewN_drewN _ _ _⟩), by have := hn2.out; rw [d1, d2] at this; simpa [Hid] using this⟩
              case measure => simp [intOf]; omega
        · have hpb : ((j : Int), true) = (p, b) := by have := hn2.out; simpa using this
          cases hpb
          have hfin := scan_true HCL.out hs.out hr.out
          have HFIN := Lib.hid hfin
          clear hfin
          go_wp2_with fail
          go_ret
          have := HFIN.out
          cases this
          obtain ⟨m, rfl⟩ := hB.out
          exact ⟨rfl, L, cl, Y, cy, D, (hst.out.keep (below_drewN _ m)).keep (below_drewN _ m1), (hfr.out.keep (below_drewN _ m)).keep (below_drewN _ m1)⟩
      · have hpb : (fv, false) = (p, b) := by rw [← hn.out, List.drop_of_length_le (by have := hlen.out; omega), scanF]
        obtain rfl : p = fv := by injection hpb with h1 _; exact h1.symm
        obtain rfl : b = false := by injection hpb with _ h1; exact h1.symm
        clear hn hpb
        by_cases hfv : p < 0
        · have HFIN := Lib.hid (scan_none HCL.out hs.out hfv hr.out)
          go_wp2_with fail
          go_ret
          have := HFIN.out
          cases this
          obtain ⟨m, rfl⟩ := hB.out
          exact ⟨rfl, L, cl, Y, cy, D, hst.out.keep (below_drewN _ m), hfr.out.keep (below_drewN _ m)⟩
        · obtain ⟨q, rfl⟩ : ∃ q : Nat, p = q := ⟨p.toNat, by omega⟩
          obtain ⟨cs, h3, h4, h5, h6, h7⟩ := scan_some HCL.out hs.out hr.out
          have hqn : q < n := by rw [← hlen.out]; exact h6
          obtain ⟨b0, off, A', n', c', xs, rfl, hb, hcell, hi, hxs⟩ := hx'.round hqn
          obtain rfl : xs = cs := by have := hxs.out; rw [h3] at this; cases this; rfl
          have hli := HC.out xs h4
          have hcls := HCL.out xs h4
          have hs12 : Hid (stF t xs 0 = (falB t 0 xs, mustF t xs xs)) := stF_ref hcls.1 hcls.2
          have hbnd : ∀ x ∈ xs, -1000000 ≤ x ∧ x ≤ 1000000 := fun x hx => by have := hli.1 x hx; omega
          have hlits := Lib.hid (lits_snoc ht.out hli h5)
          have hm64 : Hid (I64 (mustF t xs xs)) := by have := hbnd _ (mustF_spec h5).1; unfold Hid I64; omega
          have HR7 := Lib.hid h7
          have c0' : wr.cell? ⟨g, 0, none⟩ = some (.slice (some ⟨b0, off, none⟩) n c) := by obtain ⟨m, rfl⟩ := hB.out; exact keepBox (below_drewN wo m) c0
          have hst' : Hid (TrSt w wr g (some ⟨b0, off, none⟩) n c L cl Y cy gm D t y) := by obtain ⟨m, rfl⟩ := hB.out; exact hst.out.keep (below_drewN wo m)
          have zq : (0 : Int) ≤ (q : Int) := by omega
          have zq2 : (q : Int) < (n : Int) := by omega
          generalize mustF t xs xs = mu at hs12 hlits hm64 HR7
          generalize falB t 0 xs = fl at hs12
          clear h3 h4 h5 h7 hli hcls c0 hs
          go_wp2_with fail
          refine (state_any wr g gm t.length D t hlk _ _ _ xs hi hbnd fl mu hs12).mono ?_
          rintro e w1 ⟨rfl, m1, rfl⟩
          clear hbnd
          go_wp2_with fail
          refine (add_any w (wr.drewN m1) g _ n c L cl Y cy gm D t y (hst'.out.keep (below_drewN wr m1)) mu q hm64.out (by omega) (by have := hy.out; omega)).mono ?_
          rintro e w2 ⟨rfl, L2, cl2, Y2, cy2, D2, hst2, hf2⟩
          have HST2 := Lib.hid hst2
          have HF2 : Hid (Frm w00 w2 g gm L0 Y0 L2 Y2) := by obtain ⟨m, rfl⟩ := hB.out; exact ((hfr.out.keep (below_drewN _ m)).keep (below_drewN _ m1)).trans hf2
          clear hst2 hf2
          go_wp2_with fail
          go_roundg f
          case measure => omega
          case rel => exact ⟨L2, cl2, Y2, cy2, D2, _, _, HST2, HF2, hlits, by have := hy.out; simp [Hid, this], by have := hk.out; simp only [Hid, List.length_append, List.length_singleton]; omega, HR7⟩

/-- A trail of asked literals, and the clause that is false, or -1. -/
def RetAsk (A : Option Addr) (n c : Nat) (w : World) (t y : List Int) (a : Int) (e : Ending) (w' : World) : Prop :=
  ∃ g gm L cl Y cy D, e = .returned (.tuple #[.pointer (some ⟨g, 0, none⟩), .int .i64 a]) ∧ TrSt w w' g A n c L cl Y cy gm D t y

theorem take_map_neg (q : List Int) (k : Nat) : (q.take k).map (fun _ => (-1 : Int)) = (q.map (fun _ => (-1 : Int))).take k := by rw [List.map_take]

set_option maxHeartbeats 1000000 in
theorem negated_any (B : Option Addr) (m d : Nat) (q : List Int) (w : World) (hq : Ints w B m d q) (hs : ∀ x ∈ q, -1000000 ≤ x ∧ x ≤ 1000000) (hm : m ≤ 1000000) :
    Calls Tryz.prog 74 #[.slice B m d] w (RetInts (negF q) w) := by
  have hbd := hq.bd
  have hlen := Lib.hid hq.len
  have HS := Lib.hid hs
  obtain ⟨i0, hi0, hz0, hz1, hz2⟩ := info_parts int_info
  clear hs
  go_enter Tryz.func74, Tryz.ntmps74
  go_wp2_with fail
  go_loopw [3, 8] (fun o i wr => ∃ (k cl : Nat) (Lf : Option Addr), k ≤ m ∧ o = .slice Lf k cl ∧ i = .int .i64 k ∧ Hid (Own 3 wr w.heap.size Lf k cl ((negF (q.take k)).map (Value.int .i64))) ∧ Hid (Below w.heap.size w wr)) (fun _ i _ => m - (intOf i).toNat)
  case atStart => exact ⟨0, 0, none, Nat.zero_le _, rfl, rfl, Own.nil _ _ _, Below.refl _ _⟩
  case round =>
    obtain ⟨k, cl, Lf, hk, rfl, rfl, hown, hbl⟩ := hrel
    have hx := hq.keep hbl.out
    by_cases hlt : k < m
    · obtain ⟨b, off, z, rfl, hb, hcell, z1, z2, hz⟩ := hx.round hlt
      have hzb := HS.out z (List.mem_of_getElem? hz.out)
      have hS := ints_made wr 3 [-z] rfl (by simp [I64]; omega) (by simp [maxLen])
      go_wp2_with (first
        | (at_builtin
           refine wpList_append_sl _ rfl (.tmp 12) (.tmp 15) _ rfl w.heap.size 3 i0 _ 8 Tryz.underlying22 hi0 hz0 hz1 hz2 rfl Lf k cl _ rfl (hown.out.keep (below_new _ _)) (some ⟨wr.heap.size, 0, none⟩) 1 1 _ rfl hS.sl (ints_one _) (by simp only [maxLen]; omega) (by omega) (by have := hbl.out.size; simp; omega) ?_
           intro L1 cL1 w5 hL1 hg1 hat1
           have HL1 := Lib.hid hL1
           have HB5 := Lib.hid (below_grown (below_alloc hbl.out (.cells #[.int .i64 (-z)] 3)) (hown.out.keep (below_new wr (.cells #[.int .i64 (-z)] 3))) (Nat.le_refl _) hg1)
           clear hL1 hg1 hat1))
      go_roundw
      case rel => exact ⟨k + 1, cL1, L1, by omega, rfl, by go_num, by rw [take_snoc_of hz.out, negF, List.map_append, List.map_append]; exact HL1, HB5⟩
      case measure => simp [intOf]; omega
    · have hres : Hid (Own 3 wr w.heap.size Lf k cl ((negF q).map (Value.int .i64))) := by have := hown.out; rw [List.take_of_length_le (by rw [hlen.out]; omega)] at this; exact this
      clear hown
      go_wp2_with fail
      go_ret
      exact ⟨Lf, k, cl, rfl, hres.out, hbl.out⟩
theorem negF_i64 {vars : Int} {q : List Int} (v1 : vars ≤ 1000000) (h : Lits vars q) : ∀ x ∈ negF q, I64 x := fun x hx => by
  have := (h.neg).1 x hx
  unfold I64
  omega
end Go.Proofs.YtlfgcblijfflfaaGreat
