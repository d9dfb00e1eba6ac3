/- Contracts of slices.Clip at rows, cnf.Normal; of the reference's Before. -/
import Derived.Test.YtlfgcblijfflfaaGreatCompact
import Derived.Test.YtlfgcblijfflfaaGreatRefSort
import Derived.Test.YtlfgcblijfflfaaGreatClipR
namespace Go.Proofs.YtlfgcblijfflfaaGreat
open Go.RowKit Go.Sort
set_option linter.unusedSimpArgs false


/-- Clauses in order, of the call's own. -/
def RetNorm (xss : List (List Int)) (w : World) (e : Ending) (w' : World) : Prop :=
  ∃ A n c, e = .returned (.slice A n c) ∧ OwnP 22 3 w' w.heap.size 0 A n c (normF xss) ∧ Below w.heap.size w w'

set_option maxHeartbeats 4000000 in
set_option maxRecDepth 100000 in
theorem normal_any (A : Option Addr) (n c : Nat) (xss : List (List Int)) (w : World) (h : Grid w A n c xss) (hs : ∀ xs ∈ xss, ∀ x ∈ xs, -1000000 ≤ x ∧ x ≤ 1000000) (hw : ∀ xs ∈ xss, xs.length ≤ 1000000) (hn : n ≤ 1000000) :
    Calls Tryz.prog 29 #[.slice A n c] w (RetNorm xss w) := by
  have hbd := h.bd
  have hlen := Lib.hid h.len
  obtain ⟨i0, hi0, hz0, hz1, hz2⟩ := info_parts row_info
  have G := Lib.hid h
  have HS := Lib.hid hs
  have HW := Lib.hid hw
  clear h hs hw
  go_enter Tryz.func29, Tryz.ntmps29
  go_wp2_with fail
  go_loopw [3, 9] (fun o i wr => ∃ (k cl : Nat) (Lf : Option Addr), k ≤ n ∧ o = .slice Lf k cl ∧ i = .int .i64 k ∧ Hid (OwnP 22 3 wr w.heap.size 0 Lf k cl ((xss.take k).map sortF)) ∧ Hid (Below w.heap.size w wr)) (fun _ i _ => n - (intOf i).toNat)
  case atStart => exact ⟨0, 0, none, Nat.zero_le _, rfl, rfl, by simpa [Hid] using OwnP.nil _ _ _ _ _, Below.refl _ _⟩
  case round =>
    obtain ⟨k, cl, Lf, hk, rfl, rfl, hown, hbl⟩ := hrel
    have hwz := hbl.out.size
    by_cases hlt : k < n
    · obtain ⟨b, off, X, nx, cx, x, hLe, hb, hcell, hx, hxk⟩ := (G.out.keep hbl.out).round hlt
      subst hLe
      have hxm := List.mem_of_getElem? hxk.out
      have HXB := Lib.hid (HS.out x hxm)
      have hnx : nx ≤ 1000000 := by have h1 := hx.len; have h2 := HW.out x hxm; omega
      have HX := Lib.hid hx
      have y1 : (0 : Int) ≤ (k : Int) := by omega
      have y2 : (k : Int) < (n : Int) := by omega
      clear hx hxm
      go_wp2_with fail
      refine (sorted_any _ _ _ x _ HX.out HXB.out hnx).mono ?_
      rintro e w3 ⟨L3, n3, c3, rfl, hown3, hb3⟩
      have OW3 := Lib.hid (hown.out.keep hb3)
      have BL3 := Lib.hid (below_next hbl.out hb3)
      have O3 := Lib.hid hown3
      have I3 := Lib.hid (hown3.ints (fun q hq => (by have := HXB.out q (sortF_mem.1 hq); unfold I64; omega)))
      have hw3 := BL3.out.size
      clear hown3 hb3
      obtain ⟨vs, hv1, hv2⟩ := OW3.out
      have HV1 := Lib.hid (hv1.keep (below_new w3 (.cells #[.slice L3 n3 c3] 22)))
      have HV2 := Lib.hid (hv2.keep (below_new w3 (.cells #[.slice L3 n3 c3] 22)))
      have hS := sl_one w3 22 (.slice L3 n3 c3) rfl
      clear hv1 hv2
      go_wp2_with (first
        | (at_builtin
           refine wpList_append_sl _ rfl (.tmp 13) (.tmp 16) _ rfl w.heap.size 22 i0 _ 24 Tryz.underlying23 hi0 hz0 hz1 hz2 rfl Lf k cl _ rfl HV1.out (some ⟨w3.heap.size, 0, none⟩) 1 1 _ rfl hS (by simp [Value.oneCell']) (by simp only [maxLen]; omega) (by omega) (by simp; omega) ?_
           intro L1 cL1 w6 hL1 hg1 hat1
           have HP6 := Lib.hid (OwnP.push HV1.out HV2.out (Nat.zero_le _) row_ne (I3.out.keep (below_new _ _)) (Away.own (O3.out.keep (below_new _ _))) hL1 hg1)
           have HB6 := Lib.hid (below_grown (below_alloc BL3.out (.cells #[.slice L3 n3 c3] 22)) HV1.out (Nat.le_refl _) hg1)
           clear hL1 hg1 hat1))
      go_roundw
      case rel => exact ⟨k + 1, cL1, L1, by omega, rfl, by go_num, by rw [take_snoc_of hxk.out, List.map_append]; exact HP6, HB6⟩
      case measure => simp [intOf]; omega
    · obtain rfl : k = n := by omega
      have HO : Hid (OwnP 22 3 wr w.heap.size 0 Lf k cl (xss.map sortF)) := by have := hown.out; rw [List.take_of_length_le (by rw [hlen.out]; omega)] at this; exact this
      clear hown
      obtain ⟨vs, hv1, hv2⟩ := HO.out
      rcases hv1.form with ⟨rfl, hn0, hc0, hvs⟩ | ⟨g, cur, rfl, hg, _⟩
      · subst hn0 hc0
        have hx0 : xss = [] := List.eq_nil_of_length_eq_zero hlen.out
        subst hx0
        clear hv1 hv2
        go_wp2_with fail
        refine (Tryz.slices_SortFunc_none_f62 (α := Sm) none 0 _ wr).mono ?_
        rintro e w2 ⟨rfl, rfl⟩
        go_wp2_with (first | (go_at_call 63; go_in))
        go_ret
        exact ⟨none, 0, 0, rfl, OwnP.nil _ _ _ _ _, hbl.out⟩
      · clear hv1 hv2
        have HSB : Hid (∀ xs ∈ xss.map sortF, ∀ x ∈ xs, -1000000 ≤ x ∧ x ≤ 1000000) := fun xs hxs x hx => by
          obtain ⟨y, hy, rfl⟩ := List.mem_map.1 hxs
          exact HS.out y hy x (sortF_mem.1 hx)
        go_wp2_with fail
        refine (sort_rows w.heap.size 0 g k cl _ wr HO.out (Nat.zero_le _) HSB.out hn).mono ?_
        rintro e w2 ⟨rfl, hg2, yss, hp, hsr, hown2⟩
        have HNF : Hid (compF yss = normF xss) := norm_of hp hsr
        have HO2 := Lib.hid hown2
        have HB2 : Hid (Below w.heap.size w w2) := hbl.out.grown hg2 hbl.out.size (fun k' hk' => by cases hk'; exact hg)
        clear hown2 hg2 hp hsr
        go_wp2_with fail
        refine (compactFunc_rows w.heap.size 0 g k cl yss w2 HO2.out (Nat.zero_le _) hn).mono ?_
        rintro e w3 ⟨n', rfl, hown3, hg3⟩
        rw [HNF.out] at hown3
        have HO3 := Lib.hid hown3
        have HB3 : Hid (Below w.heap.size w w3) := HB2.out.grown hg3 HB2.out.size (fun k' hk' => by cases hk'; exact hg)
        clear hown3 hg3
        go_wp2_with fail
        go_ret
        exact ⟨_, _, _, rfl, HO3.out, HB3.out⟩

end Go.Proofs.YtlfgcblijfflfaaGreat
