/- Contract of the reference's Resolved. (Printed by wip/tools/resref.py.) -/
import Derived.Test.YtabjbpkojbdgaaaRefSort
import Derived.Test.YtabjbpkojbdgaaaRefA
namespace Go.Proofs.Ytabjbpkojbdgaaa
open Go.RowKit

/-- The literals of two clauses, one behind the other, but those of a variable, none twice; none: a literal and its negation. -/
def rsF (v : Int) : List Int → List Int → Option (List Int)
  | [], o => some o
  | x :: r, o => if (x.natAbs : Int) == v then rsF v r o else if hasB o (-x) then none else if hasB o x then rsF v r o else rsF v r (o ++ [x])
def resF (a b : List Int) (v : Int) : List Int × Int :=
  if !hasB a v || !hasB b (-v) then ([], 5) else match rsF v (a ++ b) [] with
    | none => ([], 7)
    | some o => (sortF o, 0)
/-- A row, and a code. -/
def RetRes (l : List Int) (code : Int) (w : World) (e : Ending) (w' : World) : Prop :=
  ∃ L nl cl, e = .returned (.tuple #[.slice L nl cl, .int .i64 code]) ∧ (Ints w' L nl cl l ∧ Own 3 w' w.heap.size L nl cl (l.map (Value.int .i64))) ∧ Below w.heap.size w w'

set_option maxHeartbeats 8000000 in
set_option maxRecDepth 100000 in
theorem resolved_ref (A B : Option Addr) (n c m d : Nat) (xs ys : List Int) (v : Int) (w : World) (h : Ints w A n c xs) (h' : Ints w B m d ys) (hs : ∀ x ∈ xs, -1000000 ≤ x ∧ x ≤ 1000000) (hs' : ∀ x ∈ ys, -1000000 ≤ x ∧ x ≤ 1000000) (hn : n + m ≤ 1000000) (hv : -1000000 ≤ v ∧ v ≤ 1000000)
    (l : List Int) (code : Int) (hr : Hid (resF xs ys v = (l, code))) : Calls Try.prog 68 #[.slice A n c, .slice B m d, .int .i64 v] w (RetRes l code w) := by
  have hbd := h.bd
  have hbd' := h'.bd
  have hlx := Lib.hid h.len
  have hly := Lib.hid h'.len
  obtain ⟨i0, hi0, hz0, hz1, hz2⟩ := info_parts int_info
  have HX := Lib.hid h
  have HY := Lib.hid h'
  have HSX := Lib.hid hs
  have HSY := Lib.hid hs'
  obtain ⟨q1, hq1⟩ : ∃ q, Hid (hasB xs v = q) := ⟨_, rfl⟩
  obtain ⟨q2, hq2⟩ : ∃ q, Hid (hasB ys (-v) = q) := ⟨_, rfl⟩
  clear h h' hs hs'
  have HBAD : Hid ((!q1 || !q2) = true → ([], 5) = (l, code)) := fun hb => by have := hr.out; rw [resF, hq1.out, hq2.out, if_pos hb] at this; exact this
  go_enter Try.func68, Try.ntmps68
  go_wp2_with fail
  refine (has_any _ _ _ xs v w HX.out q1 hq1).mono ?_
  rintro e w1 ⟨rfl, m1, rfl⟩
  cases q1
  · have := HBAD.out (by rfl)
    cases this
    go_wp2_with fail
    go_ret2
    exact ⟨none, 0, 0, rfl, ⟨ints_nil _, Own.nil _ _ _⟩, below_drewN _ _⟩
  · go_wp2_with fail
    refine (has_any _ _ _ ys (-v) _ (HY.out.drewN m1) q2 hq2).mono ?_
    rintro e w2 ⟨rfl, m2, rfl⟩
    cases q2
    · have := HBAD.out (by rfl)
      cases this
      go_wp2_with fail
      go_ret2
      exact ⟨none, 0, 0, rfl, ⟨ints_nil _, Own.nil _ _ _⟩, below_drewN _ _⟩
    · have hr2 : Hid ((match rsF v (xs ++ ys) [] with | none => ([], 7) | some o => (sortF o, 0)) = (l, code)) := by have := hr.out; rw [resF, hq1.out, hq2.out, if_neg (by simp)] at this; exact this
      obtain ⟨R, hR⟩ : ∃ R, Hid (rsF v (xs ++ ys) [] = R) := ⟨_, rfl⟩
      rw [hR.out] at hr2
      clear hr HBAD
      go_wp2_with fail
      go_loopw [8, 9] (fun o i wr => ∃ (k nl cl : Nat) (Lf : Option Addr) (zs : List Int), k ≤ n + m ∧ nl ≤ k ∧ o = .slice Lf nl cl ∧ i = .int .i64 k ∧ Hid (Own 3 wr w.heap.size Lf nl cl (zs.map (Value.int .i64))) ∧ Hid (∀ z ∈ zs, -1000000 ≤ z ∧ z ≤ 1000000) ∧ Hid (Below w.heap.size w wr) ∧ Hid (rsF v ((xs ++ ys).drop k) zs = R)) (fun _ i _ => n + m - (intOf i).toNat)
      case atStart => exact ⟨0, 0, 0, none, [], Nat.zero_le _, Nat.le_refl _, rfl, rfl, Own.nil _ _ _, by simp [Hid], below_drewN _ _, hR⟩
      case round =>
        obtain ⟨k, nl, cl, Lf, zs, hk, hnl, rfl, rfl, hown, hzs, hbl, hgo⟩ := hrel
        have HZI := Lib.hid (hown.out.ints (fun z hz => (by have := hzs.out z hz; unfold I64; omega)))
        have hwz := hbl.out.size
        by_cases hlt : k < n + m
        · by_cases hkn : k < n
          · obtain ⟨b, off, x, rfl, hb, hcell, x1, x2, hxk⟩ := (HX.out.keep hbl.out).round hkn
            have hxb := HSX.out x (List.mem_of_getElem? hxk.out)
            have hxy : Hid ((xs ++ ys)[k]? = some x) := by have hk2 : k < xs.length := by rw [hlx.out]; exact hkn
                                                           rw [List.getElem?_append_left hk2]; exact hxk
            have hgo2 : Hid ((if (x.natAbs : Int) == v then rsF v ((xs ++ ys).drop (k + 1)) zs else if hasB zs (-x) then none else if hasB zs x then rsF v ((xs ++ ys).drop (k + 1)) zs else rsF v ((xs ++ ys).drop (k + 1)) (zs ++ [x])) = R) := by have := hgo.out; rw [drop_cons_of hxy.out, rsF] at this; exact this
            clear hgo
            go_wp2_with fail
            refine (of_any x _ (by omega) (by omega)).mono ?_
            rintro e w3 ⟨rfl, m3, rfl⟩
            have own3 := Lib.hid (hown.out.keep (below_drewN wr m3))
            cases hof : ((x.natAbs : Int) == v)
            · obtain ⟨q3, hq3⟩ : ∃ q, Hid (hasB zs (-x) = q) := ⟨_, rfl⟩
              obtain ⟨q4, hq4⟩ : ∃ q, Hid (hasB zs x = q) := ⟨_, rfl⟩
              have hgo3 : Hid ((if q3 then none else if q4 then rsF v ((xs ++ ys).drop (k + 1)) zs else rsF v ((xs ++ ys).drop (k + 1)) (zs ++ [x])) = R) := by have := hgo2.out; rw [hof, hq3.out, hq4.out] at this; simpa [Hid] using this
              clear hgo2
              go_wp2_with fail
              refine (has_any _ _ _ zs (-x) _ (HZI.out.drewN m3) q3 hq3).mono ?_
              rintro e w4 ⟨rfl, m4, rfl⟩
              cases q3
              · go_wp2_with fail
                refine (has_any _ _ _ zs x _ (HZI.out.drewN (m3 + m4)) q4 hq4).mono ?_
                rintro e w5 ⟨rfl, m5, rfl⟩
                cases q4
                · obtain ⟨wq, hwq⟩ : ∃ wq : World, wq = wr.drewN (m3 + m4 + m5) := ⟨_, rfl⟩
                  have hbq : Below wr.heap.size wr wq := by rw [hwq]; exact below_drewN _ _
                  have ownq := Lib.hid (hown.out.keep hbq)
                  have blq := Lib.hid (below_next hbl.out hbq)
                  have eqw : (wr.drewN (m3 + m4)).drewN m5 = wq := by rw [hwq, World.drewN_drewN]
                  (try rw [eqw])
                  (try rw [← hwq])
                  have hqz := blq.out.size
                  have hS := ints_made wq 3 [x] rfl (by simp [I64]; omega) (by simp [maxLen])
                  clear hwq eqw hbq
                  go_wp2_with (first
                    | (at_builtin
                       refine wpList_append_sl _ rfl (.tmp 58) (.tmp 60) _ rfl w.heap.size 3 i0 _ 8 Try.underlying25 hi0 hz0 hz1 hz2 rfl Lf nl cl _ rfl (ownq.out.keep (below_new _ _)) (some ⟨wq.heap.size, 0, none⟩) 1 1 _ rfl hS.sl (ints_one _) (by simp only [maxLen]; omega) (by omega) (by simp; omega) ?_
                       intro L1 cL1 w6 hL1 hg1 hat1
                       have HL1 := Lib.hid hL1
                       have HB6 := Lib.hid (below_grown (below_alloc blq.out (.cells #[.int .i64 x] 3)) (ownq.out.keep (below_new wq (.cells #[.int .i64 x] 3))) (Nat.le_refl _) hg1)
                       clear hL1 hg1 hat1))
                  go_roundw
                  case rel =>
                    refine ⟨k + 1, nl + 1, cL1, L1, zs ++ [x], by omega, by omega, rfl, by go_num, by rw [List.map_append]; exact HL1, ?_, HB6, by have := hgo3.out; simpa [Hid] using this⟩
                    intro z hz
                    rcases List.mem_append.1 hz with hz | hz
                    · exact hzs.out z hz
                    · simp at hz; subst hz; exact hxb
                  case measure => simp [intOf]; omega
                · go_wp2_with fail
                  go_roundw
                  case rel => exact ⟨k + 1, nl, cl, Lf, zs, by omega, by omega, rfl, by go_num, hown.out.keep (below_drewN _ _), hzs, below_next hbl.out (below_drewN _ _), by have := hgo3.out; simpa [Hid] using this⟩
                  case measure => simp [intOf]; omega
              · have hfin : ([], (7 : Int)) = (l, code) := by have h1 := hgo3.out; simp at h1; have := hr2.out; rw [← h1] at this; exact this
                obtain ⟨rfl, rfl⟩ : [] = l ∧ 7 = code := by simpa using hfin
                go_wp2_with fail
                go_ret2
                exact ⟨none, 0, 0, rfl, ⟨ints_nil _, Own.nil _ _ _⟩, below_next hbl.out (below_drewN _ _)⟩
            · have hgo3 : Hid (rsF v ((xs ++ ys).drop (k + 1)) zs = R) := by have := hgo2.out; rw [hof] at this; simpa [Hid] using this
              go_wp2_with fail
              go_roundw
              case rel => exact ⟨k + 1, nl, cl, Lf, zs, by omega, by omega, rfl, by go_num, own3, hzs, below_next hbl.out (below_drewN _ _), hgo3⟩
              case measure => simp [intOf]; omega
          · obtain ⟨j, rfl⟩ : ∃ j, k = n + j := ⟨k - n, by omega⟩
            obtain ⟨b, off, x, rfl, hb, hcell, x1, x2, hxk⟩ := (HY.out.keep hbl.out).round (k := j) (by omega)
            have hxb := HSY.out x (List.mem_of_getElem? hxk.out)
            have hxy : Hid ((xs ++ ys)[n + j]? = some x) := by rw [List.getElem?_append_right (by rw [hlx.out]; omega), hlx.out, Nat.add_sub_cancel_left]; exact hxk
            have y1 : ((n + j : Nat) : Int) - (n : Int) = (j : Int) := by omega
            have y2 : (0 : Int) ≤ (j : Int) := by omega
            have y3 : (j : Int) < (m : Int) := by omega
            have dk : decide (n + j < n) = false := decide_eq_false (by omega)
            have hgo2 : Hid ((if (x.natAbs : Int) == v then rsF v ((xs ++ ys).drop (n + j + 1)) zs else if hasB zs (-x) then none else if hasB zs x then rsF v ((xs ++ ys).drop (n + j + 1)) zs else rsF v ((xs ++ ys).drop (n + j + 1)) (zs ++ [x])) = R) := by have := hgo.out; rw [drop_cons_of hxy.out, rsF] at this; exact this
            clear hgo
            go_wp2_with fail
            refine (of_any x _ (by omega) (by omega)).mono ?_
            rintro e w3 ⟨rfl, m3, rfl⟩
            have own3 := Lib.hid (hown.out.keep (below_drewN wr m3))
            cases hof : ((x.natAbs : Int) == v)
            · obtain ⟨q3, hq3⟩ : ∃ q, Hid (hasB zs (-x) = q) := ⟨_, rfl⟩
              obtain ⟨q4, hq4⟩ : ∃ q, Hid (hasB zs x = q) := ⟨_, rfl⟩
              have hgo3 : Hid ((if q3 then none else if q4 then rsF v ((xs ++ ys).drop (n + j + 1)) zs else rsF v ((xs ++ ys).drop (n + j + 1)) (zs ++ [x])) = R) := by have := hgo2.out; rw [hof, hq3.out, hq4.out] at this; simpa [Hid] using this
              clear hgo2
              go_wp2_with fail
              refine (has_any _ _ _ zs (-x) _ (HZI.out.drewN m3) q3 hq3).mono ?_
              rintro e w4 ⟨rfl, m4, rfl⟩
              cases q3
              · go_wp2_with fail
                refine (has_any _ _ _ zs x _ (HZI.out.drewN (m3 + m4)) q4 hq4).mono ?_
                rintro e w5 ⟨rfl, m5, rfl⟩
                cases q4
                · obtain ⟨wq, hwq⟩ : ∃ wq : World, wq = wr.drewN (m3 + m4 + m5) := ⟨_, rfl⟩
                  have hbq : Below wr.heap.size wr wq := by rw [hwq]; exact below_drewN _ _
                  have ownq := Lib.hid (hown.out.keep hbq)
                  have blq := Lib.hid (below_next hbl.out hbq)
                  have eqw : (wr.drewN (m3 + m4)).drewN m5 = wq := by rw [hwq, World.drewN_drewN]
                  (try rw [eqw])
                  (try rw [← hwq])
                  have hqz := blq.out.size
                  have hS := ints_made wq 3 [x] rfl (by simp [I64]; omega) (by simp [maxLen])
                  clear hwq eqw hbq
                  go_wp2_with (first
                    | (at_builtin
                       refine wpList_append_sl _ rfl (.tmp 58) (.tmp 60) _ rfl w.heap.size 3 i0 _ 8 Try.underlying25 hi0 hz0 hz1 hz2 rfl Lf nl cl _ rfl (ownq.out.keep (below_new _ _)) (some ⟨wq.heap.size, 0, none⟩) 1 1 _ rfl hS.sl (ints_one _) (by simp only [maxLen]; omega) (by omega) (by simp; omega) ?_
                       intro L1 cL1 w6 hL1 hg1 hat1
                       have HL1 := Lib.hid hL1
                       have HB6 := Lib.hid (below_grown (below_alloc blq.out (.cells #[.int .i64 x] 3)) (ownq.out.keep (below_new wq (.cells #[.int .i64 x] 3))) (Nat.le_refl _) hg1)
                       clear hL1 hg1 hat1))
                  go_roundw
                  case rel =>
                    refine ⟨n + j + 1, nl + 1, cL1, L1, zs ++ [x], by omega, by omega, rfl, by go_num, by rw [List.map_append]; exact HL1, ?_, HB6, by have := hgo3.out; simpa [Hid] using this⟩
                    intro z hz
                    rcases List.mem_append.1 hz with hz | hz
                    · exact hzs.out z hz
                    · simp at hz; subst hz; exact hxb
                  case measure => simp [intOf]; omega
                · go_wp2_with fail
                  go_roundw
                  case rel => exact ⟨n + j + 1, nl, cl, Lf, zs, by omega, by omega, rfl, by go_num, hown.out.keep (below_drewN _ _), hzs, below_next hbl.out (below_drewN _ _), by have := hgo3.out; simpa [Hid] using this⟩
                  case measure => simp [intOf]; omega
              · have hfin : ([], (7 : Int)) = (l, code) := by have h1 := hgo3.out; simp at h1; have := hr2.out; rw [← h1] at this; exact this
                obtain ⟨rfl, rfl⟩ : [] = l ∧ 7 = code := by simpa using hfin
                go_wp2_with fail
                go_ret2
                exact ⟨none, 0, 0, rfl, ⟨ints_nil _, Own.nil _ _ _⟩, below_next hbl.out (below_drewN _ _)⟩
            · have hgo3 : Hid (rsF v ((xs ++ ys).drop (n + j + 1)) zs = R) := by have := hgo2.out; rw [hof] at this; simpa [Hid] using this
              go_wp2_with fail
              go_roundw
              case rel => exact ⟨n + j + 1, nl, cl, Lf, zs, by omega, by omega, rfl, by go_num, own3, hzs, below_next hbl.out (below_drewN _ _), hgo3⟩
              case measure => simp [intOf]; omega
        · have hend : Hid (some zs = R) := by have := hgo.out; rw [List.drop_of_length_le (by rw [List.length_append, hlx.out, hly.out]; omega), rsF] at this; exact this
          have hfin : (sortF zs, 0) = (l, code) := by have := hr2.out; rw [← hend.out] at this; exact this
          obtain ⟨rfl, rfl⟩ : sortF zs = l ∧ 0 = code := by simpa using hfin
          clear hfin
          go_wp2_with fail
          refine (sorted_ref _ _ _ zs _ HZI.out hzs.out (by omega)).mono ?_
          rintro e w5 ⟨L5, n5, c5, rfl, hown5, hb5⟩
          have HI5 := Lib.hid (hown5.ints (fun z hz => (by have := hzs.out z (sortF_mem.1 hz); unfold I64; omega)))
          have HB5 := Lib.hid (below_next hbl.out hb5)
          have HO5 := Lib.hid (hown5.mono (base' := w.heap.size) hbl.out.size)
          clear hown5 hb5
          go_wp2_with fail
          go_ret2
          exact ⟨L5, n5, c5, rfl, ⟨HI5.out, HO5.out⟩, HB5.out⟩
end Go.Proofs.Ytabjbpkojbdgaaa
