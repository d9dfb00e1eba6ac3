/- Contracts of res.Resolve, res.one. (Printed by wip/tools/resolve.py.) -/
import Derived.Test.YtabjbpkojbdgaaaResPlain
import Derived.Test.YtabjbpkojbdgaaaSorted
import Derived.Test.YtabjbpkojbdgaaaConcat
import Derived.Test.YtabjbpkojbdgaaaCnfA
import Derived.Test.YtabjbpkojbdgaaaTail
import Derived.Test.YtabjbpkojbdgaaaBoxes
namespace Go.Proofs.Ytabjbpkojbdgaaa
set_option linter.unusedSimpArgs false
open Go.RowKit

/-- A row of the call's own, and whether there is one. -/
def RetResB (R : Option (List Int)) (w : World) (e : Ending) (w' : World) : Prop :=
  ∃ L nl cl, e = .returned (.tuple #[.slice L nl cl, .bool R.isSome]) ∧ Own 3 w' w.heap.size L nl cl ((sortF (R.getD [])).map (Value.int .i64)) ∧ Below w.heap.size w w'
theorem sortF_nil : sortF [] = [] := rfl

set_option maxHeartbeats 4000000 in
set_option maxRecDepth 100000 in
theorem resolve_any (A B : Option Addr) (n c m d : Nat) (xs ys : List Int) (v : Int) (w : World) (h : Ints w A n c xs) (h' : Ints w B m d ys) (hs : ∀ x ∈ xs, -1000000 ≤ x ∧ x ≤ 1000000) (hs' : ∀ x ∈ ys, -1000000 ≤ x ∧ x ≤ 1000000) (hn : n + m ≤ 1000000)
    (R : Option (List Int)) (hr : Hid (rsP v (xs ++ ys) [] = R)) : Calls Try.prog 101 #[.slice A n c, .slice B m d, .int .i64 v] w (RetResB R w) := by
  have hbd := h.bd
  have hbd' := h'.bd
  have hlx := Lib.hid h.len
  have hly := Lib.hid h'.len
  obtain ⟨i0, hi0, hz0, hz1, hz2⟩ := info_parts int_info
  have HG := Lib.hid (grid2 (w := w) 25 rfl h h')
  have HS : Hid (∀ x ∈ xs ++ ys, -1000000 ≤ x ∧ x ≤ 1000000) := fun x hx => by
    rcases List.mem_append.1 hx with hx | hx
    · exact hs x hx
    · exact hs' x hx
  have hfl : Hid ([xs, ys].flatten = xs ++ ys) := by simp [Hid]
  clear h h' hs hs'
  go_enter Try.func101, Try.ntmps101
  go_wp2_with fail
  refine (concat_ints _ _ _ [xs, ys] _ HG.out (by rw [hfl.out, List.length_append, hlx.out, hly.out]; omega)).mono ?_
  rintro e w1 ⟨L1, n1, c1, rfl, hown1, hb1⟩
  rw [hfl.out] at hown1
  have HL := Lib.hid (hown1.ints (fun z hz => (by have := HS.out z hz; unfold I64; omega)))
  have hl1 := Lib.hid HL.out.len
  have hbd1 := HL.out.bd
  have hn1 : n1 = n + m := by have h1 := hl1.out; rw [List.length_append, hlx.out, hly.out] at h1; omega
  have HB1 := Lib.hid (below_box hb1).1
  clear hown1 hb1 HG
  go_wp2_with fail
  go_loopw [8, 16] (fun o i wr => ∃ (k nl cl : Nat) (Lf : Option Addr) (zs : List Int), k ≤ n1 ∧ nl ≤ k ∧ o = .slice Lf nl cl ∧ i = .int .i64 k ∧ Hid (Own 3 wr w1.heap.size Lf nl cl (zs.map (Value.int .i64))) ∧ Hid (∀ z ∈ zs, -1000000 ≤ z ∧ z ≤ 1000000) ∧ Hid (Below w1.heap.size w1 wr) ∧ Hid (rsP v ((xs ++ ys).drop k) zs = R)) (fun _ i _ => n1 - (intOf i).toNat)
  case atStart => exact ⟨0, 0, 0, none, [], Nat.zero_le _, Nat.le_refl _, rfl, rfl, Own.nil _ _ _, by simp [Hid], Below.refl _ _, hr⟩
  case round =>
    obtain ⟨k, nl, cl, Lf, zs, hk, hnl, rfl, rfl, hown, hzs, hbl, hgo⟩ := hrel
    have HZI := Lib.hid (hown.out.ints (fun z hz => (by have := hzs.out z hz; unfold I64; omega)))
    have hwz := hbl.out.size
    by_cases hlt : k < n1
    · obtain ⟨b, off, x, hLe, hb, hcell, x1, x2, hxk⟩ := (HL.out.keep hbl.out).round hlt
      subst hLe
      have hxb := HS.out x (List.mem_of_getElem? hxk.out)
      have hgo2 : Hid ((if (x.natAbs : Int) == v then rsP v ((xs ++ ys).drop (k + 1)) zs else if hasB zs x then rsP v ((xs ++ ys).drop (k + 1)) zs else if hasB zs (-x) then none else rsP v ((xs ++ ys).drop (k + 1)) (zs ++ [x])) = R) := by have := hgo.out; rw [drop_cons_of hxk.out, rsP] at this; exact this
      clear hgo
      go_wp2_with fail
      refine (var_any x _ (by omega) (by omega)).mono ?_
      rintro e w3 ⟨rfl, m3, rfl⟩
      cases hof : ((x.natAbs : Int) == v)
      · obtain ⟨q3, hq3⟩ : ∃ q, Hid (hasB zs x = q) := ⟨_, rfl⟩
        obtain ⟨q4, hq4⟩ : ∃ q, Hid (hasB zs (-x) = q) := ⟨_, rfl⟩
        have hgo3 : Hid ((if q3 then rsP v ((xs ++ ys).drop (k + 1)) zs else if q4 then none else rsP v ((xs ++ ys).drop (k + 1)) (zs ++ [x])) = R) := by have := hgo2.out; rw [hof, hq3.out, hq4.out] at this; simpa [Hid] using this
        clear hgo2
        go_wp2_with fail
        refine (contains_ints _ _ _ zs x _ (HZI.out.drewN m3) q3 hq3).mono ?_
        rintro e w4 ⟨rfl, m4, rfl⟩
        cases q3
        · go_wp2_with fail
          refine (contains_ints _ _ _ zs (-x) _ (HZI.out.drewN (m3 + m4)) q4 hq4).mono ?_
          rintro e w5 ⟨rfl, m5, rfl⟩
          cases q4
          · obtain ⟨wq, hwq⟩ : ∃ wq : World, wq = wr.drewN (m3 + m4 + m5) := ⟨_, rfl⟩
            have hbq : Below wr.heap.size wr wq := by rw [hwq]; exact below_drewN _ _
            have ownq := Lib.hid (hown.out.keep hbq)
            have blq := Lib.hid (below_next hbl.out hbq)
            have eqw : (wr.drewN (m3 + m4)).drewN m5 = wq := by rw [hwq, World.drewN_drewN]
            (try rw [eqw])
            (try rw [← hwq])
            have hqz := blq.out.size
            have hS := ints_made wq 3 [x] rfl (by simp [I64]; omega) (by simp [maxLen])
            clear hwq eqw hbq
            go_wp2_with (first
              | (at_builtin
                 refine wpList_append_sl _ rfl (.tmp 20) (.tmp 22) _ rfl w1.heap.size 3 i0 _ 8 Try.underlying25 hi0 hz0 hz1 hz2 rfl Lf nl cl _ rfl (ownq.out.keep (below_new _ _)) (some ⟨wq.heap.size, 0, none⟩) 1 1 _ rfl hS.sl (ints_one _) (by simp only [maxLen]; omega) (by omega) (by simp; omega) ?_
                 intro L1 cL1 w6 hL1 hg1 hat1
                 have HL1 := Lib.hid hL1
                 have HB6 := Lib.hid (below_grown (below_alloc blq.out (.cells #[.int .i64 x] 3)) (ownq.out.keep (below_new wq (.cells #[.int .i64 x] 3))) (Nat.le_refl _) hg1)
                 clear hL1 hg1 hat1))
            go_roundw
            case rel =>
              refine ⟨k + 1, nl + 1, cL1, L1, zs ++ [x], by omega, by omega, rfl, by go_num, by rw [List.map_append]; exact HL1, ?_, HB6, by have := hgo3.out; simpa [Hid] using this⟩
              intro z hz
              rcases List.mem_append.1 hz with hz | hz
              · exact hzs.out z hz
              · simp at hz; subst hz; exact hxb
            case measure => simp [intOf]; omega
          · have hfin : none = R := by have h1 := hgo3.out; simpa using h1
            subst hfin
            go_wp2_with fail
            go_ret2
            exact ⟨none, 0, 0, rfl, Own.nil _ _ _, below_next HB1.out (below_next hbl.out (below_drewN _ _))⟩
        · go_wp2_with fail
          go_roundw
          case rel => exact ⟨k + 1, nl, cl, Lf, zs, by omega, by omega, rfl, by go_num, hown.out.keep (below_drewN _ _), hzs, below_next hbl.out (below_drewN _ _), by have := hgo3.out; simpa [Hid] using this⟩
          case measure => simp [intOf]; omega
      · have hgo3 : Hid (rsP v ((xs ++ ys).drop (k + 1)) zs = R) := by have := hgo2.out; rw [hof] at this; simpa [Hid] using this
        go_wp2_with fail
        go_roundw
        case rel => exact ⟨k + 1, nl, cl, Lf, zs, by omega, by omega, rfl, by go_num, hown.out.keep (below_drewN _ _), hzs, below_next hbl.out (below_drewN _ _), hgo3⟩
        case measure => simp [intOf]; omega
    · have hend : some zs = R := by have := hgo.out; rw [List.drop_of_length_le (by rw [hl1.out]; omega), rsP] at this; exact this
      subst hend
      go_wp2_with fail
      refine (sorted_any _ _ _ zs _ HZI.out hzs.out (by omega)).mono ?_
      rintro e w5 ⟨L5, n5, c5, rfl, hown5, hb5⟩
      have HO5 := Lib.hid (hown5.mono (base' := w.heap.size) (by have := HB1.out.size; omega))
      have HB5 := Lib.hid (below_next HB1.out (below_next hbl.out hb5))
      clear hown5 hb5
      go_wp2_with fail
      go_ret2
      exact ⟨L5, n5, c5, rfl, HO5.out, HB5.out⟩

theorem in_any (x : Int) (n c : Nat) (A : Option Addr) (g : Nat) (w : World) (hc : w.cell? ⟨g, 0, none⟩ = some (.slice A n c)) (hn : n ≤ 9223372036854775807) (r : Bool) (hr : Hid ((decide (0 ≤ x) && decide (x < n)) = r)) :
    Calls Try.prog 103 #[.int .i64 x, .pointer (some ⟨g, 0, none⟩)] w (RetQ (.bool r) w) := by
  have _h := hn
  have hlt := (cell_lt hc).1
  by_cases h0 : 0 ≤ x
  · have d0 : decide (0 ≤ x) = true := decide_eq_true h0
    have hr2 : Hid (decide (x < n) = r) := by have := hr.out; rw [d0] at this; simpa [Hid] using this
    by_cases h1 : x < n
    · have d1 : decide (x < n) = true := decide_eq_true h1
      have : true = r := by rw [← hr2.out, d1]
      subst this
      go_enter Try.func103, Try.ntmps103
      go_wp2_with fail
      go_ret
      exact RetQ.of0 rfl
    · have d1 : decide (x < n) = false := decide_eq_false h1
      have : false = r := by rw [← hr2.out, d1]
      subst this
      go_enter Try.func103, Try.ntmps103
      go_wp2_with fail
      go_ret
      exact RetQ.of0 rfl
  · have d0 : decide (0 ≤ x) = false := decide_eq_false h0
    have : false = r := by rw [← hr.out, d0]; rfl
    subst this
    go_enter Try.func103, Try.ntmps103
    go_wp2_with fail
    go_ret
    exact RetQ.of0 rfl

/-- A row of the call's own, and a code. -/
def RetOne (l : List Int) (code : Int) (w : World) (e : Ending) (w' : World) : Prop :=
  ∃ L nl cl, e = .returned (.tuple #[.slice L nl cl, .int .i64 code]) ∧ Own 3 w' w.heap.size L nl cl (l.map (Value.int .i64)) ∧ Below w.heap.size w w'
theorem enters_in : ∀ args w, (callFunc 103 args).run Try.prog w = .ok (.enter 103 args) w := enters_of Try.func103 (by kernel_rfl) rfl

set_option maxHeartbeats 4000000 in
set_option maxRecDepth 100000 in
theorem one_any (A : Option Addr) (n c : Nat) (all : List (List Int)) (r1 r2 r3 vars : Int) (w : World) (h : Grid w A n c all) (h1 : I64 r1) (h2 : I64 r2) (h3 : I64 r3) (hl : ∀ x ∈ all, Lits vars x) (v0 : 0 ≤ vars) (v1 : vars ≤ 1000)
    (l : List Int) (code : Int) (hr : Hid (oneF vars all (r1, r2, r3) = (l, code))) :
    Calls Try.prog 70 #[.slice A n c, .agg #[.int .i64 r1, .int .i64 r2, .int .i64 r3], .int .i64 vars] w (RetOne l code w) := by
  have hbd := h.bd
  have hlen := Lib.hid h.len
  have hn63 : n ≤ 9223372036854775807 := by omega
  unfold I64 at h1 h2 h3
  have ei := enters_in
  have G := Lib.hid h
  have HLT := Lib.hid hl
  obtain ⟨q1, hq1⟩ : ∃ q, Hid ((decide (0 ≤ r1) && decide (r1 < n)) = q) := ⟨_, rfl⟩
  obtain ⟨q2, hq2⟩ : ∃ q, Hid ((decide (0 ≤ r2) && decide (r2 < n)) = q) := ⟨_, rfl⟩
  have hrun : ∀ W : World, W = (w.alloc (.cells #[.slice A n c] 22)).alloc (.cells #[.int .i64 r1, .int .i64 r2, .int .i64 r3] 75) → Blk W w.heap.size 22 #[.slice A n c] ∧ Blk W (w.heap.size + 1) 75 #[.int .i64 r1, .int .i64 r2, .int .i64 r3] ∧ Below w.heap.size w W ∧ w.heap.size + 2 ≤ W.heap.size := by
    intro W hW
    subst hW
    exact two_blks (Below.refl _ _)
  clear h hl
  go_enter Try.func70, Try.ntmps70
  go_wp2_with fail
  obtain ⟨w1, hw1⟩ : ∃ w1 : World, w1 = (w.alloc (.cells #[.slice A n c] 22)).alloc (.cells #[.int .i64 r1, .int .i64 r2, .int .i64 r3] 75) := ⟨_, rfl⟩
  obtain ⟨K1, K2, B1, l1⟩ := hrun w1 hw1
  rw [← hw1]
  have c0 := K1.cell 0
  have d0 := K2.cell 0
  have d1 := K2.cell 1
  have d2 := K2.cell 2
  simp at c0 d0 d1 d2
  have G1 := Lib.hid (G.out.keep B1)
  have HB := Lib.hid B1
  have l2 : w.heap.size < w1.heap.size := by omega
  have l3 : w.heap.size + 1 < w1.heap.size := by omega
  clear hrun hw1 K1 K2 B1 G
  refine (in_any r1 n c A w.heap.size w1 c0 hn63 q1 hq1).mono ?_
  rintro e w2 ⟨rfl, m2, rfl⟩
  have HBAD : Hid (outB vars n (r1, r2, r3) = true → ([], (3 : Int)) = (l, code)) := fun hb => by have := hr.out; rw [oneF, hlen.out, if_pos hb] at this; exact this
  cases q1
  · have hb := HBAD.out (by have := hq1.out; unfold outB; simp at this ⊢; omega)
    obtain ⟨rfl, rfl⟩ : [] = l ∧ 3 = code := by simpa using hb
    go_wp2_with fail
    go_ret2
    exact ⟨none, 0, 0, rfl, Own.nil _ _ _, below_next HB.out (below_drewN _ _)⟩
  have b0 := keepBox (below_drewN w1 m2) c0
  go_wp2_with fail
  refine (in_any r2 n c A w.heap.size _ b0 hn63 q2 hq2).mono ?_
  rintro e w3 ⟨rfl, m3, rfl⟩
  clear b0
  cases q2
  · have hb := HBAD.out (by have := hq2.out; unfold outB; simp at this ⊢; omega)
    obtain ⟨rfl, rfl⟩ : [] = l ∧ 3 = code := by simpa using hb
    go_wp2_with fail
    go_ret2
    exact ⟨none, 0, 0, rfl, Own.nil _ _ _, below_next HB.out (below_drewN _ _)⟩
  by_cases hv1 : r3 < 1
  · have hb := HBAD.out (by unfold outB; simp; omega)
    obtain ⟨rfl, rfl⟩ : [] = l ∧ 3 = code := by simpa using hb
    go_wp2_with fail
    go_ret2
    exact ⟨none, 0, 0, rfl, Own.nil _ _ _, below_next HB.out (below_drewN _ _)⟩
  by_cases hv2 : vars < r3
  · have hb := HBAD.out (by unfold outB; simp; omega)
    obtain ⟨rfl, rfl⟩ : [] = l ∧ 3 = code := by simpa using hb
    go_wp2_with fail
    go_ret2
    exact ⟨none, 0, 0, rfl, Own.nil _ _ _, below_next HB.out (below_drewN _ _)⟩
  have hi1 : 0 ≤ r1 ∧ r1 < n := by have := hq1.out; simpa using this
  have hi2 : 0 ≤ r2 ∧ r2 < n := by have := hq2.out; simpa using this
  obtain ⟨k1, rfl⟩ : ∃ k : Nat, r1 = k := ⟨r1.toNat, by omega⟩
  obtain ⟨k2, rfl⟩ : ∃ k : Nat, r2 = k := ⟨r2.toNat, by omega⟩
  have hk1 : k1 < n := by omega
  have hk2 : k2 < n := by omega
  obtain ⟨wq, hwq⟩ : ∃ wq : World, wq = w1.drewN (m2 + m3) := ⟨_, rfl⟩
  have hbq : Below w1.heap.size w1 wq := by rw [hwq]; exact below_drewN _ _
  have GQ := Lib.hid (G1.out.keep hbq)
  obtain ⟨b0, off, A1, n1, c1, xs, hAe, hb0, e1, hx, hxk⟩ := GQ.out.round hk1
  subst hAe
  obtain ⟨b0', off', A2, n2, c2, ys, hAe, hb0', e2, hy, hyk⟩ := GQ.out.round hk2
  cases hAe
  have HX := Lib.hid hx
  have HY := Lib.hid hy
  have HBQ := Lib.hid (below_next HB.out hbq)
  have lx := HLT.out xs (List.mem_of_getElem? hxk.out)
  have ly := HLT.out ys (List.mem_of_getElem? hyk.out)
  have bx : n1 ≤ 1000 := by have h1 := lx.len_le v0; rw [hx.len] at h1; omega
  have by' : n2 ≤ 1000 := by have h1 := ly.len_le v0; rw [hy.len] at h1; omega
  have HXB : Hid (∀ x ∈ xs, -1000000 ≤ x ∧ x ≤ 1000000) := fun x hx => by have := lx.1 x hx; omega
  have HYB : Hid (∀ x ∈ ys, -1000000 ≤ x ∧ x ≤ 1000000) := fun x hx => by have := ly.1 x hx; omega
  have hres : Hid (resF xs ys r3 = (l, code)) := by
    have := hr.out
    rw [oneF, hlen.out, if_neg (by rw [outB_iff.2]; · simp
                                   · refine ⟨⟨?_, ?_⟩, ⟨?_, ?_⟩, ?_, ?_⟩ <;> simp <;> omega)] at this
    simp only [Int.toNat_natCast, List.getD_eq_getElem?_getD, hxk.out, hyk.out, Option.getD_some] at this
    exact this
  have hrs : Hid (rsP r3 (xs ++ ys) [] = rsF r3 (xs ++ ys) []) := rsP_eq r3 _ _ (fun x hx => by
    rcases List.mem_append.1 hx with hx | hx
    · exact (lx.1 x hx).1
    · exact (ly.1 x hx).1) (by simp)
  have z1 := keepBox hbq c0
  have z2 := keepBox hbq d0
  have z3 := keepBox hbq d1
  have z4 := keepBox hbq d2
  have lq1 : w.heap.size < wq.heap.size := (cell_lt z1).1
  have lq2 : w.heap.size + 1 < wq.heap.size := (cell_lt z2).1
  have eqw : (w1.drewN m2).drewN m3 = wq := by rw [hwq, World.drewN_drewN]
  (try rw [eqw])
  (try rw [← hwq])
  have y1 : (0 : Int) ≤ (k1 : Int) := by omega
  have y2 : (k1 : Int) < (n : Int) := by omega
  have y3 : (0 : Int) ≤ (k2 : Int) := by omega
  have y4 : (k2 : Int) < (n : Int) := by omega
  have y5 : IntKind.i64.wrap (-r3) = -r3 := IntWalk.i64_in _ (by omega)
  obtain ⟨p1, hp1⟩ : ∃ q, Hid (hasB xs r3 = q) := ⟨_, rfl⟩
  obtain ⟨p2, hp2⟩ : ∃ q, Hid (hasB ys (-r3) = q) := ⟨_, rfl⟩
  have HBAD2 : Hid ((!p1 || !p2) = true → ([], (5 : Int)) = (l, code)) := fun hb => by have := hres.out; rw [resF, hp1.out, hp2.out, if_pos hb] at this; exact this
  clear hwq eqw hbq c0 d0 d1 d2 lx ly HBAD G1 GQ hq1 hq2 l2 l3 hx hy l1
  cases p1
  · have hb := HBAD2.out (by rfl)
    obtain ⟨rfl, rfl⟩ : [] = l ∧ 5 = code := by simpa using hb
    go_wp2_with fail
    go_quiet ((first | (go_at_call 52; with_reducible exact RetQ.quiet (contains_ints _ _ _ xs r3 _ (HX.out.drewN _) _ hp1)) | (go_at_call 52; exact RetQ.quiet (contains_ints _ _ _ ys (-r3) _ (HY.out.drewN _) _ hp2))))
    go_wp2_with fail
    go_ret2
    exact ⟨none, 0, 0, rfl, Own.nil _ _ _, below_next HBQ.out (below_drewN _ _)⟩
  cases p2
  · have hb := HBAD2.out (by rfl)
    obtain ⟨rfl, rfl⟩ : [] = l ∧ 5 = code := by simpa using hb
    go_wp2_with fail
    go_quiet ((first | (go_at_call 52; with_reducible exact RetQ.quiet (contains_ints _ _ _ xs r3 _ (HX.out.drewN _) _ hp1)) | (go_at_call 52; exact RetQ.quiet (contains_ints _ _ _ ys (-r3) _ (HY.out.drewN _) _ hp2))))
    go_wp2_with fail
    go_ret2
    exact ⟨none, 0, 0, rfl, Own.nil _ _ _, below_next HBQ.out (below_drewN _ _)⟩
  go_wp2_with fail
  go_quiet ((first | (go_at_call 52; with_reducible exact RetQ.quiet (contains_ints _ _ _ xs r3 _ (HX.out.drewN _) _ hp1)) | (go_at_call 52; exact RetQ.quiet (contains_ints _ _ _ ys (-r3) _ (HY.out.drewN _) _ hp2))))
  obtain ⟨wv, hwv⟩ : ∃ wv : World, wv = wq.drewN nq := ⟨_, rfl⟩
  have hbv : Below wq.heap.size wq wv := by rw [hwv]; exact below_drewN _ _
  (try rw [← hwv])
  have x1 := keepBox hbv z1
  have x2 := keepBox hbv z2
  have x3 := keepBox hbv z3
  have x4 := keepBox hbv z4
  have f1 := keepBox hbv e1
  have f2 := keepBox hbv e2
  have lv1 : w.heap.size < wv.heap.size := (cell_lt x1).1
  have lv2 : w.heap.size + 1 < wv.heap.size := (cell_lt x2).1
  have HXV := Lib.hid (HX.out.keep hbv)
  have HYV := Lib.hid (HY.out.keep hbv)
  have HBV := Lib.hid (below_next HBQ.out hbv)
  clear hwv hbv z1 z2 z3 z4 e1 e2 HBQ HX HY
  go_wp2_with fail
  have hS : wv.drew.cell? ⟨w.heap.size, 0, none⟩ = some (.slice (some ⟨b0, off, none⟩) n c) ∧ wv.drew.cell? ⟨w.heap.size + 1, 0, none⟩ = some (.int .i64 k1) ∧ wv.drew.cell? ⟨w.heap.size + 1, 1, none⟩ = some (.int .i64 k2) ∧ wv.drew.cell? ⟨w.heap.size + 1, 2, none⟩ = some (.int .i64 r3) ∧ wv.drew.cell? ⟨b0, off + k1, none⟩ = some (.slice A1 n1 c1) ∧ wv.drew.cell? ⟨b0, off + k2, none⟩ = some (.slice A2 n2 c2) := ⟨keepBox (below_drewN wv 1) x1, keepBox (below_drewN wv 1) x2, keepBox (below_drewN wv 1) x3, keepBox (below_drewN wv 1) x4, keepBox (below_drewN wv 1) f1, keepBox (below_drewN wv 1) f2⟩
  refine wp_region_tail (fun w' => w'.cell? ⟨w.heap.size, 0, none⟩ = some (.slice (some ⟨b0, off, none⟩) n c) ∧ w'.cell? ⟨w.heap.size + 1, 0, none⟩ = some (.int .i64 k1) ∧ w'.cell? ⟨w.heap.size + 1, 1, none⟩ = some (.int .i64 k2) ∧ w'.cell? ⟨w.heap.size + 1, 2, none⟩ = some (.int .i64 r3) ∧ w'.cell? ⟨b0, off + k1, none⟩ = some (.slice A1 n1 c1) ∧ w'.cell? ⟨b0, off + k2, none⟩ = some (.slice A2 n2 c2)) [] (by kernel_rfl) ?_
  refine takeS (i := 0) (oi := _) (v := ?_) rfl (by kernel_rfl) (by kernel_rfl) (by kernel_rfl) (fun _ _ _ h => h) rfl (by kernel_rfl) (by kernel_rfl) (Or.inl ⟨by rfl, ?_⟩) hS ?_
  rotate_left
  · intro w0 hSw; (try dsimp only at hSw); go_simp; with_reducible rfl
  (try simp only [Act.put, List.setIfInBounds_toArray, List.set_cons_zero, List.set_cons_succ])
  refine take0 (i := 1) (oi := _) (v := ?_) rfl (by kernel_rfl) (by kernel_rfl) (by kernel_rfl) (fun _ _ _ h => h) rfl (Or.inl ⟨by rfl, ?_⟩) (fun _ => hS) ?_
  rotate_left
  · intro w0; go_simp; with_reducible rfl
  (try simp only [Act.put, List.setIfInBounds_toArray, List.set_cons_zero, List.set_cons_succ])
  refine takeS (i := 2) (oi := _) (v := ?_) rfl (by kernel_rfl) (by kernel_rfl) (by kernel_rfl) (fun _ _ _ h => h) rfl (by kernel_rfl) (by kernel_rfl) (Or.inl ⟨by rfl, ?_⟩) hS ?_
  rotate_left
  · intro w0 hSw; (try dsimp only at hSw); go_simp; with_reducible rfl
  (try simp only [Act.put, List.setIfInBounds_toArray, List.set_cons_zero, List.set_cons_succ])
  refine take0 (i := 3) (oi := _) (v := ?_) rfl (by kernel_rfl) (by kernel_rfl) (by kernel_rfl) (fun _ _ _ h => h) rfl (Or.inl ⟨by rfl, ?_⟩) (fun _ => hS) ?_
  rotate_left
  · intro w0; go_simp; with_reducible rfl
  (try simp only [Act.put, List.setIfInBounds_toArray, List.set_cons_zero, List.set_cons_succ])
  refine takeS (i := 4) (oi := _) (v := ?_) rfl (by kernel_rfl) (by kernel_rfl) (by kernel_rfl) (fun _ _ _ h => h) rfl (by kernel_rfl) (by kernel_rfl) (Or.inl ⟨by rfl, ?_⟩) hS ?_
  rotate_left
  · intro w0 hSw; (try dsimp only at hSw); go_simp; with_reducible rfl
  (try simp only [Act.put, List.setIfInBounds_toArray, List.set_cons_zero, List.set_cons_succ])
  refine takeS (i := 5) (oi := _) (v := ?_) rfl (by kernel_rfl) (by kernel_rfl) (by kernel_rfl) (fun _ _ _ h => h) rfl (by kernel_rfl) (by kernel_rfl) (Or.inl ⟨by rfl, ?_⟩) hS ?_
  rotate_left
  · intro w0 hSw; (try dsimp only at hSw); go_simp; with_reducible rfl
  (try simp only [Act.put, List.setIfInBounds_toArray, List.set_cons_zero, List.set_cons_succ])
  refine take0 (i := 6) (oi := _) (v := ?_) rfl (by kernel_rfl) (by kernel_rfl) (by kernel_rfl) (fun _ _ _ h => h) rfl (Or.inl ⟨by rfl, ?_⟩) (fun _ => hS) ?_
  rotate_left
  · intro w0; go_simp; with_reducible rfl
  (try simp only [Act.put, List.setIfInBounds_toArray, List.set_cons_zero, List.set_cons_succ])
  refine takeS (i := 7) (oi := _) (v := ?_) rfl (by kernel_rfl) (by kernel_rfl) (by kernel_rfl) (fun _ _ _ h => h) rfl (by kernel_rfl) (by kernel_rfl) (Or.inl ⟨by rfl, ?_⟩) hS ?_
  rotate_left
  · intro w0 hSw; (try dsimp only at hSw); go_simp; with_reducible rfl
  (try simp only [Act.put, List.setIfInBounds_toArray, List.set_cons_zero, List.set_cons_succ])
  refine take0 (i := 8) (oi := _) (v := ?_) rfl (by kernel_rfl) (by kernel_rfl) (by kernel_rfl) (fun _ _ _ h => h) rfl (Or.inl ⟨by rfl, ?_⟩) (fun _ => hS) ?_
  rotate_left
  · intro w0; go_simp; with_reducible rfl
  (try simp only [Act.put, List.setIfInBounds_toArray, List.set_cons_zero, List.set_cons_succ])
  refine takeS (i := 9) (oi := _) (v := ?_) rfl (by kernel_rfl) (by kernel_rfl) (by kernel_rfl) (fun _ _ _ h => h) rfl (by kernel_rfl) (by kernel_rfl) (Or.inl ⟨by rfl, ?_⟩) hS ?_
  rotate_left
  · intro w0 hSw; (try dsimp only at hSw); go_simp; with_reducible rfl
  (try simp only [Act.put, List.setIfInBounds_toArray, List.set_cons_zero, List.set_cons_succ])
  refine take0 (i := 10) (oi := _) (v := ?_) rfl (by kernel_rfl) (by kernel_rfl) (by kernel_rfl) (fun _ _ _ h => h) rfl (Or.inl ⟨by rfl, ?_⟩) (fun _ => hS) ?_
  rotate_left
  · intro w0; go_simp; with_reducible rfl
  (try simp only [Act.put, List.setIfInBounds_toArray, List.set_cons_zero, List.set_cons_succ])
  refine takeS (i := 11) (oi := _) (v := ?_) rfl (by kernel_rfl) (by kernel_rfl) (by kernel_rfl) (fun _ _ _ h => h) rfl (by kernel_rfl) (by kernel_rfl) (Or.inl ⟨by rfl, ?_⟩) hS ?_
  rotate_left
  · intro w0 hSw; (try dsimp only at hSw); go_simp; with_reducible rfl
  (try simp only [Act.put, List.setIfInBounds_toArray, List.set_cons_zero, List.set_cons_succ])
  refine oneT (i := 12) (by kernel_rfl) rfl (by rfl) (fun K hK => ?_)
  go_simp
  refine (resolve_any _ _ _ _ _ _ xs ys r3 _ (HXV.out.drewN 1) (HYV.out.drewN 1) HXB.out HYB.out (by omega) _ hrs).mono ?_
  rintro e w9 ⟨L9, n9, c9, rfl, hown9, hb9⟩
  have B9 := Lib.hid (below_next (below_drewN wv 1) hb9)
  clear hb9
  have hS : w9.cell? ⟨w.heap.size, 0, none⟩ = some (.slice (some ⟨b0, off, none⟩) n c) ∧ w9.cell? ⟨w.heap.size + 1, 0, none⟩ = some (.int .i64 k1) ∧ w9.cell? ⟨w.heap.size + 1, 1, none⟩ = some (.int .i64 k2) ∧ w9.cell? ⟨w.heap.size + 1, 2, none⟩ = some (.int .i64 r3) ∧ w9.cell? ⟨b0, off + k1, none⟩ = some (.slice A1 n1 c1) ∧ w9.cell? ⟨b0, off + k2, none⟩ = some (.slice A2 n2 c2) := ⟨keepBox B9.out x1, keepBox B9.out x2, keepBox B9.out x3, keepBox B9.out x4, keepBox B9.out f1, keepBox B9.out f2⟩
  refine hK _ _ (fun _ => hS) ?_
  clear hK
  (try simp only [Act.put, List.setIfInBounds_toArray, List.set_cons_zero, List.set_cons_succ])
  refine take0 (i := 13) (oi := _) (v := ?_) rfl (by kernel_rfl) (by kernel_rfl) (by kernel_rfl) (fun _ _ _ h => h) rfl (Or.inl ⟨by rfl, ?_⟩) (fun _ => hS) ?_
  rotate_left
  · intro w0; go_simp; with_reducible rfl
  (try simp only [Act.put, List.setIfInBounds_toArray, List.set_cons_zero, List.set_cons_succ])
  refine take0 (i := 14) (oi := _) (v := ?_) rfl (by kernel_rfl) (by kernel_rfl) (by kernel_rfl) (fun _ _ _ h => h) rfl (Or.inl ⟨by rfl, ?_⟩) (fun _ => hS) ?_
  rotate_left
  · intro w0; go_simp; with_reducible rfl
  (try simp only [Act.put, List.setIfInBounds_toArray, List.set_cons_zero, List.set_cons_succ])
  refine take0 (i := 15) (oi := _) (v := ?_) rfl (by kernel_rfl) (by kernel_rfl) (by kernel_rfl) (fun _ _ _ h => h) rfl (Or.inl ⟨by rfl, ?_⟩) (fun _ => hS) ?_
  rotate_left
  · intro w0; go_simp; with_reducible rfl
  (try simp only [Act.put, List.setIfInBounds_toArray, List.set_cons_zero, List.set_cons_succ])
  refine take0 (i := 16) (oi := _) (v := ?_) rfl (by kernel_rfl) (by kernel_rfl) (by kernel_rfl) (fun _ _ _ h => h) rfl (Or.inl ⟨by rfl, ?_⟩) (fun _ => hS) ?_
  rotate_left
  · intro w0; go_simp; with_reducible rfl
  (try simp only [Act.put, List.setIfInBounds_toArray, List.set_cons_zero, List.set_cons_succ])
  refine take0 (i := 17) (oi := _) (v := ?_) rfl (by kernel_rfl) (by kernel_rfl) (by kernel_rfl) (fun _ _ _ h => h) rfl (Or.inl ⟨by rfl, ?_⟩) (fun _ => hS) ?_
  rotate_left
  · intro w0; go_simp; with_reducible rfl
  (try simp only [Act.put, List.setIfInBounds_toArray, List.set_cons_zero, List.set_cons_succ])
  refine doneT (by kernel_rfl) ?_ _
  have hb9 : Hid (Below w.heap.size w w9) := below_next HBV.out B9.out
  have O9 := Lib.hid (hown9.mono (base' := w.heap.size) (by have := HBV.out.size; simp; omega))
  have hcase : Hid ((match rsF r3 (xs ++ ys) [] with | none => ([], 7) | some o => (sortF o, 0)) = (l, code)) := by have := hres.out; rw [resF, hp1.out, hp2.out, if_neg (by simp)] at this; exact this
  clear hown9
  cases hR : rsF r3 (xs ++ ys) [] with
  | none =>
    rw [hR] at O9
    obtain ⟨rfl, rfl⟩ : [] = l ∧ 7 = code := by have := hcase.out; rw [hR] at this; simpa using this
    (try rw [hR])
    go_wp2_with fail
    go_ret2
    exact ⟨none, 0, 0, rfl, Own.nil _ _ _, hb9.out⟩
  | some zz =>
    rw [hR] at O9
    obtain ⟨rfl, rfl⟩ : sortF zz = l ∧ 0 = code := by have := hcase.out; rw [hR] at this; simpa using this
    (try rw [hR])
    go_wp2_with fail
    go_ret2
    exact ⟨L9, n9, c9, rfl, O9.out, hb9.out⟩
end Go.Proofs.Ytabjbpkojbdgaaa
