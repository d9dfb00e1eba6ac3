/- The walk of the law SubPure. -/
import Derived.Test.YtehhhidjgngibaaPureLaw
import Derived.Test.YtehhhidjgngibaaHolds
import Derived.Test.YtehhhidjgngibaaOrderBumpWalk
namespace Go.Proofs.Ytehhhidjgngibaa
open Go.RowKit

theorem of_same (x : Int) (w : World) (h1 : -9223372036854775807 ≤ x) (h2 : x ≤ 9223372036854775807) : Calls Try.prog 40 #[.int .i64 x] w (fun e w' => e = .returned (.int .i64 x.natAbs) ∧ w' = w) := by
  by_cases h : x < 0
  · go_enter Try.func40, Try.ntmps40
    go_wp2_with fail
    go_ret
    exact ⟨ret_int (by omega), rfl⟩
  · go_enter Try.func40, Try.ntmps40
    go_wp2_with fail
    go_ret
    exact ⟨ret_int (by omega), rfl⟩

set_option maxHeartbeats 4000000 in
set_option maxRecDepth 100000 in
theorem subPure_walk {vars : Int} {A B : Option Addr} {n c m d : Nat} {xss : List (List Int)} {a : List Bool} (w : World) (hv : I64 vars) (h : Grid w A n c xss) (h' : Bools w B m d a) :
    Calls Try.prog 14 #[.agg #[.int .i64 vars, .slice A n c], .slice B m d] w fun e w' => e = .returned (.bool true) ∧ Below w.heap.size w w' := by
  have hbd := h.bd
  have hbd' := h'.bd
  have hal := Lib.hid h'.len
  have hlen := Lib.hid h.len
  obtain ⟨r1, r2, hr⟩ : ∃ r1 r2, Hid (checkC vars xss = (r1, r2)) := ⟨_, _, rfl⟩
  have hk := h.keep (below_new w (.cells #[.int .i64 vars, .slice A n c] 41))
  have hk' := h'.keep (below_new w (.cells #[.int .i64 vars, .slice A n c] 41))
  by_cases hr1 : r1 = 0
  · subst hr1
    obtain ⟨hr0, v0, v1, hn400, hrows⟩ := checkC_ok (vars := vars) (xss := xss) (by rw [hr.out])
    obtain rfl : r2 = 0 := by rw [hr.out] at hr0; simpa using hr0
    rw [hlen.out] at hn400
    have HROWS := Lib.hid hrows
    clear hr0 hrows
    obtain ⟨j0, hj0, hy0, hy1, hy2⟩ := info_parts bool_info
    go_enter Try.func14, Try.ntmps14
    go_wp2_with fail
    refine (pure_own _ _ _ _ _ _ hk hv hr).mono ?_
    rintro e w1 ⟨A1, n1, c1, rfl, G1, hb1⟩
    obtain ⟨c0, c1', l0, B1⟩ := box2 hb1
    have HB1 := Lib.hid B1
    have hbf := below_new w1 (.cells #[.int .i64 0, .int .i64 0] 24)
    have g1 := (hk.keep hb1).keep hbf
    have g1' := (hk'.keep hb1).keep hbf
    have G1' := G1.keep hbf
    have C0 := keepBox hbf c0
    have C1 := keepBox hbf c1'
    have HB2 := Lib.hid (below_next B1 hbf)
    clear hb1 B1 hk hk' G1 c0 c1'
    go_wp2_with fail
    refine (pair_any _).mono ?_
    rintro e w3 ⟨A3, n3, c3, rfl, G3, hb3⟩
    go_wp2_with fail
    refine (pure_own _ _ _ [[1, 2], [-1]] _ _ G3 ⟨by omega, by omega⟩ (by show _ = _; decide)).mono ?_
    rintro e w4 ⟨A4, n4, c4, rfl, G4', hb4⟩
    have G4 : Ints w4 A4 n4 c4 [2] := G4'
    have hb5 := below_next hb3 hb4
    have C0' := keepBox hb5 C0
    have C1' := keepBox hb5 C1
    have l6 : w.heap.size < w4.heap.size := (cell_lt C0').1
    have HB6 := Lib.hid (below_next HB2.out hb5)
    obtain ⟨W, hW⟩ : ∃ W, W = w4.alloc (.cells #[.int .i64 0, .int .i64 0] 24) := ⟨_, rfl⟩
    have hbn : Below w4.heap.size w4 W := by rw [hW]; exact below_new _ _
    have i3 := G4.keep hbn
    have g6 := (g1.keep hb5).keep hbn
    have g6' := (g1'.keep hb5).keep hbn
    have G6 := (G1'.keep hb5).keep hbn
    have E0 := keepBox hbn C0'
    have E1 := keepBox hbn C1'
    have x0 : W.cell? ⟨w4.heap.size, 0, none⟩ = some (.int .i64 0) := by rw [hW]; simp [go_sem]
    have HB7 := Lib.hid (below_next HB6.out hbn)
    have lW : w4.heap.size < W.heap.size := by rw [hW]; simp
    have HW := Lib.hid hW
    clear hW hbn C0' C1' C0 C1 hb5 hb3 hb4 G4 G4' G3 g1 g1' G1' hbf
    go_wp2_with fail
    rw [← HW.out]
    refine (same_any _ _ _ _ _ _ [2] [2] _ (i3.keep (below_new _ _)) (ints_made _ _ [2] (by first | (rw [HW.out]; simp) | simp) (by simp [I64]) (by decide)) true (by rfl)).mono ?_
    rintro e w7 ⟨rfl, m7, rfl⟩
    obtain ⟨V, hV⟩ : ∃ V, V = (W.alloc (.cells (List.map (Value.int .i64) [2]).toArray 3)).drewN m7 := ⟨_, rfl⟩
    have hbV : Below W.heap.size W V := by rw [hV]; exact below_next (below_new _ _) (below_drewN _ _)
    have g8 := g6.keep hbV
    have g8' := g6'.keep hbV
    have G8 := G6.keep hbV
    have D0 := keepBox hbV E0
    have D1 := keepBox hbV E1
    have HB8 := Lib.hid (below_next HB7.out hbV)
    rw [← hV]
    clear hV hbV g6 g6' G6 E0 E1 x0 i3 lW HW l6
    by_cases hmv : (m : Int) = vars
    · have d2 : ((m : Int) != vars) = false := by simpa using hmv
      have hin : ∀ xs ∈ xss, InLits m xs := fun xs hx => (HROWS.out xs hx).2.inLits hmv
      have HIN := Lib.hid hin
      clear hin
      obtain ⟨q, hq⟩ : ∃ q, Hid (allB xss a = q) := ⟨_, rfl⟩
      go_wp2_with fail
      refine (all_ref _ _ _ _ _ _ _ _ _ g8 g8' HIN.out q hq).mono ?_
      rintro e w8 ⟨rfl, m8, rfl⟩
      cases q
      · go_wp2_with fail
        go_ret
        exact ⟨rfl, below_next HB8.out (below_drewN _ _)⟩
      · obtain ⟨U, hU⟩ : ∃ U, U = V.drewN m8 := ⟨_, rfl⟩
        have hbU : Below V.heap.size V U := by rw [hU]; exact below_drewN _ _
        have g9 := g8.keep hbU
        have g9' := g8'.keep hbU
        have G9 := G8.keep hbU
        have F0 := keepBox hbU D0
        have F1 := keepBox hbU D1
        have HB9 := Lib.hid (below_next HB8.out hbU)
        rw [← hU]
        clear hU hbU g8 g8' G8 D0 D1
        have hpl := Lib.hid G9.len
        have hbdP := G9.bd
        have hke := g9'.keep (below_new U (.cells #[] 4))
        go_wp2_with (first
          | (at_builtin
             refine wpList_append_sl _ rfl (.tmp 48) (.tmp 49) _ rfl U.heap.size 4 j0 _ 1 Try.underlying35 hj0 hy0 hy1 hy2 rfl (some ⟨U.heap.size, 0, none⟩) 0 0 [] rfl (own_empty _ _ _ rfl (Nat.le_refl _)) B m d _ rfl hke (bools_one _) (by simp only [maxLen]; omega) (by omega) (by simp) ?_
             intro B2 d2' w9 hown hg hat
             have HOWN := Lib.hid hown
             have HBU := Lib.hid (below_grown (below_new U _) (own_empty 4 U U.heap.size rfl (Nat.le_refl _)) (Nat.le_refl _) hg)
             clear hown hg hat))
        have HOW : Hid (Own 4 w9 U.heap.size B2 m d2' (a.map Value.bool)) := by have := HOWN.out; simpa [Hid] using this
        clear HOWN hke
        go_loopw [10] (fun i wr => ∃ (k : Nat) (bs : List Bool), k ≤ n1 ∧ i = .int .i64 k ∧ Hid (Own 4 wr U.heap.size B2 m d2' (bs.map Value.bool)) ∧ Hid (Below U.heap.size U wr) ∧ Hid (bs = ((pureF vars xss).take k).foldl setL a)) (fun i _ => n1 - (intOf i).toNat)
        case atStart => exact ⟨0, a, Nat.zero_le _, rfl, HOW, HBU, rfl⟩
        case round =>
          obtain ⟨k, bs, hk, rfl, hown, hB, hbs⟩ := hrel
          have f0 := keepBox hB.out F0
          have f1 := keepBox hB.out F1
          clear HOW HBU
          by_cases hlt : k < n1
          · obtain ⟨b, off, y, rfl, hb, hcell, y1, y2, hy⟩ := (G9.keep hB.out).round hlt
            obtain ⟨hy0', hym, _⟩ := pureF_mem (List.mem_of_getElem? hy.out)
            obtain ⟨t, ht⟩ : ∃ t, y.natAbs = t + 1 := ⟨y.natAbs - 1, by omega⟩
            have htm : t < m := by omega
            obtain ⟨g, u, rfl, hg1, hg2, hcu, hfu, hxu⟩ := hown.out.at_ htm
            have y0 : (y == 0) = false := by simpa using hy0'
            have z1 : ¬ vars < (t : Int) + 1 := by omega
            have z2 : (k : Int) < (n1 : Int) := by omega
            have z3 : (t : Int) < (m : Int) := by omega
            have hof : ∀ W, Calls Try.prog 40 #[.int .i64 y] W (RetQ (.int .i64 ((t : Int) + 1)) W) := fun W => by
              have := of_any y W (by omega) (by omega)
              rw [ht] at this
              exact this
            have hof2 : ∀ W, Calls Try.prog 40 #[.int .i64 y] W (fun e w' => e = .returned (.int .i64 ((t : Int) + 1)) ∧ w' = W) := fun W => by
              have := of_same y W (by omega) (by omega)
              rw [ht] at this
              exact this
            have HOF := Lib.hid hof
            have HOF2 := Lib.hid hof2
            have hset : setL bs y = bs.set t (decide (0 < y)) := by unfold setL; rw [ht]; rfl
            have HSET := Lib.hid hset
            clear hof hof2 hset hy0' hym
            go_wp2_with fail
            go_quiet ((go_at_call 40; exact RetQ.quiet (HOF.out _)))
            go_wp2_with fail
            obtain ⟨X, hX⟩ : ∃ X, X = wr.drewN nq := ⟨_, rfl⟩
            have hbX : Below wr.heap.size wr X := by rw [hX]; exact below_drewN _ _
            have hownX := Lib.hid (hown.out.keep hbX)
            have hBX := Lib.hid (below_next hB.out hbX)
            have cX := keepBox hbX hcell
            have uX := keepBox hbX hcu
            have gX : g < X.heap.size := (cell_lt uX).1
            have fX : X.frozen? ⟨g, t, none⟩ = false := World.ownsRow.frozenAt hownX.out t
            have z4 : (0 : Int) ≤ (t : Int) := by omega
            have z5 : (t : Int) + 1 - 1 = (t : Int) := by omega
            have z6 : (0 : Int) ≤ (k : Int) := by omega
            have z7 : IntKind.i64.wrap (t : Int) = (t : Int) := by rw [IntKind.wrap_i64]; omega
            rw [← hX]
            clear hX hbX hcell hcu hfu hown hB
            go_region_with (first
              | (go_at_call 40; refine (HOF2.out _).mono ?_; rintro e w' ⟨rfl, rfl⟩))
            all_goals
              go_wp2_with fail
              go_roundw
              case rel =>
                refine ⟨k + 1, setL bs y, by omega, by go_num, ?_, ?_, ?_⟩
                · rw [HSET.out, List.map_set]
                  exact (hownX.out.set_ t (.bool (decide (0 < y)))).keep (below_drewN _ 1)
                · exact below_next (hBX.out.setCell (p := ⟨g, t, none⟩) hg1 _) (below_drewN _ 1)
                · rw [take_snoc_of hy.out, List.foldl_append, ← hbs.out]; rfl
              case measure => simp [intOf]; omega
          · have hres : Hid (bs = (pureF vars xss).foldl setL a) := by have := hbs.out; rw [List.take_of_length_le (by rw [hpl.out]; omega)] at this; exact this
            have HALL : Hid (allB xss bs = true) := by
              rw [hres.out]
              refine allB_setL (fun xs hx x hx' => ((HROWS.out xs hx).2.1 x hx').1) _ _ (fun l hl => ?_) hq.out
              obtain ⟨h1, h2, h3⟩ := pureF_mem hl
              exact ⟨h1, by rw [hal.out]; omega, h3⟩
            go_wp2_with fail
            refine (all_ref _ _ _ _ _ _ _ _ _ (g9.keep hB.out) hown.out.sl HIN.out true HALL).mono ?_
            rintro e wz ⟨rfl, mz, rfl⟩
            go_wp2_with fail
            go_ret
            exact ⟨rfl, below_next (below_next HB9.out hB.out) (below_drewN _ _)⟩
    · have d2 : ((m : Int) != vars) = true := by simpa using hmv
      go_wp2_with fail
      go_ret
      exact ⟨rfl, HB8.out⟩
  · have d1 : (r1 != 0) = true := by simpa using hr1
    go_enter Try.func14, Try.ntmps14
    go_wp2_with fail
    refine (pure_wrong _ _ _ _ _ _ hk hv _ _ hr hr1).mono ?_
    rintro e w1 ⟨rfl, hb1⟩
    obtain ⟨c0, c1, l0, B1⟩ := box2 hb1
    have HB1 := Lib.hid B1
    clear hb1 B1 hk
    go_wp2_with fail
    go_ret
    exact ⟨rfl, below_alloc HB1.out _⟩
end Go.Proofs.Ytehhhidjgngibaa
