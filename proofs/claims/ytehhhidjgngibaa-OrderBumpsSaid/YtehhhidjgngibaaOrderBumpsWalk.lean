/- The walk of the law OrderBumps. -/
import Derived.Test.YtehhhidjgngibaaBump
import Derived.Test.YtehhhidjgngibaaBumped
namespace Go.Proofs.Ytehhhidjgngibaa
open Go.RowKit

theorem bumpW_parts {s vars : List Int} {by_ : Int} (h : bumpW s vars by_ = (0, 0)) : scoresWrong s = (0, 0) ∧ vars.length ≤ 120 ∧ varsF s.length vars 0 = (0, 0) ∧ 0 ≤ by_ ∧ by_ ≤ 1000000 := by
  unfold bumpW at h
  split at h
  · rename_i hh; rw [h] at hh; simp at hh
  · rename_i hh
    split at h
    · simp at h
    · split at h
      · rename_i hh2; rw [h] at hh2; simp at hh2
      · rename_i hh2
        split at h
        · simp at h
        · exact ⟨scoresWrong_code s (by simpa using hh), by omega, (varsF_ok _ vars 0 (by simpa using hh2)).1, by omega, by omega⟩

set_option maxHeartbeats 2000000 in
set_option maxRecDepth 100000 in
theorem orderBumps_wrong {A B : Option Addr} {n c m d : Nat} {xs vs : List Int} {by_ : Int} (w : World) (h : Ints w A n c xs) (h' : Ints w B m d vs) (r1 r2 : Int) (hr : Hid (bumpW xs vs by_ = (r1, r2))) (h0 : r1 ≠ 0) :
    Calls Try.prog 10 #[.slice A n c, .slice B m d, .int .i64 by_] w fun e w' => e = .returned (.bool true) ∧ Below w.heap.size w w' := by
  have hbd := h.bd
  have hbd' := h'.bd
  have hl := Lib.hid h.len
  have hl' := Lib.hid h'.len
  obtain ⟨p1, p2, hp⟩ : ∃ p1 p2, Hid (scoresWrong xs = (p1, p2)) := ⟨_, _, rfl⟩
  go_enter Try.func10, Try.ntmps10
  go_wp2_with fail
  refine (bump_wrong _ _ _ _ _ _ _ _ _ _ h h' _ _ hr h0).mono ?_
  rintro e w1 ⟨rfl, hb1⟩
  go_wp2_with fail
  refine (scores_ref _ _ _ _ _ (h.keep (below_alloc hb1 _)) _ _ hp).mono ?_
  rintro e w2 ⟨rfl, hb2⟩
  obtain ⟨c0, c1, l1, B1⟩ := box2 hb2
  have HB := Lib.hid (below_next hb1 B1)
  clear hb1 hb2 B1
  by_cases hp1 : p1 = 0
  · subst hp1
    obtain rfl : p2 = 0 := by
      have := scoresWrong_code xs (by rw [hp.out])
      rw [hp.out] at this
      simpa using this
    have hr2 : Hid ((if 120 < m then ((2 : Int), (-1 : Int)) else if (varsF n vs 0).1 ≠ 0 then varsF n vs 0 else if by_ < 0 ∨ 1000000 < by_ then (10, 0) else (0, 0)) = (r1, r2)) := by
      have := hr.out
      rw [bumpW, hp.out, if_neg (by simp), hl'.out, hl.out] at this
      exact this
    clear hr
    by_cases hm : 120 < m
    · have : (2, -1) = (r1, r2) := by rw [← hr2.out, if_pos hm]
      obtain ⟨h1, h2⟩ : (2 : Int) = r1 ∧ (-1 : Int) = r2 := by simpa using this
      subst h1 h2
      clear this hr2
      go_wp2_with fail
      refine wp_loop_rounds 1 ?_
      rw [rounds_succ]
      have z1 : (0 : Int) < (m : Int) := by omega
      go_wp2_with fail
      go_ret
      exact ⟨rfl, below_alloc HB.out _⟩
    · obtain ⟨s1, s2, hs⟩ : ∃ s1 s2, Hid (varsF n vs 0 = (s1, s2)) := ⟨_, _, rfl⟩
      have hr3 : Hid ((if s1 ≠ 0 then (s1, s2) else if by_ < 0 ∨ 1000000 < by_ then (10, 0) else (0, 0)) = (r1, r2)) := by
        have := hr2.out
        rw [if_neg hm, hs.out] at this
        exact this
      have d1 : decide ((120 : Int) < (m : Int)) = false := by simp; omega
      clear hr2
      go_wp2_with fail
      go_loopw [10] (fun i wr => ∃ (k : Nat) (xc xa : Int), k ≤ m ∧ i = .int .i64 k ∧ wr = w2.alloc (.cells #[.int .i64 xc, .int .i64 xa] 24) ∧ Hid (if xc = 0 then xa = 0 ∧ varsF n (vs.drop k) k = (s1, s2) else (xc, xa) = (s1, s2))) (fun i _ => m - (intOf i).toNat)
      case atStart => exact ⟨0, 0, 0, Nat.zero_le _, rfl, rfl, by show (if _ then _ else _); rw [if_pos rfl]; exact ⟨rfl, hs.out⟩⟩
      case round =>
        obtain ⟨k, xc, xa, hk, rfl, rfl, hg⟩ := hrel
        have hx' := h'.keep (below_alloc HB.out (.cells #[.int .i64 xc, .int .i64 xa] 24))
        by_cases hxc : xc = 0
        · subst hxc
          have hg' := hg.out
          rw [if_pos rfl] at hg'
          obtain ⟨rfl, hg2⟩ := hg'
          have HG := Lib.hid hg2
          clear hg hg2
          by_cases hlt : k < m
          · obtain ⟨b, off, y, rfl, hb, hcell, y1, y2, hy⟩ := hx'.round hlt
            by_cases hy0 : y < 1 ∨ (n : Int) < y
            · have this : ((3 : Int), -1 - (k : Int)) = (s1, s2) := by rw [← HG.out, drop_cons_of hy.out, varsF, if_pos hy0]
              have HT := Lib.hid this
              clear this
              rcases Decidable.em (y < 1) with hz | hz
              · clear hy0
                go_wp2_with fail
                go_roundw
                case rel => exact ⟨k + 1, 3, -1 - (k : Int), by omega, by go_num, rfl, by show (if _ then _ else _); rw [if_neg (by simp)]; exact HT.out⟩
                case measure => simp [intOf]; omega
              · have hz2 : (n : Int) < y := by omega
                clear hy0
                go_wp2_with fail
                go_roundw
                case rel => exact ⟨k + 1, 3, -1 - (k : Int), by omega, by go_num, rfl, by show (if _ then _ else _); rw [if_neg (by simp)]; exact HT.out⟩
                case measure => simp [intOf]; omega
            · have hg3 : Hid (varsF n (vs.drop (k + 1)) (k + 1) = (s1, s2)) := by
                have := HG.out
                rw [drop_cons_of hy.out, varsF, if_neg hy0] at this
                exact this
              have z1 : ¬ y < 1 := by omega
              have z2 : ¬ (n : Int) < y := by omega
              clear hy0
              go_wp2_with fail
              go_roundw
              case rel => exact ⟨k + 1, 0, 0, by omega, by go_num, rfl, by show (if _ then _ else _); rw [if_pos rfl]; exact ⟨rfl, hg3.out⟩⟩
              case measure => simp [intOf]; omega
          · have this : ((0 : Int), (0 : Int)) = (s1, s2) := by rw [← HG.out, List.drop_of_length_le (by have := hl'.out; omega), varsF]
            obtain ⟨h1, h2⟩ : (0 : Int) = s1 ∧ (0 : Int) = s2 := by simpa using this
            subst h1 h2
            have hr4 := hr3.out
            rw [if_neg (by simp)] at hr4
            by_cases hby : by_ < 0 ∨ 1000000 < by_
            · rw [if_pos hby] at hr4
              obtain ⟨h1, h2⟩ : (10 : Int) = r1 ∧ (0 : Int) = r2 := by simpa using hr4
              subst h1 h2
              clear this hr4
              rcases Decidable.em (by_ < 0) with hz | hz
              · clear hby
                go_wp2_with fail
                go_ret
                exact ⟨rfl, below_alloc HB.out _⟩
              · have hz2 : 1000000 < by_ := by omega
                clear hby
                go_wp2_with fail
                go_ret
                exact ⟨rfl, below_alloc HB.out _⟩
            · rw [if_neg hby] at hr4
              obtain ⟨h1, h2⟩ : (0 : Int) = r1 ∧ (0 : Int) = r2 := by simpa using hr4
              exact absurd h1.symm h0
        · have this := hg.out
          rw [if_neg hxc] at this
          obtain ⟨h1, h2⟩ : xc = s1 ∧ xa = s2 := by simpa using this
          subst h1 h2
          have hr4 := hr3.out
          rw [if_pos hxc] at hr4
          obtain ⟨h1, h2⟩ : xc = r1 ∧ xa = r2 := by simpa using hr4
          subst h1 h2
          have d4 : (xc == 0) = false := by simpa using hxc
          have d5 : (xc != 0) = true := by simpa using hxc
          clear this hr4 hg hr3 hs
          by_cases hlt : (k : Int) < (m : Int)
          · go_wp2_with fail
            go_ret
            exact ⟨rfl, below_alloc HB.out _⟩
          · go_wp2_with fail
            go_ret
            exact ⟨rfl, below_alloc HB.out _⟩
  · have : (p1, p2) = (r1, r2) := by rw [← hr.out, bumpW, hp.out, if_pos hp1]
    obtain ⟨h1, h2⟩ : p1 = r1 ∧ p2 = r2 := by simpa using this
    subst h1 h2
    have d1 : (p1 == 0) = false := by simpa using hp1
    have d2 : (p1 != 0) = true := by simpa using hp1
    clear this
    go_wp2_with fail
    refine wp_loop_rounds 1 ?_
    rw [rounds_succ]
    have d3 : (0 : Int) < (m : Int) ∨ ¬ (0 : Int) < (m : Int) := by omega
    rcases d3 with d3 | d3
    · go_wp2_with fail
      go_ret
      exact ⟨rfl, below_alloc HB.out _⟩
    · go_wp2_with fail
      go_ret
      exact ⟨rfl, below_alloc HB.out _⟩

set_option maxHeartbeats 2000000 in
set_option maxRecDepth 100000 in
theorem orderBumps_ok {A B : Option Addr} {n c m d : Nat} {xs vs : List Int} {by_ : Int} (w : World) (h : Ints w A n c xs) (h' : Ints w B m d vs) (hr : Hid (bumpW xs vs by_ = (0, 0))) :
    Calls Try.prog 10 #[.slice A n c, .slice B m d, .int .i64 by_] w fun e w' => e = .returned (.bool true) ∧ Below w.heap.size w w' := by
  have hbd := h.bd
  have hbd' := h'.bd
  have hl := Lib.hid h.len
  have hl' := Lib.hid h'.len
  obtain ⟨hs0, hm, hv0, hby1, hby2⟩ := bumpW_parts hr.out
  obtain ⟨hn, hin⟩ := scoresWrong_ok xs hs0
  have hw := bumpedL_within hin hm hby1 hby2
  rw [hl'.out] at hm
  rw [hl.out] at hn
  have HV : Hid (∀ v ∈ vs, 1 ≤ v ∧ v ≤ (n : Int)) := by
    have := (varsF_ok xs.length vs 0 (by rw [hv0])).2
    rw [hl.out] at this
    exact this
  have HS0 := Lib.hid hs0
  have HIN : Hid (Within 1000000 xs) := hin
  clear hs0 hv0 hin
  have d1 : decide ((120 : Int) < (m : Int)) = false := by simp; omega
  have d2 : decide (by_ < 0) = false := by simp; omega
  have d3 : decide (1000000 < by_) = false := by simp; omega
  obtain ⟨R, hR⟩ : ∃ R, Hid (bumpedL xs vs by_ = R) := ⟨_, rfl⟩
  have HRI : Hid (∀ x ∈ R, I64 x) := fun x hx => by
    rw [← hR.out] at hx
    have := hw x hx
    exact ⟨by omega, by omega⟩
  clear hw
  go_enter Try.func10, Try.ntmps10
  go_wp2_with fail
  refine (bump_ok _ _ _ _ _ _ _ _ _ _ h h' hr).mono ?_
  rw [hR.out]
  rintro e w1 ⟨A1, n1, c1, rfl, hown, hb1⟩
  have i1 := (hown.ints HRI.out).keep (below_new w1 (.cells #[.int .i64 0, .int .i64 0] 24))
  have hlen1 : Hid (R.length = n1) := by have := hown.len; rw [List.length_map] at this; exact this
  clear hown
  go_wp2_with fail
  refine (scores_ref _ _ _ _ _ (h.keep (below_alloc hb1 _)) _ _ HS0).mono ?_
  rintro e w2 ⟨rfl, hb2⟩
  obtain ⟨f0, f1, l1, B1⟩ := box2 hb2
  have HB := Lib.hid (below_next hb1 B1)
  have i2 := (i1.keep hb2).keep (below_new w2 (.cells #[.int .i64 0, .int .i64 0] 24))
  clear hb1 hb2 B1 i1
  go_wp2_with fail
  go_loop [10] (fun i => ∃ k : Nat, k ≤ m ∧ i = .int .i64 k) (fun i => m - (intOf i).toNat)
  case atStart => exact ⟨0, Nat.zero_le _, rfl⟩
  case round =>
    obtain ⟨k, hk, rfl⟩ := hrel
    by_cases hlt : k < m
    · obtain ⟨b, off, y, rfl, hb, hcell, y1, y2, hy⟩ := (h'.keep (below_alloc HB.out (.cells #[.int .i64 0, .int .i64 0] 24))).round hlt
      have hyv := HV.out y (List.mem_of_getElem? hy.out)
      have z1 : ¬ y < 1 := by omega
      have z2 : ¬ (n : Int) < y := by omega
      go_wp2_with fail
      go_round
      case rel => exact ⟨k + 1, by omega, by go_num⟩
      case measure => simp [intOf]; omega
    · have g2 := h.keep (below_alloc HB.out (.cells #[.int .i64 0, .int .i64 0] 24))
      have g2' := h'.keep (below_alloc HB.out (.cells #[.int .i64 0, .int .i64 0] 24))
      go_wp2_with fail
      refine (bump_ok _ _ _ _ _ _ [3] [1] _ _ (Ints.keep (ints_made _ 3 [3] (by simp) (by simp [I64]) (by decide)) (below_new _ _)) (ints_made _ 3 [1] (by simp) (by simp [I64]) (by decide)) (by rfl)).mono ?_
      rintro e w3 ⟨A3, n3, c3, rfl, hown3, hb3⟩
      have hown3' : Own 3 w3 _ A3 n3 c3 ([5].map (Value.int .i64)) := hown3
      have i3 := (hown3'.ints (by simp [I64])).keep (below_new w3 (.cells #[.int .i64 0, .int .i64 0] 24))
      have B3a := (below_box (below_box hb3).1).1
      obtain ⟨x0, x1, l3, B3⟩ := box2 B3a
      have F0 := keepBox B3 f0
      have F1 := keepBox B3 f1
      have l4 : w1.heap.size < w3.heap.size := by omega
      have HB3 := Lib.hid (below_alloc (below_next HB.out B3) (.cells #[.int .i64 0, .int .i64 0] 24))
      have g3 := (g2.keep B3a).keep (below_new w3 (.cells #[.int .i64 0, .int .i64 0] 24))
      have g3' := (g2'.keep B3a).keep (below_new w3 (.cells #[.int .i64 0, .int .i64 0] 24))
      have i2' := (i2.keep B3a).keep (below_new w3 (.cells #[.int .i64 0, .int .i64 0] 24))
      clear hown3 hown3' hb3 B3 B3a f0 f1 i2 g2 g2' hlt
      go_wp2_with fail
      refine (bumped_ref _ _ _ _ _ _ _ _ _ _ g3 g3' hn hm HV.out HIN.out hby1 hby2).mono ?_
      rw [hR.out]
      rintro e w4 ⟨A4, n4, c4, rfl, hown4, hb4⟩
      have i4 := hown4.ints HRI.out
      have X0 := keepBox hb4 (keepBox (below_new w3 _) x0)
      have X1 := keepBox hb4 (keepBox (below_new w3 _) x1)
      have Y0 := keepBox hb4 (keepBox (below_new w3 _) F0)
      have Y1 := keepBox hb4 (keepBox (below_new w3 _) F1)
      obtain ⟨G0, G1, l5, _⟩ := box2 hb4
      have HB4 := Lib.hid (below_next HB3.out hb4)
      have i2f := i2'.keep hb4
      have i3f := i3.keep hb4
      have l6 : w1.heap.size < w4.heap.size := by omega
      have l7 : w2.heap.size < w4.heap.size := by omega
      have l8 := hb4.size
      clear hown4 hb4 x0 x1 F0 F1 i2' i3 g3 g3'
      go_wp2_with fail
      refine (same_any _ _ _ _ _ _ _ _ _ i2f i4 true (by show sameB R R = true; rw [sameB_iff])).mono ?_
      rintro e w5 ⟨rfl, k5, rfl⟩
      go_wp2_with fail
      refine (same_any _ _ _ _ _ _ [5] [5] _ ((i3f.drewN _).keep (below_new _ _)) (ints_made _ 3 [5] (by simp) (by simp [I64]) (by decide)) true (by rfl)).mono ?_
      rintro e w6 ⟨rfl, k6, rfl⟩
      go_wp2_with fail
      go_ret
      exact ⟨rfl, below_next (below_alloc (below_next HB4.out (below_drewN _ _)) _) (below_drewN _ _)⟩

theorem orderBumps_walk {A B : Option Addr} {n c m d : Nat} {xs vs : List Int} {by_ : Int} (w : World) (h : Ints w A n c xs) (h' : Ints w B m d vs) (_hby : I64 by_) :
    Calls Try.prog 10 #[.slice A n c, .slice B m d, .int .i64 by_] w fun e w' => e = .returned (.bool true) ∧ Below w.heap.size w w' := by
  by_cases h0 : (bumpW xs vs by_).1 = 0
  · have hz : bumpW xs vs by_ = (0, 0) := by
      have : (bumpW xs vs by_).2 = 0 := by
        unfold bumpW at h0 ⊢
        split
        · rename_i hh; rw [if_pos hh] at h0; exact absurd h0 hh
        · rename_i hh
          rw [if_neg hh] at h0
          split
          · rename_i hh2; rw [if_pos hh2] at h0; simp at h0
          · rename_i hh2
            rw [if_neg hh2] at h0
            split
            · rename_i hh3; rw [if_pos hh3] at h0; exact absurd h0 hh3
            · rename_i hh3
              rw [if_neg hh3] at h0
              split
              · rfl
              · rfl
      exact Prod.ext h0 this
    exact orderBumps_ok w h h' hz
  · exact orderBumps_wrong w h h' _ _ (show bumpW xs vs by_ = ((bumpW xs vs by_).1, (bumpW xs vs by_).2) from rfl) h0
end Go.Proofs.Ytehhhidjgngibaa
