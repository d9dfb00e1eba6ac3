/- Contract of order.Bump. -/
import Derived.Test.YtehhhidjgngibaaScores
import Derived.Test.YtehhhidjgngibaaSlices
import Derived.Test.YtehhhidjgngibaaClone
import Derived.Test.YtehhhidjgngibaaBumpPlain
namespace Go.Proofs.Ytehhhidjgngibaa
open Go.RowKit

theorem bump_lit (x : Int) (W : World) : Calls Try.prog 48 #[.int .i64 x] W (RetQ (.bool (decide (1000000 < x))) W) := by
  go_enter Try.func48, Try.ntmps48
  go_wp2_with fail
  go_ret
  exact RetQ.of0 rfl
theorem enters_bump : Enters Try.prog 48 := enters_of Try.func48 (by kernel_rfl) rfl

-- before the scores are cloned: what is wrong is told
set_option maxHeartbeats 1000000 in
theorem bump_wrong (A B : Option Addr) (n c m d : Nat) (xs vs : List Int) (by_ : Int) (w : World) (h : Ints w A n c xs) (h' : Ints w B m d vs) (r1 r2 : Int) (hr : Hid (bumpW xs vs by_ = (r1, r2))) (h0 : r1 ≠ 0) :
    Calls Try.prog 30 #[.slice A n c, .slice B m d, .int .i64 by_] w (RetV (.tuple #[.slice none 0 0, .agg #[.int .i64 r1, .int .i64 r2]]) w) := by
  have hbd := h.bd
  have hbd' := h'.bd
  have hl := Lib.hid h.len
  have hl' := Lib.hid h'.len
  obtain ⟨p1, p2, hp⟩ : ∃ p1 p2, Hid (scoresWrong xs = (p1, p2)) := ⟨_, _, rfl⟩
  go_enter Try.func30, Try.ntmps30
  go_wp2_with fail
  refine (scores_own _ _ _ _ _ (h.keep (below_new _ _)) _ _ hp).mono ?_
  rintro e w1 ⟨rfl, hb1⟩
  obtain ⟨B1, l1⟩ := below_box hb1
  have hK := (Blk.new w 24 #[.int .i64 0, .int .i64 0]).keep hb1
  have e0 := hK.cell 0
  have e1 := hK.cell 1
  have f0 := hK.frozen 0
  have f1 := hK.frozen 1
  simp at e0 e1
  have HB := Lib.hid B1
  have HK := Lib.hid hK
  have g' := h'.keep (below_alloc B1 (.cells #[.int .i64 p1, .int .i64 p2] 24))
  clear hb1 B1 hK
  by_cases hp1 : p1 = 0
  · subst hp1
    have hr2 : Hid ((if 120 < m then ((2 : Int), (-1 : Int)) else if (varsF n vs 0).1 ≠ 0 then varsF n vs 0 else if by_ < 0 ∨ 1000000 < by_ then (10, 0) else (0, 0)) = (r1, r2)) := by
      have := hr.out
      rw [bumpW, hp.out, if_neg (by simp), hl'.out, hl.out] at this
      exact this
    clear hr
    by_cases hm : 120 < m
    · have : (2, -1) = (r1, r2) := by rw [← hr2.out, if_pos hm]
      obtain ⟨h1, h2⟩ : (2 : Int) = r1 ∧ (-1 : Int) = r2 := by simpa using this
      subst h1 h2
      clear this
      go_wp2_with fail
      refine bodyPost_ret (v := .tuple #[.slice none 0 0, .agg #[.int .i64 2, .int .i64 (-1)]]) (by simp [results, Try.results30, go_sem, e0, e1, l1]) rfl ⟨rfl, ?_⟩
      exact (below_put2 HB.out (g := w.heap.size) (by omega) _ _).alloc (by simp; omega) _
    · have hr3 : Hid ((if (varsF n vs 0).1 ≠ 0 then varsF n vs 0 else if by_ < 0 ∨ 1000000 < by_ then (10, 0) else (0, 0)) = (r1, r2)) := by
        have := hr2.out
        rw [if_neg hm] at this
        exact this
      obtain ⟨s1, s2, hs⟩ : ∃ s1 s2, Hid (varsF n vs 0 = (s1, s2)) := ⟨_, _, rfl⟩
      have d1 : decide ((120 : Int) < (m : Int)) = false := by simp; omega
      clear hr2
      go_wp2_with fail
      go_loop [27] (fun i => ∃ k : Nat, k ≤ m ∧ i = .int .i64 k ∧ Hid (varsF n (vs.drop k) k = (s1, s2))) (fun i => m - (intOf i).toNat)
      case atStart => exact ⟨0, Nat.zero_le _, rfl, hs.out⟩
      case round =>
        obtain ⟨k, hk, rfl, hg⟩ := hrel
        by_cases hlt : k < m
        · obtain ⟨b, off, y, rfl, hb, hcell, y1, y2, hy⟩ := g'.round hlt
          by_cases hy0 : y < 1 ∨ (n : Int) < y
          · have : ((3 : Int), -1 - (k : Int)) = (s1, s2) := by rw [← hg.out, drop_cons_of hy.out, varsF, if_pos hy0]
            obtain ⟨h1, h2⟩ : (3 : Int) = s1 ∧ -1 - (k : Int) = s2 := by simpa using this
            subst h1 h2
            have this2 : ((3 : Int), -1 - (k : Int)) = (r1, r2) := by rw [← hr3.out, hs.out, if_pos (by simp)]
            obtain ⟨h1, h2⟩ : (3 : Int) = r1 ∧ -1 - (k : Int) = r2 := by simpa using this2
            subst h1 h2
            clear this this2
            rcases Decidable.em (y < 1) with hz | hz
            · clear hy0
              go_wp2_with fail
              refine bodyPost_ret (v := .tuple #[.slice none 0 0, .agg #[.int .i64 3, .int .i64 (-1 - k)]]) (by simp [results, Try.results30, go_sem, e0, e1, l1]) rfl ⟨rfl, ?_⟩
              exact (below_put2 HB.out (g := w.heap.size) (by omega) _ _).alloc (by simp; omega) _
            · have hz2 : (n : Int) < y := by omega
              clear hy0
              go_wp2_with fail
              refine bodyPost_ret (v := .tuple #[.slice none 0 0, .agg #[.int .i64 3, .int .i64 (-1 - k)]]) (by simp [results, Try.results30, go_sem, e0, e1, l1]) rfl ⟨rfl, ?_⟩
              exact (below_put2 HB.out (g := w.heap.size) (by omega) _ _).alloc (by simp; omega) _
          · have hg' : Hid (varsF n (vs.drop (k + 1)) (k + 1) = (s1, s2)) := by
              have := hg.out
              rw [drop_cons_of hy.out, varsF, if_neg hy0] at this
              exact this
            have z1 : ¬ y < 1 := by omega
            have z2 : ¬ (n : Int) < y := by omega
            clear hy0
            go_wp2_with fail
            go_round
            case rel => exact ⟨k + 1, by omega, by go_num, hg'⟩
            case measure => simp [intOf]; omega
        · have : ((0 : Int), (0 : Int)) = (s1, s2) := by rw [← hg.out, List.drop_of_length_le (by have := hl'.out; omega), varsF]
          obtain ⟨h1, h2⟩ : (0 : Int) = s1 ∧ (0 : Int) = s2 := by simpa using this
          subst h1 h2
          have hr4 : (if by_ < 0 ∨ 1000000 < by_ then ((10 : Int), (0 : Int)) else (0, 0)) = (r1, r2) := by
            have := hr3.out
            rw [hs.out, if_neg (by simp)] at this
            exact this
          by_cases hby : by_ < 0 ∨ 1000000 < by_
          · rw [if_pos hby] at hr4
            obtain ⟨h1, h2⟩ : (10 : Int) = r1 ∧ (0 : Int) = r2 := by simpa using hr4
            subst h1 h2
            clear this hr4
            rcases Decidable.em (by_ < 0) with hz | hz
            · clear hby
              go_wp2_with fail
              refine bodyPost_ret (v := .tuple #[.slice none 0 0, .agg #[.int .i64 10, .int .i64 0]]) (by simp [results, Try.results30, go_sem, e0, e1, l1]) rfl ⟨rfl, ?_⟩
              exact (below_put2 HB.out (g := w.heap.size) (by omega) _ _).alloc (by simp; omega) _
            · have hz2 : 1000000 < by_ := by omega
              clear hby
              go_wp2_with fail
              refine bodyPost_ret (v := .tuple #[.slice none 0 0, .agg #[.int .i64 10, .int .i64 0]]) (by simp [results, Try.results30, go_sem, e0, e1, l1]) rfl ⟨rfl, ?_⟩
              exact (below_put2 HB.out (g := w.heap.size) (by omega) _ _).alloc (by simp; omega) _
          · rw [if_neg hby] at hr4
            obtain ⟨h1, h2⟩ : (0 : Int) = r1 ∧ (0 : Int) = r2 := by simpa using hr4
            exact absurd h1.symm h0
  · have : (p1, p2) = (r1, r2) := by rw [← hr.out, bumpW, hp.out, if_pos hp1]
    obtain ⟨h1, h2⟩ : p1 = r1 ∧ p2 = r2 := by simpa using this
    subst h1 h2
    have d1 : (p1 != 0) = true := by simpa using hp1
    clear this
    go_wp2_with fail
    go_region
    go_wp2_with fail
    refine bodyPost_ret (v := .tuple #[.slice none 0 0, .agg #[.int .i64 p1, .int .i64 p2]]) (by simp [results, Try.results30, go_sem, e0, e1, l1]) rfl ⟨rfl, ?_⟩
    exact ((below_put2 HB.out (g := w.heap.size) (by omega) _ _).alloc (by simp; omega) _).drew

/-- The state of the row while it is bumped and halved. -/
def RowAt (w wr : World) (base : Nat) (A : Option Addr) (n c : Nat) (s : List Int) (b : Int) : Prop :=
  Own 3 wr base A n c (s.map (Value.int .i64)) ∧ Within b s ∧ Below w.heap.size w wr ∧ Blk wr w.heap.size 24 #[.int .i64 0, .int .i64 0]
theorem RowAt.ints {w wr : World} {base n c : Nat} {A : Option Addr} {s : List Int} {b : Int} (h : RowAt w wr base A n c s b) (hb : b ≤ 1000000000) : Ints wr A n c s :=
  h.1.ints fun x hx => by have := h.2.1 x hx; exact ⟨by omega, by omega⟩
theorem RowAt.next {w wr w' : World} {base n c : Nat} {A : Option Addr} {s : List Int} {b : Int} (h : RowAt w wr base A n c s b) (hb : Below wr.heap.size wr w') : RowAt w w' base A n c s b :=
  ⟨h.1.keep hb, h.2.1, below_next h.2.2.1 hb, h.2.2.2.keep hb⟩
theorem RowAt.at_ {w wr : World} {base n c : Nat} {A : Option Addr} {s : List Int} {b : Int} (h : RowAt w wr base A n c s b) {k : Nat} (hk : k < n) :
    ∃ g y, A = some ⟨g, 0, none⟩ ∧ base ≤ g ∧ g < wr.heap.size ∧ wr.cell? ⟨g, k, none⟩ = some (.int .i64 y) ∧ wr.frozen? ⟨g, k, none⟩ = false ∧ 0 ≤ y ∧ y ≤ b ∧ Hid (s[k]? = some y) := by
  obtain ⟨g, u, e, hg, hlt, hc, hf, hu⟩ := h.1.at_ hk
  have hu' := hu.out
  rw [List.getElem?_map, Option.map_eq_some_iff] at hu'
  obtain ⟨y, hy, rfl⟩ := hu'
  have := h.2.1 y (List.mem_of_getElem? hy)
  exact ⟨g, y, e, hg, hlt, hc, hf, this.1, this.2, hy⟩
theorem RowAt.set_ {w wr : World} {base n c g : Nat} {s : List Int} {b b' : Int} (h : RowAt w wr base (some ⟨g, 0, none⟩) n c s b) (hbase : w.heap.size < base) (k : Nat) (y : Int) (h0 : 0 ≤ y) (hy : y ≤ b') (hbb : b ≤ b') :
    RowAt w (wr.setCell ⟨g, k, none⟩ (.int .i64 y)) base (some ⟨g, 0, none⟩) n c (s.set k y) b' := by
  have hg : base ≤ g := by
    rcases h.1.form with ⟨h0, _⟩ | ⟨g', cur, h0, hg, _⟩
    · cases h0
    · cases h0; exact hg
  refine ⟨?_, (h.2.1.mono hbb).set_ k h0 hy, h.2.2.1.setCell (p := ⟨g, k, none⟩) (show w.heap.size ≤ g by omega) _, h.2.2.2.far (p := ⟨g, k, none⟩) (show w.heap.size ≠ g by omega) _⟩
  rw [List.map_set]
  exact h.1.set_ k _

set_option maxHeartbeats 2000000 in
theorem bump_ok (A B : Option Addr) (n c m d : Nat) (xs vs : List Int) (by_ : Int) (w : World) (h : Ints w A n c xs) (h' : Ints w B m d vs) (hr : Hid (bumpW xs vs by_ = (0, 0))) :
    Calls Try.prog 30 #[.slice A n c, .slice B m d, .int .i64 by_] w fun e w' => ∃ A' n' c', e = .returned (.tuple #[.slice A' n' c', .agg #[.int .i64 0, .int .i64 0]]) ∧ Own 3 w' w.heap.size A' n' c' ((bumpedL xs vs by_).map (Value.int .i64)) ∧ Below w.heap.size w w' := by
  have hbd := h.bd
  have hbd' := h'.bd
  have hl := Lib.hid h.len
  have hl' := Lib.hid h'.len
  obtain ⟨hs0, hm, hv, hby1, hby2⟩ : scoresWrong xs = (0, 0) ∧ m ≤ 120 ∧ (∀ v ∈ vs, 1 ≤ v ∧ v ≤ (n : Int)) ∧ 0 ≤ by_ ∧ by_ ≤ 1000000 := by
    have := hr.out
    unfold bumpW at this
    rw [hl.out, hl'.out] at this
    split at this
    · rename_i hh; rw [this] at hh; simp at hh
    · rename_i hh
      split at this
      · simp at this
      · split at this
        · rename_i hh2; rw [this] at hh2; simp at hh2
        · rename_i hh2
          split at this
          · simp at this
          · exact ⟨scoresWrong_code xs (by simpa using hh), by omega, (varsF_ok n vs 0 (by simpa using hh2)).2, by omega, by omega⟩
  obtain ⟨hn, hin⟩ := scoresWrong_ok xs hs0
  rw [hl.out] at hn
  have HS0 := Lib.hid hs0
  have HV := Lib.hid hv
  have HIN : Hid (Within 1000000 xs) := hin
  clear hs0 hv hin hr
  have d1 : decide ((120 : Int) < (m : Int)) = false := by simp; omega
  have d2 : decide (by_ < 0) = false := by simp; omega
  have d3 : decide (1000000 < by_) = false := by simp; omega
  go_enter Try.func30, Try.ntmps30
  go_wp2_with fail
  refine (scores_own _ _ _ _ _ (h.keep (below_new _ _)) _ _ HS0).mono ?_
  rintro e w1 ⟨rfl, hb1⟩
  obtain ⟨B1, l1⟩ := below_box hb1
  have HK := Lib.hid ((Blk.new w 24 #[.int .i64 0, .int .i64 0]).keep hb1)
  have HB := Lib.hid B1
  have g := h.keep (below_alloc B1 (.cells #[.int .i64 0, .int .i64 0] 24))
  have g' := h'.keep (below_alloc B1 (.cells #[.int .i64 0, .int .i64 0] 24))
  clear hb1 B1
  go_wp2_with fail
  go_loop [27] (fun i => ∃ k : Nat, k ≤ m ∧ i = .int .i64 k) (fun i => m - (intOf i).toNat)
  case atStart => exact ⟨0, Nat.zero_le _, rfl⟩
  case round =>
    obtain ⟨k, hk, rfl⟩ := hrel
    by_cases hlt : k < m
    · obtain ⟨b, off, y, rfl, hb, hcell, y1, y2, hy⟩ := g'.round hlt
      have hyv := HV.out y (List.mem_of_getElem? hy.out)
      have z1 : ¬ y < 1 := by omega
      have z2 : ¬ (n : Int) < y := by omega
      go_wp2_with fail
      go_round
      case rel => exact ⟨k + 1, by omega, by go_num⟩
      case measure => simp [intOf]; omega
    · go_wp2_with fail
      refine (clone_ints _ _ _ _ _ g (by omega)).mono ?_
      rintro e w2 ⟨A2, n2, c2, rfl, hown, hb2⟩
      obtain rfl : n = n2 := by have := hown.len; rw [List.length_map, hl.out] at this; exact this
      have HR : Hid (RowAt w w2 (w1.heap.size + 1) A2 n c2 xs 1000000) :=
        ⟨by rw [show (w1.alloc (.cells #[.int .i64 0, .int .i64 0] 24)).heap.size = w1.heap.size + 1 by simp] at hown; exact hown, HIN.out, below_next (below_alloc HB.out _) hb2, (HK.out.alloc _).keep hb2⟩
      clear hb2 hown g hlt
      go_wp2_with fail
      go_loopw [55] (fun i wr => ∃ (k : Nat) (s : List Int), k ≤ m ∧ i = .int .i64 k ∧ Hid (RowAt w wr (w1.heap.size + 1) A2 n c2 s (1000000 * (k + 1))) ∧ Hid (addAll by_ s (vs.drop k) = addAll by_ xs vs)) (fun i _ => m - (intOf i).toNat)
      case atStart => exact ⟨0, xs, Nat.zero_le _, rfl, by simpa using HR, rfl⟩
      case round =>
        obtain ⟨k, s, hk, rfl, hrow, hadd⟩ := hrel
        have hx' := h'.keep hrow.out.2.2.1
        by_cases hlt : k < m
        · obtain ⟨b, off, v, rfl, hb, hcell, _, _, hy⟩ := hx'.round hlt
          have hvv := HV.out v (List.mem_of_getElem? hy.out)
          obtain ⟨j, rfl⟩ : ∃ j : Nat, v = (j : Int) + 1 := ⟨(v - 1).toNat, by omega⟩
          obtain ⟨gb, y, rfl, hgb, hgl, hc, hf, y0, y1, hyj⟩ := hrow.out.at_ (k := j) (by omega)
          have z1 : (j : Int) + 1 - 1 = (j : Int) := by omega
          have z2 : (j : Int) < (n : Int) := by omega
          have z3 : (0 : Int) ≤ (j : Int) := by omega
          have hrow' := Lib.hid (hrow.out.set_ (by omega) j (y + by_) (b' := 1000000 * ((k + 1 : Nat) + 1)) (by omega) (by omega) (by omega))
          have hadd' : Hid (addAll by_ (s.set j (y + by_)) (vs.drop (k + 1)) = addAll by_ xs vs) := by
            have := hadd.out
            rw [drop_cons_of hy.out, addAll, show ((j : Int) + 1 - 1).toNat = j by omega, hyj.out] at this
            exact this
          have z4 : y ≤ 1000000000 := by omega
          clear hvv y1
          go_wp2_with fail
          go_roundw
          case rel => exact ⟨k + 1, _, by omega, by go_num, hrow', hadd'⟩
          case measure => simp [intOf]; omega
        · have HR2 : Hid (RowAt w wr (w1.heap.size + 1) A2 n c2 (addAll by_ xs vs) 128000000) := by
            have := hadd.out
            rw [List.drop_of_length_le (by have := hl'.out; omega), addAll] at this
            rw [← this]
            exact ⟨hrow.out.1, hrow.out.2.1.mono (by omega), hrow.out.2.2⟩
          clear hrow hadd hx'
          go_wp2_with fail
          clear hlt
          go_loopg [72] 7 (fun f _ wr => ∃ s : List Int, f ≤ 7 ∧ Hid (RowAt w wr (w1.heap.size + 1) A2 n c2 s (1000000 * 2 ^ f)) ∧ Hid (halves f s = bumpedL xs vs by_))
          case atStart => exact ⟨_, Nat.le_refl _, HR2, rfl⟩
          case round =>
            obtain ⟨s, hf7, hrow, hh⟩ := hrel
            have hpow : (2 : Int) ^ gk ≤ 128 := by
              have h1 : (2 : Nat) ^ gk ≤ 2 ^ 7 := Nat.pow_le_pow_right (by omega) hf7
              have h2 : ((2 ^ gk : Nat) : Int) = (2 : Int) ^ gk := by simp
              omega
            have hint := hrow.out.ints (by omega)
            have HP : Hid (Pred 48 #[] s (fun x => decide (1000000 < x)) wr) := fun W x _ _ => (bump_lit x W).mono fun _ _ hh => hh.v
            obtain ⟨q, hq⟩ : ∃ q, Hid (s.any (fun x => decide (1000000 < x)) = q) := ⟨_, rfl⟩
            have HPW := Lib.hid hpow
            clear hpow
            go_wp2_with fail
            refine (containsFunc_ints _ _ _ _ _ hint _ _ enters_bump _ HP.out q hq).mono ?_
            rintro e w3 ⟨rfl, hb3⟩
            have hrow3 := Lib.hid (hrow.out.next hb3)
            clear hb3 hint HP hrow
            cases q
            · have HRes : Hid (s = bumpedL xs vs by_) := by
                have := hh.out
                cases gk with
                | zero => exact this
                | succ f => rw [halves, if_neg (by rw [much, hq.out]; simp)] at this; exact this
              have hK := hrow3.out.2.2.2
              have e0 := hK.cell 0
              have e1 := hK.cell 1
              have f0 := hK.frozen 0
              have f1 := hK.frozen 1
              simp at e0 e1
              obtain ⟨q0, q1⟩ := hK.put2 (.int .i64 0) (.int .i64 0)
              have Q0 := Lib.hid q0
              have Q1 := Lib.hid q1
              have HO : Hid (Own 3 ((w3.setCell ⟨w.heap.size, 0, none⟩ (.int .i64 0)).setCell ⟨w.heap.size, 1, none⟩ (.int .i64 0)) w.heap.size A2 n c2 ((bumpedL xs vs by_).map (Value.int .i64))) := by
                rw [← HRes.out]
                have hO : Own 3 ((w3.setCell ⟨w.heap.size, 0, none⟩ (.int .i64 0)).setCell ⟨w.heap.size, 1, none⟩ (.int .i64 0)) (w1.heap.size + 1) A2 n c2 (s.map (Value.int .i64)) :=
                  ownsRow_setCell_below (ownsRow_setCell_below hrow3.out.1 (a := ⟨w.heap.size, 0, none⟩) (show w.heap.size < w1.heap.size + 1 by omega) _) (a := ⟨w.heap.size, 1, none⟩) (show w.heap.size < w1.heap.size + 1 by omega) _
                exact hO.mono (by omega)
              have BF := Lib.hid (below_put2 hrow3.out.2.2.1 (g := w.heap.size) (by omega) (.int .i64 0) (.int .i64 0))
              clear q0 q1 hK
              go_wp2_with fail
              exact bodyPost_ret (v := .tuple #[.slice A2 n c2, .agg #[.int .i64 0, .int .i64 0]]) (by simp [results, Try.results30, go_sem, Q0.out, Q1.out]) rfl ⟨A2, n, c2, rfl, HO.out, BF.out⟩
            · cases gk with
              | zero =>
                have := much_false (s := s) (by have := hrow3.out.2.1; simpa using this)
                rw [much, hq.out] at this
                cases this
              | succ f =>
                have hh2 : Hid (halves f (s.map (· / 2)) = bumpedL xs vs by_) := by
                  have := hh.out
                  rw [halves, if_pos (by rw [much]; exact hq.out)] at this
                  exact this
                have hlen : Hid (s.length = n) := by have := hrow3.out.1.len; rw [List.length_map] at this; exact this
                have hW : Hid (Within (1000000 * 2 ^ (f + 1)) s) := hrow3.out.2.1
                have hR0 : Hid (RowAt w w3 (w1.heap.size + 1) A2 n c2 (hv s 0) 128000000) := by
                  rw [hv_zero]
                  have := HPW.out
                  exact ⟨hrow3.out.1, hrow3.out.2.1.mono (by omega), hrow3.out.2.2⟩
                clear hrow3 hq hh
                go_wp2_with fail
                go_loopw [72] (fun i wr => ∃ j : Nat, j ≤ n ∧ i = .int .i64 j ∧ Hid (RowAt w wr (w1.heap.size + 1) A2 n c2 (hv s j) 128000000)) (fun i _ => n - (intOf i).toNat)
                case atStart => exact ⟨0, Nat.zero_le _, rfl, hR0⟩
                case round =>
                  obtain ⟨j, hj, rfl, hrow⟩ := hrel
                  by_cases hlt : j < n
                  · obtain ⟨gb, y, rfl, hgb, hgl, hc, hf, y0, y1, hyj⟩ := hrow.out.at_ (k := j) hlt
                    obtain ⟨z, hz⟩ : ∃ z, s[j]? = some z := ⟨_, List.getElem?_eq_getElem (by rw [hlen.out]; exact hlt)⟩
                    obtain rfl : y = z := by have := hyj.out; rw [hv_get hz] at this; cases this; rfl
                    have hrow' := Lib.hid (hrow.out.set_ (by omega) j (y / 2) (b' := 128000000) (by omega) (by omega) (by omega))
                    rw [hv_set hz] at hrow'
                    have z2 : (j : Int) < (n : Int) := by omega
                    have z3 : (0 : Int) ≤ (j : Int) := by omega
                    clear hz
                    go_wp2_with fail
                    go_roundw
                    case rel => exact ⟨j + 1, by omega, by go_num, hrow'⟩
                    case measure => simp [intOf]; omega
                  · have hrow2 : Hid (RowAt w wr (w1.heap.size + 1) A2 n c2 (s.map (· / 2)) (1000000 * 2 ^ f)) := by
                      have h1 := hrow.out
                      rw [hv_full s j (by rw [hlen.out]; omega)] at h1
                      refine ⟨h1.1, Within.half (hW.out.mono ?_), h1.2.2⟩
                      rw [Int.pow_succ]
                      omega
                    clear hrow
                    go_wp2_with fail
                    go_roundg f
                    case measure => omega
                    case rel => exact ⟨_, by omega, hrow2, hh2⟩
end Go.Proofs.Ytehhhidjgngibaa
