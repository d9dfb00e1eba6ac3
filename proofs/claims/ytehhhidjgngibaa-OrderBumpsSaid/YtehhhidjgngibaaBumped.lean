/- Contract of the reference's Bumped. -/
import Derived.Test.YtehhhidjgngibaaClone
import Derived.Test.YtehhhidjgngibaaBumpPlain
namespace Go.Proofs.Ytehhhidjgngibaa
open Go.RowKit

/-- The state of a row of ints of the call's own. -/
def RowB (w wr : World) (base : Nat) (A : Option Addr) (n c : Nat) (s : List Int) (b : Int) : Prop :=
  Own 3 wr base A n c (s.map (Value.int .i64)) ∧ Within b s ∧ Below w.heap.size w wr
theorem RowB.at_ {w wr : World} {base n c : Nat} {A : Option Addr} {s : List Int} {b : Int} (h : RowB w wr base A n c s b) {k : Nat} (hk : k < n) :
    ∃ g y, A = some ⟨g, 0, none⟩ ∧ base ≤ g ∧ g < wr.heap.size ∧ wr.cell? ⟨g, k, none⟩ = some (.int .i64 y) ∧ wr.frozen? ⟨g, k, none⟩ = false ∧ 0 ≤ y ∧ y ≤ b ∧ Hid (s[k]? = some y) := by
  obtain ⟨g, u, e, hg, hlt, hc, hf, hu⟩ := h.1.at_ hk
  have hu' := hu.out
  rw [List.getElem?_map, Option.map_eq_some_iff] at hu'
  obtain ⟨y, hy, rfl⟩ := hu'
  have := h.2.1 y (List.mem_of_getElem? hy)
  exact ⟨g, y, e, hg, hlt, hc, hf, this.1, this.2, hy⟩
theorem RowB.set_ {w wr : World} {base n c g : Nat} {s : List Int} {b b' : Int} (h : RowB w wr base (some ⟨g, 0, none⟩) n c s b) (hbase : w.heap.size ≤ base) (k : Nat) (y : Int) (h0 : 0 ≤ y) (hy : y ≤ b') (hbb : b ≤ b') :
    RowB w (wr.setCell ⟨g, k, none⟩ (.int .i64 y)) base (some ⟨g, 0, none⟩) n c (s.set k y) b' := by
  have hg : base ≤ g := by
    rcases h.1.form with ⟨h0, _⟩ | ⟨g', cur, h0, hg, _⟩
    · cases h0
    · cases h0; exact hg
  refine ⟨?_, (h.2.1.mono hbb).set_ k h0 hy, h.2.2.setCell (p := ⟨g, k, none⟩) (show w.heap.size ≤ g by omega) _⟩
  rw [List.map_set]
  exact h.1.set_ k _
theorem RowB.drew {w wr : World} {base n c : Nat} {A : Option Addr} {s : List Int} {b : Int} (h : RowB w wr base A n c s b) : RowB w wr.drew base A n c s b := ⟨h.1.keep (below_drewN wr 1), h.2.1, h.2.2.drew⟩

set_option maxHeartbeats 2000000 in
theorem bumped_ref (A B : Option Addr) (n c m d : Nat) (xs vs : List Int) (by_ : Int) (w : World) (h : Ints w A n c xs) (h' : Ints w B m d vs) (hn : n ≤ 120) (hm : m ≤ 120) (hv : ∀ v ∈ vs, 1 ≤ v ∧ v ≤ (n : Int)) (hin : Within 1000000 xs) (hby1 : 0 ≤ by_) (hby2 : by_ ≤ 1000000) :
    Calls Try.prog 32 #[.slice A n c, .slice B m d, .int .i64 by_] w (RetInts (bumpedL xs vs by_) w) := by
  have hbd := h.bd
  have hbd' := h'.bd
  have hl := Lib.hid h.len
  have hl' := Lib.hid h'.len
  have HV := Lib.hid hv
  have HIN := Lib.hid hin
  clear hv hin
  obtain ⟨i0, hi0, hz0, hz1, hz2⟩ := info_parts int_info
  have hk := h.keep (below_new w (.cells #[] 3))
  go_enter Try.func32, Try.ntmps32
  go_wp2_with (first
    | (at_builtin
       refine wpList_append_sl _ rfl (.tmp 12) (.tmp 13) _ rfl w.heap.size 3 i0 _ 8 Try.underlying22 hi0 hz0 hz1 hz2 rfl (some ⟨w.heap.size, 0, none⟩) 0 0 [] rfl (own_empty _ _ _ rfl (Nat.le_refl _)) A n c _ rfl hk.sl (ints_one _) (by simp only [maxLen]; omega) (by omega) (by simp) ?_
       intro A2 c2 w2 hown hg hat))
  have HR : Hid (RowB w w2 w.heap.size A2 n c2 xs 1000000) := ⟨by simpa using hown, HIN.out, below_grown (below_new _ _) (own_empty 3 w w.heap.size rfl (Nat.le_refl _)) (Nat.le_refl _) hg⟩
  clear hown hg hat hk
  go_loopw [8] (fun i wr => ∃ (k : Nat) (s : List Int), k ≤ m ∧ i = .int .i64 k ∧ Hid (RowB w wr w.heap.size A2 n c2 s (1000000 * (k + 1))) ∧ Hid (addAll by_ s (vs.drop k) = addAll by_ xs vs)) (fun i _ => m - (intOf i).toNat)
  case atStart => exact ⟨0, xs, Nat.zero_le _, rfl, by simpa using HR, rfl⟩
  case round =>
    obtain ⟨k, s, hk, rfl, hrow, hadd⟩ := hrel
    have hx' := h'.keep hrow.out.2.2
    by_cases hlt : k < m
    · obtain ⟨b, off, v, rfl, hb, hcell, _, _, hy⟩ := hx'.round hlt
      have hvv := HV.out v (List.mem_of_getElem? hy.out)
      obtain ⟨j, hj⟩ : ∃ j : Nat, v = (j : Int) + 1 := ⟨(v - 1).toNat, by omega⟩
      obtain ⟨gb, y, rfl, hgb, hgl, hc, hf, y0, y1, hyj⟩ := hrow.out.at_ (k := j) (by omega)
      have z1 : v - 1 = (j : Int) := by omega
      have zw : IntKind.i64.wrap (v - 1) = (j : Int) := by rw [z1]; exact IntWalk.i64_in _ (by omega)
      have z2 : (j : Int) < (n : Int) := by omega
      have z3 : (0 : Int) ≤ (j : Int) := by omega
      have z6 : (k : Int) < (m : Int) := by omega
      have z7 : (0 : Int) ≤ (k : Int) := by omega
      have hrow' := Lib.hid (hrow.out.set_ (by omega) j (y + by_) (b' := 1000000 * ((k + 1 : Nat) + 1)) (by omega) (by omega) (by omega)).drew
      have hadd' : Hid (addAll by_ (s.set j (y + by_)) (vs.drop (k + 1)) = addAll by_ xs vs) := by
        have := hadd.out
        rw [drop_cons_of hy.out, addAll, z1, show ((j : Int)).toNat = j by omega, hyj.out] at this
        exact this
      have z4 : y ≤ 1000000000 := by omega
      have zy : IntKind.i64.wrap (y + by_) = y + by_ := IntWalk.i64_in _ (by omega)
      clear hvv y1 hj
      go_wp2_with fail
      go_region
      go_wp2_with fail
      go_roundw
      case rel => exact ⟨k + 1, _, by omega, by go_num, hrow', hadd'⟩
      case measure => simp [intOf]; omega
    · have HR2 : Hid (RowB w wr w.heap.size A2 n c2 (addAll by_ xs vs) 128000000) := by
        have := hadd.out
        rw [List.drop_of_length_le (by have := hl'.out; omega), addAll] at this
        rw [← this]
        exact ⟨hrow.out.1, hrow.out.2.1.mono (by omega), hrow.out.2.2⟩
      clear hrow hadd hx'
      go_wp2_with fail
      clear hlt
      go_loopg [9, 10, 11] 7 (fun f _ _ _ wr => ∃ s : List Int, f ≤ 7 ∧ Hid (RowB w wr w.heap.size A2 n c2 s (1000000 * 2 ^ f)) ∧ Hid (halves f s = bumpedL xs vs by_))
      case atStart => exact ⟨_, Nat.le_refl _, HR2, rfl⟩
      case round =>
        obtain ⟨s, hf7, hrow, hh⟩ := hrel
        have hpow : (2 : Int) ^ gk ≤ 128 := by
          have h1 : (2 : Nat) ^ gk ≤ 2 ^ 7 := Nat.pow_le_pow_right (by omega) hf7
          have h2 : ((2 ^ gk : Nat) : Int) = (2 : Int) ^ gk := by simp
          omega
        have HPW := Lib.hid hpow
        have hlen : Hid (s.length = n) := by have := hrow.out.1.len; rw [List.length_map] at this; exact this
        have hR1 : Hid (RowB w wr w.heap.size A2 n c2 s 128000000) := ⟨hrow.out.1, hrow.out.2.1.mono (by omega), hrow.out.2.2⟩
        obtain ⟨q, hq⟩ : ∃ q, Hid (much s = q) := ⟨_, rfl⟩
        clear hpow
        go_wp2_with fail
        go_loop [9, 10] (fun mu i => ∃ (j : Nat) (t : Bool), j ≤ n ∧ mu = .bool t ∧ i = .int .i64 j ∧ Hid ((t || much (s.drop j)) = q)) (fun _ i => n - (intOf i).toNat)
        case atStart => exact ⟨0, false, Nat.zero_le _, rfl, rfl, by simpa [Hid] using hq.out⟩
        case round =>
          obtain ⟨j, t, hj, rfl, rfl, ht⟩ := hrel
          by_cases hlt : j < n
          · obtain ⟨gb, y, rfl, hgb, hgl, hc, hf, y0, y1, hyj⟩ := hR1.out.at_ (k := j) hlt
            have ht2 : Hid ((t || (decide (1000000 < y) || much (s.drop (j + 1)))) = q) := by
              have := ht.out
              rw [drop_cons_of hyj.out, much, List.any_cons] at this
              exact this
            have z2 : (j : Int) < (n : Int) := by omega
            have z3 : (0 : Int) ≤ (j : Int) := by omega
            cases t
            · by_cases hy : 1000000 < y
              · have dy : decide (1000000 < y) = true := decide_eq_true hy
                go_wp2_with fail
                go_round
                case rel => exact ⟨j + 1, true, by omega, rfl, by go_num, by have := ht2.out; rw [dy] at this; simpa [Hid] using this⟩
                case measure => simp [intOf]; omega
              · have dy : decide (1000000 < y) = false := decide_eq_false hy
                go_wp2_with fail
                go_round
                case rel => exact ⟨j + 1, false, by omega, rfl, by go_num, by have := ht2.out; rw [dy] at this; simpa [Hid] using this⟩
                case measure => simp [intOf]; omega
            · go_wp2_with fail
              go_round
              case rel => exact ⟨j + 1, true, by omega, rfl, by go_num, by have := ht2.out; simpa [Hid] using this⟩
              case measure => simp [intOf]; omega
          · have ht3 : t = q := by
              have := ht.out
              rw [List.drop_of_length_le (by rw [hlen.out]; omega)] at this
              simpa [much] using this
            subst ht3
            clear ht
            cases t
            · have HRes : Hid (s = bumpedL xs vs by_) := by
                have := hh.out
                cases gk with
                | zero => exact this
                | succ f => rw [halves, if_neg (by rw [hq.out]; simp)] at this; exact this
              go_wp2_with fail
              go_ret
              exact ⟨A2, n, c2, rfl, by rw [← HRes.out]; exact hR1.out.1, hR1.out.2.2⟩
            · cases gk with
              | zero =>
                have := much_false (s := s) (by have := hrow.out.2.1; simpa using this)
                rw [hq.out] at this
                cases this
              | succ f =>
                have hh2 : Hid (halves f (s.map (· / 2)) = bumpedL xs vs by_) := by
                  have := hh.out
                  rw [halves, if_pos hq.out] at this
                  exact this
                have hW : Hid (Within (1000000 * 2 ^ (f + 1)) s) := hrow.out.2.1
                have hR0 : Hid (RowB w wr w.heap.size A2 n c2 (hv s 0) 128000000) := by rw [hv_zero]; exact hR1
                clear hrow hq hh hR1
                go_wp2_with fail
                clear hlt
                go_loopw [11] (fun i wr => ∃ j : Nat, j ≤ n ∧ i = .int .i64 j ∧ Hid (RowB w wr w.heap.size A2 n c2 (hv s j) 128000000)) (fun i _ => n - (intOf i).toNat)
                case atStart => exact ⟨0, Nat.zero_le _, rfl, hR0⟩
                case round =>
                  obtain ⟨j, hj, rfl, hrow⟩ := hrel
                  by_cases hlt : j < n
                  · obtain ⟨gb, y, rfl, hgb, hgl, hc, hf, y0, y1, hyj⟩ := hrow.out.at_ (k := j) hlt
                    obtain ⟨z, hz⟩ : ∃ z, s[j]? = some z := ⟨_, List.getElem?_eq_getElem (by rw [hlen.out]; exact hlt)⟩
                    obtain rfl : y = z := by have := hyj.out; rw [hv_get hz] at this; cases this; rfl
                    have hrow' := Lib.hid (hrow.out.set_ (by omega) j (y / 2) (b' := 128000000) (by omega) (by omega) (by omega))
                    rw [hv_set hz] at hrow'
                    have z2 : (j : Int) < (n : Int) := by omega
                    have z3 : (0 : Int) ≤ (j : Int) := by omega
                    clear hz
                    go_wp2_with fail
                    go_roundw
                    case rel => exact ⟨j + 1, by omega, by go_num, hrow'⟩
                    case measure => simp [intOf]; omega
                  · have hrow2 : Hid (RowB w wr w.heap.size A2 n c2 (s.map (· / 2)) (1000000 * 2 ^ f)) := by
                      have h1 := hrow.out
                      rw [hv_full s j (by rw [hlen.out]; omega)] at h1
                      refine ⟨h1.1, Within.half (hW.out.mono ?_), h1.2.2⟩
                      rw [Int.pow_succ]
                      omega
                    clear hrow
                    go_wp2_with fail
                    go_roundg f
                    case measure => omega
                    case rel => exact ⟨_, by omega, hrow2, hh2⟩
end Go.Proofs.Ytehhhidjgngibaa
