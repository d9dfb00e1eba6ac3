/- Contracts of cnf.Var, cnf.Bad and its closure; of the reference's Of, Wrong. -/
import Derived.Test.YtlfgcblijfflfaaGreatSlices
import Derived.Test.YtlfgcblijfflfaaGreatRefA
namespace Go.Proofs.YtlfgcblijfflfaaGreat
open Go.RowKit

theorem var_any (x : Int) (w : World) (h1 : -9223372036854775807 ≤ x) (h2 : x ≤ 9223372036854775807) : Calls Tryz.prog 48 #[.int .i64 x] w (RetQ (.int .i64 x.natAbs) w) := by
  go_enter Tryz.func48, Tryz.ntmps48
  go_wp2_with fail
  all_goals
    go_ret
    exact RetQ.of0 (by show Value.int _ _ = Value.int _ _; congr 1; omega)
theorem nat_beq (a b : Nat) : ((a : Int) == (b : Int)) = (a == b) := by rw [Bool.eq_iff_iff]; simp; omega

theorem bad_lit (z y : Int) (B : Nat) (W : World) (hc : W.cell? ⟨B, 0, none⟩ = some (.int .i64 y)) (h1 : -9223372036854775807 ≤ z) (h2 : z ≤ 9223372036854775807) (h3 : -9223372036854775807 ≤ y) (h4 : y ≤ 9223372036854775807) :
    Calls Tryz.prog 104 #[.int .i64 z, .pointer (some ⟨B, 0, none⟩)] W (RetQ (.bool (z.natAbs == y.natAbs)) W) := by
  go_enter Tryz.func104, Tryz.ntmps104
  go_wp2_with fail
  go_quiet ((go_at_call 48; exact RetQ.quiet (var_any _ _ (by omega) (by omega))))
  go_wp2_with fail
  go_ret
  exact RetQ.of _ (by rw [nat_beq]; rfl)

theorem enters_bad : Enters Tryz.prog 104 := enters_of Tryz.func104 (by kernel_rfl) rfl

set_option maxHeartbeats 1000000 in
theorem bad_any (A : Option Addr) (n c : Nat) (xs : List Int) (vars : Int) (w : World) (h : Ints w A n c xs) (v0 : 0 ≤ vars) (v1 : vars ≤ 1000000) (r1 r2 : Int) (hr : Hid (badF vars [] xs = (r1, r2))) :
    Calls Tryz.prog 85 #[.slice A n c, .int .i64 vars] w (RetV (.tuple #[.int .i64 r1, .int .i64 r2]) w) := by
  have hbd := h.bd
  have hlen := Lib.hid h.len
  go_enter Tryz.func85, Tryz.ntmps85
  go_wp2_with fail
  go_loopw [10] (fun i wr => ∃ k : Nat, k ≤ n ∧ i = .int .i64 k ∧ Hid (badF vars (xs.take k) (xs.drop k) = (r1, r2)) ∧ Hid (∀ z ∈ xs.take k, -vars ≤ z ∧ z ≤ vars) ∧ Hid (Below w.heap.size w wr)) (fun i _ => n - (intOf i).toNat)
  case atStart => exact ⟨0, Nat.zero_le _, rfl, hr.out, by simp [Hid], Below.refl _ _⟩
  case round =>
    obtain ⟨k, hk, rfl, hn, hz, hB⟩ := hrel
    by_cases hlt : k < n
    · have hx := h.keep hB.out
      obtain ⟨b, off, y, rfl, hb, hcell, y1, y2, hy⟩ := hx.round hlt
      have hlk : (xs.take k).length = k := by rw [List.length_take, hlen.out]; omega
      have HLK := Lib.hid hlk
      clear hlk
      by_cases hy0 : y = 0 ∨ y < -vars ∨ vars < y
      · have : (r1, r2) = ((k : Int), 3) := by rw [← hn.out, drop_cons_of hy.out, badF, if_pos hy0, HLK.out]
        cases this
        have HB1 := Lib.hid (below_alloc hB.out (.cells #[.int .i64 y] 3))
        rcases Decidable.em (y = 0) with hz0 | hz0
        · subst hz0
          clear hy0
          go_wp2_with fail
          go_ret2
          exact ⟨rfl, HB1.out⟩
        · have d0 : (y == 0) = false := by simpa using hz0
          rcases Decidable.em (y < -vars) with hz1 | hz1
          · clear hy0
            go_wp2_with fail
            go_ret2
            exact ⟨rfl, HB1.out⟩
          · have hz2 : vars < y := by omega
            clear hy0
            go_wp2_with fail
            go_ret2
            exact ⟨rfl, HB1.out⟩
      · have d0 : (y == 0) = false := by simp; omega
        have d1 : ¬ y < -vars := by omega
        have d2 : ¬ vars < y := by omega
        obtain ⟨q, hq⟩ : ∃ q, Hid ((hasB (xs.take k) y || hasB (xs.take k) (-y)) = q) := ⟨_, rfl⟩
        have HN : Hid ((if q then ((k : Int), 7) else badF vars (xs.take (k + 1)) (xs.drop (k + 1))) = (r1, r2)) := by
          have := hn.out
          rw [drop_cons_of hy.out, badF, if_neg hy0, hq.out, HLK.out] at this
          rw [take_snoc_of hy.out]
          exact this
        have HZ : Hid (∀ z ∈ xs.take (k + 1), -vars ≤ z ∧ z ≤ vars) := by
          rw [take_snoc_of hy.out]
          intro z hz'
          rcases List.mem_append.1 hz' with hz' | hz'
          · exact hz.out z hz'
          · simp at hz'; subst hz'; omega
        clear hy0 hn
        have hsl := (hx.take (Nat.le_of_lt hlt)).keep (below_new wr (.cells #[.int .i64 y] 3))
        have HB1 := Lib.hid (below_alloc hB.out (.cells #[.int .i64 y] 3))
        have HP : Pred 104 #[.pointer (some ⟨wr.heap.size, 0, none⟩)] (xs.take k) (fun z => z.natAbs == y.natAbs) (wr.alloc (.cells #[.int .i64 y] 3)) := by
          intro W x hW hx
          have hzx := hz.out x hx
          exact (bad_lit x y wr.heap.size W (keepBox hW (by simp [go_sem])) (by omega) (by omega) (by omega) (by omega)).mono fun _ _ hh => hh.v
        have HP' := Lib.hid HP
        have HQ : Hid ((xs.take k).any (fun z => z.natAbs == y.natAbs) = q) := by rw [any_abs]; exact hq
        clear HP hq
        go_wp2_with fail
        refine (containsFunc_ints _ _ _ _ _ hsl _ _ enters_bad _ HP'.out q HQ).mono ?_
        rintro e w1 ⟨rfl, hb1⟩
        have HB2 := Lib.hid (below_next HB1.out hb1)
        clear hb1
        cases q
        · go_wp2_with fail
          go_roundw
          case rel => exact ⟨k + 1, by omega, by go_num, HN.out, HZ, HB2⟩
          case measure => simp [intOf]; omega
        · have := HN.out
          simp at this
          obtain ⟨rfl, rfl⟩ := this
          go_wp2_with fail
          go_ret2
          exact ⟨rfl, HB2.out⟩
    · have : (r1, r2) = (0, 0) := by rw [← hn.out, List.drop_of_length_le (by have := hlen.out; omega), badF]
      cases this
      go_wp2_with fail
      go_ret2
      exact ⟨rfl, hB.out⟩

end Go.Proofs.YtlfgcblijfflfaaGreat
