/- Contracts of sub.strengthened; of the reference's Second. -/
import Derived.Test.YtecgmgidfjbamaaSubLoops
namespace Go.Proofs.Ytecgmgidfjbamaa
open Go.RowKit
set_option linter.unusedSimpArgs false

theorem strIn_cons {a b : List Int} {l : List (List Int)} {k : Nat} (h : l[k]? = some b) : strIn a (l.drop k) k = if strP a b a 0 ≠ 0 then (k, strP a b a 0) else strIn a (l.drop (k + 1)) (k + 1) := by rw [drop_cons_of h, strIn]
theorem strFst_cons {a : List Int} {l : List (List Int)} {i : Nat} (h : l[i]? = some a) : strFst l (l.drop i) = if (strIn a l 0).2 ≠ 0 then strIn a l 0 else strFst l (l.drop (i + 1)) := by rw [drop_cons_of h, strFst]
theorem strP_cons {a b : List Int} {p : Nat} {x : Int} (h : a[p]? = some x) : strP a b (a.drop p) p = if overF (a.set p (-x)) b then -x else strP a b (a.drop (p + 1)) (p + 1) := by rw [drop_cons_of h, strP]

set_option maxHeartbeats 4000000 in
set_option maxRecDepth 100000 in
theorem strengthened_any (A : Option Addr) (n c : Nat) (l : List (List Int)) (vars : Int) (w : World) (h : Grid w A n c l) (hl : ∀ x ∈ l, Lits vars x) (v0 : 0 ≤ vars) (v1 : vars ≤ 1000) (hn : n ≤ 1000000) (r1 : Nat) (r2 : Int) (hr : Hid (sndF l = (r1, r2))) :
    Calls Try.prog 60 #[.slice A n c] w (RetV (.tuple #[.int .i64 r1, .int .i64 r2]) w) := by
  have hbd := h.bd
  have hlen := Lib.hid h.len
  have G := Lib.hid h
  have HLT := Lib.hid hl
  clear h hl
  go_enter Try.func60, Try.ntmps60
  go_wp2_with fail
  go_loopw [13] (fun s wr => ∃ i : Nat, i ≤ n ∧ s = .int .i64 i ∧ Hid (strFst l (l.drop i) = (r1, r2)) ∧ Hid (Below w.heap.size w wr)) (fun s _ => n - (intOf s).toNat)
  case atStart => exact ⟨0, Nat.zero_le _, rfl, hr, Below.refl _ _⟩
  case round =>
    obtain ⟨i, hi, rfl, hgo, hbl⟩ := hrel
    obtain ⟨wo, hwo⟩ : ∃ wo : World, wo = wr := ⟨_, rfl⟩
    subst hwo
    by_cases hlt : i < n
    · obtain ⟨b0, off, X, nx, cx, a, hLe, hb, hcell, hx, hak⟩ := (G.out.keep hbl.out).round hlt
      subst hLe
      have HX := Lib.hid hx
      have ha := Lib.hid (HLT.out a (List.mem_of_getElem? hak.out))
      have hnx : nx ≤ 1000 := by have h1 := ha.out.len_le v0; rw [hx.len] at h1; omega
      have hxl := Lib.hid hx.len
      have hbdx := hx.bd
      obtain ⟨q, hq⟩ : ∃ q, Hid (strIn a l 0 = q) := ⟨_, rfl⟩
      have hgo2 : Hid ((if q.2 ≠ 0 then q else strFst l (l.drop (i + 1))) = (r1, r2)) := by have := hgo.out; rw [strFst_cons hak.out, hq.out] at this; exact this
      have y1 : (0 : Int) ≤ (i : Int) := by omega
      have y2 : (i : Int) < (n : Int) := by omega
      clear hgo hx
      go_wp2_with fail
      go_loopw [20] (fun s wr => ∃ k : Nat, k ≤ n ∧ s = .int .i64 k ∧ Hid (strIn a (l.drop k) k = q) ∧ Hid (Below wo.heap.size wo wr)) (fun s _ => n - (intOf s).toNat)
      case atStart => exact ⟨0, Nat.zero_le _, rfl, hq, Below.refl _ _⟩
      case round =>
        obtain ⟨k, hk, rfl, hin, hbk⟩ := hrel
        obtain ⟨wv, hwv⟩ : ∃ wv : World, wv = wr := ⟨_, rfl⟩
        subst hwv
        by_cases hkn : k < n
        · obtain ⟨b0', off', Y, ny, cy, b, hAe, hb', hcell', hy, hbk'⟩ := ((G.out.keep hbl.out).keep hbk.out).round hkn
          cases hAe
          have HY := Lib.hid hy
          have hyl := Lib.hid hy.len
          have hbdy := hy.bd
          obtain ⟨s, hs⟩ : ∃ s, Hid (strP a b a 0 = s) := ⟨_, rfl⟩
          have hin2 : Hid ((if s ≠ 0 then (k, s) else strIn a (l.drop (k + 1)) (k + 1)) = q) := by have := hin.out; rw [strIn_cons hbk'.out, hs.out] at this; exact this
          have y3 : (0 : Int) ≤ (k : Int) := by omega
          have y4 : (k : Int) < (n : Int) := by omega
          clear hin hy
          by_cases hik : i = k
          · subst hik
            have hab : a = b := by have h1 := hak.out; rw [hbk'.out] at h1; cases h1; rfl
            have hs0 : s = 0 := by rw [← hs.out]; exact strP_zero ha.out (.inl hab)
            clear hab
            have hin3 : Hid (strIn a (l.drop (i + 1)) (i + 1) = q) := by have := hin2.out; rw [hs0] at this; simpa [Hid] using this
            clear hs0
            have dk : ((i : Int) == (i : Int)) = true := by simp
            go_wp2_with fail
            go_roundw
            case rel => exact ⟨i + 1, by omega, by go_num, hin3, hbk⟩
            case measure => simp [intOf]; omega
          · have dk : ((i : Int) == (k : Int)) = false := by simp; omega
            have dk2 : (i == k) = false := by simpa using hik
            by_cases hln : ny < nx
            · have hs0 : s = 0 := by rw [← hs.out]; exact strP_zero ha.out (.inr (by rw [hxl.out, hyl.out]; exact hln))
              have hin3 : Hid (strIn a (l.drop (k + 1)) (k + 1) = q) := by have := hin2.out; rw [hs0] at this; simpa [Hid] using this
              clear hs0
              go_wp2_with fail
              go_roundw
              case rel => exact ⟨k + 1, by omega, by go_num, hin3, hbk⟩
              case measure => simp [intOf]; omega
            · go_wp2_with fail
              go_loopw [37] (fun u wr => ∃ p : Nat, p ≤ nx ∧ u = .int .i64 p ∧ Hid (strP a b (a.drop p) p = s) ∧ Hid (Below wv.heap.size wv wr)) (fun u _ => nx - (intOf u).toNat)
              case atStart => exact ⟨0, Nat.zero_le _, rfl, hs, Below.refl _ _⟩
              case round =>
                obtain ⟨p, hp, rfl, hst, hbp⟩ := hrel
                have HXW := Lib.hid ((HX.out.keep hbk.out).keep hbp.out)
                have HYW := Lib.hid (HY.out.keep hbp.out)
                by_cases hpn : p < nx
                · obtain ⟨b3, off3, x, hXe, hb3, hcell3, x1, x2, hxp⟩ := HXW.out.round hpn
                  subst hXe
                  have hxb := ha.out.1 x (List.mem_of_getElem? hxp.out)
                  have y5 : (0 : Int) ≤ (p : Int) := by omega
                  have y6 : (p : Int) < (nx : Int) := by omega
                  obtain ⟨t, ht⟩ : ∃ t, Hid (overF (a.set p (-x)) b = t) := ⟨_, rfl⟩
                  have ht2 : Hid ((decide ((a.set p (-x)).length ≤ b.length) && overF (a.set p (-x)) b) = t) := by rw [over_set ha.out hxp.out]; exact ht
                  have hst2 : Hid ((if t then -x else strP a b (a.drop (p + 1)) (p + 1)) = s) := by have := hst.out; rw [strP_cons hxp.out, ht.out] at this; exact this
                  clear hst
                  go_wp2_with fail
                  refine (clone_ints _ _ _ a _ HXW.out (by omega)).mono ?_
                  rintro e w5 ⟨A5, n5, c5, rfl, hown5, hb5⟩
                  have hn5 : n5 = nx := by have h1 := hown5.len; rw [List.length_map, hxl.out] at h1; exact h1.symm
                  subst hn5
                  obtain ⟨g5, u5, hA5, hg5, hgl5, hc5, hf5, _⟩ := hown5.at_ hpn
                  subst hA5
                  have O5 := Lib.hid (hown5.set_ p (.int .i64 (-x)))
                  have GR5 := hown5.grown_set p (.int .i64 (-x))
                  have BP5 : Hid (Below wv.heap.size wv (w5.setCell ⟨g5, p, none⟩ (.int .i64 (-x)))) := below_grown (below_next hbp.out hb5) hown5 hbp.out.size GR5
                  have IT : Hid (Ints (w5.setCell ⟨g5, p, none⟩ (.int .i64 (-x))) (some ⟨g5, 0, none⟩) n5 c5 (a.set p (-x))) := by
                    have h1 := O5.out
                    have e1 : (a.map (Value.int .i64)).set p (.int .i64 (-x)) = (a.set p (-x)).map (Value.int .i64) := by rw [List.map_set]
                    rw [e1] at h1
                    exact h1.ints (fun z hz => by
                      rcases List.mem_or_eq_of_mem_set hz with hz | rfl
                      · have := ha.out.1 z hz; unfold I64; omega
                      · unfold I64; omega)
                  have HYT : Hid (Ints (w5.setCell ⟨g5, p, none⟩ (.int .i64 (-x))) Y ny cy b) := HYW.out.keep (below_grown hb5 hown5 (Nat.le_refl _) GR5)
                  have zw : IntKind.i64.wrap (-x) = -x := IntWalk.i64_in _ (by omega)
                  have y7 : (0 : Int) ≤ (p : Int) := by omega
                  clear hown5 hb5 O5 GR5 hcell3
                  go_wp2_with fail
                  refine (sub_over _ _ _ _ _ _ (a.set p (-x)) b _ IT.out HYT.out t ht2).mono ?_
                  rintro e w6 ⟨rfl, hb6⟩
                  have BP6 := Lib.hid (below_next BP5.out hb6)
                  clear hb6
                  cases t
                  · go_wp2_with fail
                    go_roundw
                    case rel => exact ⟨p + 1, by omega, by go_num, by have := hst2.out; simpa [Hid] using this, BP6⟩
                    case measure => simp [intOf]; omega
                  · have hsx : -x = s := by have := hst2.out; simpa using this
                    have hq2 : (k, s) = q := by have := hin2.out; rw [if_pos (by rw [← hsx]; omega)] at this; exact this
                    have hrr : (k, s) = (r1, r2) := by have := hgo2.out; rw [← hq2, if_pos (by rw [← hsx]; simp; omega)] at this; exact this
                    obtain ⟨rfl, rfl⟩ : k = r1 ∧ s = r2 := by simpa using hrr
                    subst hsx
                    clear hq2 hrr
                    go_wp2_with fail
                    go_ret2
                    exact ⟨rfl, below_next hbl.out (below_next hbk.out BP6.out)⟩
                · have hs0 : 0 = s := by have := hst.out; rw [List.drop_of_length_le (by rw [hxl.out]; omega), strP] at this; exact this
                  have hin3 : Hid (strIn a (l.drop (k + 1)) (k + 1) = q) := by have := hin2.out; rw [← hs0] at this; simpa [Hid] using this
                  clear hs0
                  go_wp2_with fail
                  go_roundw
                  case rel => exact ⟨k + 1, by omega, by go_num, hin3, below_next hbk.out hbp.out⟩
                  case measure => simp [intOf]; omega
        · have hqm : (0, 0) = q := by have := hin.out; rw [List.drop_of_length_le (by rw [hlen.out]; omega), strIn] at this; exact this
          have hgo3 : Hid (strFst l (l.drop (i + 1)) = (r1, r2)) := by have := hgo2.out; rw [← hqm, if_neg (by simp)] at this; exact this
          go_wp2_with fail
          go_roundw
          case rel => exact ⟨i + 1, by omega, by go_num, hgo3, below_next hbl.out hbk.out⟩
          case measure => simp [intOf]; omega
    · have hrr : (0, 0) = (r1, r2) := by have := hgo.out; rw [List.drop_of_length_le (by rw [hlen.out]; omega), strFst] at this; exact this
      obtain ⟨rfl, rfl⟩ : 0 = r1 ∧ 0 = r2 := by simpa using hrr
      clear hrr
      go_wp2_with fail
      go_ret2
      exact ⟨rfl, hbl.out⟩
end Go.Proofs.Ytecgmgidfjbamaa
