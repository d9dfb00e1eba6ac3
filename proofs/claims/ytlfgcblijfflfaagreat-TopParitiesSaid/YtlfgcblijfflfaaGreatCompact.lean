/- Contracts of slices.CompactFunc with cnf.Normal's closure, slices.Clip, cnf.Normal. -/
import Derived.Test.YtlfgcblijfflfaaGreatNormA
import Derived.Test.YtlfgcblijfflfaaGreatCellsW
import Derived.Lib.SliceRun
import Derived.Deep.Upon
import Derived.Shelf.SlSortFuncK.RowK2
namespace Go.Proofs.YtlfgcblijfflfaaGreat
open Go.RowKit Go.Sort
set_option linter.unusedSimpArgs false

theorem compF_snoc : ∀ (l : List (List Int)) (b a : List Int), compF (l ++ [b] ++ [a]) = if b = a then compF (l ++ [b]) else compF (l ++ [b]) ++ [a]
  | [], b, a => by
    simp only [List.nil_append, List.cons_append, compF]
    split
    · rename_i e; rw [e]
    · rfl
  | x :: l, b, a => by
    have ih := compF_snoc l b a
    obtain ⟨y, r, hy⟩ : ∃ y r, l ++ [b] = y :: r := by cases l with
      | nil => exact ⟨b, [], rfl⟩
      | cons z t => exact ⟨z, t ++ [b], rfl⟩
    rw [hy] at ih
    simp only [List.cons_append] at ih ⊢
    rw [hy]
    simp only [List.cons_append, compF]
    by_cases hxy : x = y
    · rw [if_pos hxy, if_pos hxy]
      exact ih
    · rw [if_neg hxy, if_neg hxy, ih]
      split <;> rfl
theorem compF_short {l : List (List Int)} (h : l.length < 2) : compF l = l := by
  match l, h with
  | [], _ => rfl
  | [x], _ => rfl
  | _ :: _ :: _, h => simp at h; omega
theorem compF_le (l : List (List Int)) : (compF l).length ≤ l.length := by
  match l with
  | [] => simp [compF]
  | [x] => simp [compF]
  | x :: y :: r =>
    have := compF_le (y :: r)
    rw [compF]
    split <;> simp at this ⊢ <;> omega
/-- One more: the one behind is the same as the last, or not. -/
theorem compF_take {xss : List (List Int)} {j : Nat} {x y : List Int} (hx : xss[j]? = some x) (hy : xss[j + 1]? = some y) : compF (xss.take (j + 2)) = if x = y then compF (xss.take (j + 1)) else compF (xss.take (j + 1)) ++ [y] := by
  rw [take_snoc_of hy, take_snoc_of hx]
  exact compF_snoc _ _ _

section
variable {e t : TypeId} {w : World} {base low n c g : Nat} {xss : List (List Int)}
/-- What stands from place p on is cleared: the first p stand. -/
theorem OwnP.cleared (h : OwnP e t w base low (some ⟨g, 0, none⟩) n c xss) (hlow : low ≤ base) (hne : t ≠ e) {p : Nat} (hp : p ≤ n) (l : List Value) : OwnP e t (w.setCells g p l) base low (some ⟨g, 0, none⟩) p c (xss.take p) := by
  obtain ⟨vs, h1, h2⟩ := h
  rcases h1.form with ⟨h0, _⟩ | ⟨g', cur, h0, hg, hh, hle, hcm, hsz, htk⟩
  · cases h0
  · cases h0
    obtain ⟨cur', k1, k2, k3⟩ := heap_setCells g l p w hh
    refine ⟨vs.take p, ⟨by simp [h1.len]; omega, .inr ⟨g, c, cur', rfl, hg, k1, by omega, hcm, by omega, ?_⟩⟩, (h2.take p).kept (grown_setCells w g p l) (fun g' e' => by cases e'; exact ⟨Nat.le_trans hlow hg, ⟨cur, (0, 0), hh⟩⟩) hne⟩
    apply List.ext_getElem?
    intro k
    by_cases hk : k < p
    · have e1 : (vs.take p)[k]? = vs[k]? := List.getElem?_take_of_lt hk
      rw [List.getElem?_take_of_lt (by simpa using hk), e1, ← htk, List.getElem?_take_of_lt (by omega), Array.getElem?_toList, Array.getElem?_toList, k3 k hk]
    · rw [List.getElem?_eq_none (by simp; omega), List.getElem?_eq_none (by simp; omega)]
/-- A row is stored at place p. -/
theorem OwnP.put {A' : Option Addr} {n' c' : Nat} {xs : List Int} (h : OwnP e t w base low (some ⟨g, 0, none⟩) n c xss) (hlow : low ≤ base) (hne : t ≠ e) {p : Nat} (hp : p < n) (hi : Ints w A' n' c' xs) (ha : Away t w low A' n') :
    OwnP e t (w.setCell ⟨g, p, none⟩ (.slice A' n' c')) base low (some ⟨g, 0, none⟩) n c (xss.set p xs) := by
  obtain ⟨vs, h1, h2⟩ := h
  have h3 : RowsP t w low (vs.set p (.slice A' n' c')) (xss.set p xs) := by
    refine ⟨by simp [h2.1], fun k v hv => ?_⟩
    by_cases hk : p = k
    · subst hk
      have hl : p < vs.length := by rw [h1.len]; exact hp
      rw [List.getElem?_set_self hl] at hv
      cases hv
      exact ⟨A', n', c', xs, rfl, List.getElem?_set_self (by rw [← h2.1]; exact hl), hi, ha⟩
    · rw [List.getElem?_set_ne hk] at hv
      obtain ⟨B, m, d, ys, e1, hx, r⟩ := h2.2 k v hv
      exact ⟨B, m, d, ys, e1, by rw [List.getElem?_set_ne hk]; exact hx, r⟩
  exact ⟨_, h1.set_ p _, h3.kept (h1.grown_set p _) (own_rows h1 hlow) hne⟩
end
theorem OwnP.len' {e t : TypeId} {w : World} {base low n c : Nat} {A : Option Addr} {xss : List (List Int)} (h : OwnP e t w base low A n c xss) : xss.length = n ∧ n ≤ c ∧ c ≤ 9223372036854775807 := by
  have h1 := h.grid.bd
  exact ⟨h.len, h1.1, h1.2⟩

set_option maxHeartbeats 4000000 in
set_option maxRecDepth 100000 in
theorem compactFunc_rows (base low g n c : Nat) (xss : List (List Int)) (w : World) (h : OwnP 22 3 w base low (some ⟨g, 0, none⟩) n c xss) (hlow : low ≤ base) (hn : n ≤ 1000000) :
    Calls Tryz.prog 63 #[.slice (some ⟨g, 0, none⟩) n c, .func (.func 64) #[] #[]] w fun e w' => ∃ n', e = .returned (.slice (some ⟨g, 0, none⟩) n' c) ∧ OwnP 22 3 w' base low (some ⟨g, 0, none⟩) n' c (compF xss) ∧ w.grownBy w' (some g) := by
  obtain ⟨hlen, hnc, hc63⟩ := h.len'
  have HL := Lib.hid hlen
  have en := enters_n2
  have H := Lib.hid h
  clear h hlen
  by_cases h2 : n < 2
  · go_enter Tryz.func63, Tryz.ntmps63
    go_wp2_with fail
    go_ret
    exact ⟨n, rfl, by rw [compF_short (by rw [HL.out]; exact h2)]; exact H.out, World.grownBy.refl w _⟩
  · go_enter Tryz.func63, Tryz.ntmps63
    go_wp2_with fail
    go_loopw [5] (fun i wr => ∃ j : Nat, j + 1 ≤ n ∧ i = .int .i64 ((j + 1 : Nat) : Int) ∧ Hid (∃ m, wr = w.drewN m) ∧ Hid (compF (xss.take (j + 1)) = xss.take (j + 1))) (fun i _ => n - (intOf i).toNat)
    case atStart => exact ⟨0, by omega, rfl, ⟨0, rfl⟩, compF_short (by simp; omega)⟩
    case round =>
      obtain ⟨j, hj, rfl, hB, hC⟩ := hrel
      have hbl : Below w.heap.size w wr := by obtain ⟨m, rfl⟩ := hB.out; exact below_drewN w m
      have HO := Lib.hid (H.out.keep hbl)
      have HGR : Hid (w.grownBy wr (some g)) := by obtain ⟨m, rfl⟩ := hB.out; exact ⟨rfl, rfl, rfl, Nat.le_refl _, fun _ _ _ => rfl⟩
      clear hbl
      by_cases hlt : j + 1 < n
      · obtain ⟨g1, X, nx, cx, x, hge, _, _, cx0, _, hx, _, hxk⟩ := HO.out.round (k := j) (by omega)
        cases hge
        obtain ⟨g1, Y, ny, cy, y, hge, _, _, cy0, _, hy, _, hyk⟩ := HO.out.round hlt
        cases hge
        have hT := hxk
        have HX := Lib.hid hx
        have HY := Lib.hid hy
        obtain ⟨q, hq⟩ : ∃ q, Hid (sameB y x = q) := ⟨_, rfl⟩
        have y1 : ((j + 1 : Nat) : Int) - 1 = (j : Int) := by omega
        have y2 : (0 : Int) ≤ (j : Int) := by omega
        have y3 : (j : Int) < (n : Int) := by omega
        have y4 : ((j + 1 : Nat) : Int) < (n : Int) := by omega
        have y5 : (0 : Int) ≤ ((j + 1 : Nat) : Int) := by omega
        clear hx hy
        go_wp2_with fail
        go_quiet ((go_at_call 64; exact RetQ.quiet (normal2_any _ _ _ _ _ _ y x _ (HY.out.drewN _) (HX.out.drewN _) _ hq)))
        obtain ⟨wq, hwq⟩ : ∃ wq : World, wq = wr.drewN nq := ⟨_, rfl⟩
        have hbq : Below wr.heap.size wr wq := by rw [hwq]; exact below_drewN _ _
        have HB1 : Hid (∃ m, wq = w.drewN m) := by obtain ⟨m, e⟩ := hB.out; exact ⟨m + nq, by rw [hwq, e, World.drewN_drewN]⟩
        have HOq := Lib.hid (HO.out.keep hbq)
        have HGq : Hid (w.grownBy wq (some g)) := by obtain ⟨m, e⟩ := HB1.out; rw [e]; exact ⟨rfl, rfl, rfl, Nat.le_refl _, fun _ _ _ => rfl⟩
        (try rw [← hwq])
        clear hwq hbq cx0 cy0 HX HY
        cases q
        · have hne : ¬ x = y := fun e => by
            have := hq.out
            rw [e] at this
            simp [sameB] at this
          have hC2 : Hid (compF (xss.take (j + 1 + 1)) = xss.take (j + 1 + 1)) := by
            have := compF_take hxk.out hyk.out
            rw [if_neg hne, hC.out] at this
            rw [take_snoc_of hyk.out] at this ⊢
            exact this
          go_wp2_with fail
          go_roundw
          case rel => exact ⟨j + 1, by omega, by go_num, HB1, hC2⟩
          case measure => simp [intOf]; omega
        · have hxy : x = y := (sameB_iff.1 hq.out).symm
          have hC2 : Hid (xss.take (j + 1) = compF (xss.take (j + 1 + 1))) := by
            have := compF_take hxk.out hyk.out
            rw [if_pos hxy, hC.out] at this
            exact this.symm
          have z1 : (c : Int) ≠ ((j + 1 : Nat) : Int) := by omega
          have z2 : ¬ c = j + 1 := by omega
          have z3 : ((j + 1 : Nat) : Int) ≤ (n : Int) := by omega
          have z4 : (n : Int) ≤ (c : Int) := by omega
          clear hq hxy hC HO HGR
          go_wp2_with fail
          go_loopw [5, 7] (fun a b wr => ∃ (p q : Nat) (yss : List (List Int)), j + 1 ≤ p ∧ p ≤ j + 1 + q ∧ j + 1 + (q + 1) ≤ n ∧ a = .int .i64 p ∧ b = .int .i64 ((q + 1 : Nat) : Int) ∧ Hid (OwnP 22 3 wr base low (some ⟨g, 0, none⟩) n c yss) ∧ Hid (w.grownBy wr (some g)) ∧ Hid (yss.take p = compF (xss.take (j + 1 + (q + 1))) ∧ yss.drop (j + 1 + q) = xss.drop (j + 1 + q))) (fun _ b _ => n - (intOf b).toNat)
          case atStart => exact ⟨j + 1, 0, xss, Nat.le_refl _, Nat.le_refl _, by omega, rfl, rfl, HOq, HGq, hC2.out, rfl⟩
          case round =>
            obtain ⟨p, q, yss, hp1, hp2, hq2, rfl, rfl, hO, hG, hI⟩ := hrel
            obtain ⟨hpn, _, _⟩ := hO.out.len'
            have HYL := Lib.hid hpn
            clear hpn
            by_cases hlt2 : j + 1 + (q + 1) < n
            · obtain ⟨g1, X, nx, cx, x, hge, _, _, cx0, fx0, hx, hax, hxk⟩ := hO.out.round (k := j + 1 + q) (by omega)
              cases hge
              obtain ⟨g1, Y, ny, cy, y, hge, _, hgl, cy0, fy0, hy, hay, hyk⟩ := hO.out.round hlt2
              cases hge
              obtain ⟨g1, Z, nz, cz, z, hge, _, _, cz0, fz0, _, _, _⟩ := hO.out.round (k := p) (by omega)
              cases hge
              have HX := Lib.hid hx
              have HY := Lib.hid hy
              have HAY := Lib.hid hay
              have hxo : Hid (xss[j + 1 + q]? = some x) := by have h1 := hI.out.2; have h2 := congrArg (fun l => l[0]?) h1; simp only [List.getElem?_drop, Nat.add_zero] at h2; rw [← h2]; exact hxk
              have hyo : Hid (xss[j + 1 + q + 1]? = some y) := by have h1 := hI.out.2; have h2 := congrArg (fun l => l[1]?) h1; simp only [List.getElem?_drop] at h2; rw [← h2]; exact hyk
              obtain ⟨t, ht⟩ : ∃ t, Hid (sameB y x = t) := ⟨_, rfl⟩
              have y1' : ((q + 1 : Nat) : Int) - 1 = (q : Int) := by omega
              have y2' : (0 : Int) ≤ (q : Int) := by omega
              have y3' : (q : Int) < ((n - (j + 1) : Nat) : Int) := by omega
              have y4' : ((q + 1 : Nat) : Int) < ((n - (j + 1) : Nat) : Int) := by omega
              have y5' : (0 : Int) ≤ ((q + 1 : Nat) : Int) := by omega
              have y6' : q + 1 < n - (j + 1) := by omega
              have y7' : (0 : Int) ≤ (p : Int) := by omega
              have y8' : (p : Int) < (n : Int) := by omega
              have hdr : Hid (yss.drop (j + 1 + (q + 1)) = xss.drop (j + 1 + (q + 1))) := by have h1 := hI.out.2; have h2 := congrArg (List.drop 1) h1; rw [List.drop_drop, List.drop_drop] at h2; exact h2
              have hct : Hid (compF (xss.take (j + 1 + (q + 1 + 1))) = if x = y then yss.take p else yss.take p ++ [y]) := by rw [hI.out.1]; exact compF_take hxo.out hyo.out
              clear hx hy hay hax hI hxo hyo
              go_wp2_with fail
              go_quiet ((go_at_call 64; exact RetQ.quiet (normal2_any _ _ _ _ _ _ y x _ (HY.out.drewN _) (HX.out.drewN _) _ ht)))
              obtain ⟨wv, hwv⟩ : ∃ wv : World, wv = wr.drewN nq := ⟨_, rfl⟩
              have hbv : Below wr.heap.size wr wv := by rw [hwv]; exact below_drewN _ _
              have HOv := Lib.hid (hO.out.keep hbv)
              have HYv := Lib.hid (HY.out.keep hbv)
              have HAv := Lib.hid (HAY.out.keep hbv)
              have HGv : Hid (w.grownBy wv (some g)) := by rw [hwv]; exact ⟨hG.out.os, hG.out.tape, hG.out.output, hG.out.size, hG.out.block⟩
              have dy0 := keepBox hbv cy0
              have dz0 := keepBox hbv cz0
              have dgl : g < wv.heap.size := Nat.lt_of_lt_of_le hgl hbv.size
              have dfz : wv.frozen? ⟨g, p, none⟩ = false := by rw [hwv]; exact fz0
              (try rw [← hwv])
              clear hwv hbv cx0 cy0 cz0 HX HY HAY fx0 fy0 fz0
              cases t
              · have hne : ¬ x = y := fun e => by
                  have := ht.out
                  rw [e] at this
                  simp [sameB] at this
                have HP2 := Lib.hid (HOv.out.put hlow row_ne (p := p) (by omega) HYv.out HAv.out)
                have HG2 : Hid (w.grownBy (wv.setCell ⟨g, p, none⟩ (.slice Y ny cy)) (some g)) := by
                  have hs := grown_setCell wv ⟨g, p, none⟩ (.slice Y ny cy)
                  exact ⟨hs.os.trans HGv.out.os, hs.tape.trans HGv.out.tape, hs.output.trans HGv.out.output, Nat.le_trans HGv.out.size hs.size, fun k hk hne => (hs.block k (Nat.lt_of_lt_of_le hk HGv.out.size) hne).trans (HGv.out.block k hk hne)⟩
                have hI2 : Hid ((yss.set p y).take (p + 1) = compF (xss.take (j + 1 + (q + 1 + 1))) ∧ (yss.set p y).drop (j + 1 + (q + 1)) = xss.drop (j + 1 + (q + 1))) := by
                  refine ⟨?_, ?_⟩
                  · rw [hct.out, if_neg hne, take_snoc_of (List.getElem?_set_self (by rw [HYL.out]; omega)), List.take_set_of_le (Nat.le_refl _)]
                  · rw [List.drop_set_of_lt (by omega)]; exact hdr.out
                go_wp2_with fail
                go_roundw
                case rel => exact ⟨p + 1, q + 1, yss.set p y, by omega, by omega, by omega, by go_num, by go_num, HP2, HG2, hI2⟩
                case measure => simp [intOf]; omega
              · have hxy : x = y := (sameB_iff.1 ht.out).symm
                have hI2 : Hid (yss.take p = compF (xss.take (j + 1 + (q + 1 + 1))) ∧ yss.drop (j + 1 + (q + 1)) = xss.drop (j + 1 + (q + 1))) := ⟨by rw [hct.out, if_pos hxy], hdr.out⟩
                go_wp2_with fail
                go_roundw
                case rel => exact ⟨p, q + 1, yss, by omega, by omega, by omega, rfl, by go_num, HOv, HGv, hI2⟩
                case measure => simp [intOf]; omega
            · have hres : Hid (yss.take p = compF xss) := by have h1 := hI.out.1; rw [List.take_of_length_le (l := xss) (by rw [HL.out]; omega)] at h1; exact h1
              have u1 : (c : Int) ≠ (p : Int) := by omega
              have u2 : ¬ c = p := by omega
              have u3 : (p : Int) ≤ (n : Int) := by omega
              have u4 : (0 : Int) ≤ (p : Int) := by omega
              have u5 : (p : Int) ≤ (c : Int) := by omega
              have hnq : ¬ q + 1 < n - (j + 1) := by omega
              have hcl : ∀ ty, (Builtin.clear_ #[23] ty #[.slice (some ⟨g, p, none⟩) (n - p) (c - p)]).run Tryz.prog wr = .ok (.tuple #[]) (wr.setCells g p (List.replicate (n - p) (.slice none 0 0))) := fun ty =>
                Lib.run_clear_slice wr _ _ ty _ Tryz.underlying23 (fun w => by kernel_rfl) rfl rfl g p _ _ (by omega) (fun k hk => by
                  obtain ⟨g1, Z, nz, cz, z, hge, _, _, cz0, fz0, _⟩ := hO.out.round (k := p + k) (by omega)
                  cases hge
                  rw [cz0]; rfl) (fun k hk => by
                  obtain ⟨g1, Z, nz, cz, z, hge, _, _, cz0, fz0, _⟩ := hO.out.round (k := p + k) (by omega)
                  cases hge
                  exact fz0)
              have HP3 := Lib.hid (hO.out.cleared hlow row_ne (p := p) (by omega) (List.replicate (n - p) (.slice none 0 0)))
              have HG3 : Hid (w.grownBy (wr.setCells g p (List.replicate (n - p) (.slice none 0 0))) (some g)) := by
                have hs := grown_setCells wr g p (List.replicate (n - p) (.slice none 0 0))
                exact ⟨hs.os.trans hG.out.os, hs.tape.trans hG.out.tape, hs.output.trans hG.out.output, Nat.le_trans hG.out.size hs.size, fun k hk hne => (hs.block k (Nat.lt_of_lt_of_le hk hG.out.size) hne).trans (hG.out.block k hk hne)⟩
              go_wp2_with fail
              go_ret
              exact ⟨p, rfl, by rw [← hres.out]; exact HP3.out, HG3.out⟩
      · have hres : Hid (xss = compF xss) := by have h1 := hC.out; rw [List.take_of_length_le (l := xss) (by rw [HL.out]; omega)] at h1; exact h1.symm
        go_wp2_with fail
        go_ret
        exact ⟨n, rfl, by rw [← hres.out]; exact HO.out, HGR.out⟩
end Go.Proofs.YtlfgcblijfflfaaGreat
