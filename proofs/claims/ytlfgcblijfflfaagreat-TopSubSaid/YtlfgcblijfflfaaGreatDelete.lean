/- Contract of slices.Delete at rows (one goes). (Printed by wip/tools/delete.py.) -/
import Derived.Test.YtlfgcblijfflfaaGreatCompact
import Derived.Test.YtlfgcblijfflfaaGreatTail
import Derived.Deep.RegionLaw
namespace Go.Proofs.YtlfgcblijfflfaaGreat
open Go.RowKit
set_option linter.unusedSimpArgs false

theorem wp_append_room {P : Program} {o : Oper} {a : Act} {w : World} {K : Act → World → Prop} {Q : Exit → Act → World → Prop}
    (hg : o.guard = none) (s x : Operand) (t : TypeId) (hop : o.op = Op.call { callee := Callee.builtin Builtin.append, args := #[s, x], argTypes := #[t, t] })
    (e : TypeId) (i : TypeInfo) (h1 : P.underlying t = some (.slice e)) (h2 : P.info? e = some i) (h4 : i.size = 1)
    (b n cap : Nat) (hs : a.eval s = .slice (some ⟨b, 0, none⟩) n cap)
    (ad : Addr) (m c : Nat) (news : List Value) (hx : a.eval x = .slice (some ad) m c) (hn : news.length = m) (hc : ∀ j u, news[j]? = some u → w.cell? (ad.add j) = some u) (h1c : ∀ u ∈ news, u.oneCell' = true)
    (hroom : n + m ≤ cap) (hspare : ∀ j, j < news.length → (w.cell? ⟨b, n + j, none⟩).isSome = true ∧ w.frozen? ⟨b, n + j, none⟩ = false)
    (hK : K (a.put o.dst (.slice (some ⟨b, 0, none⟩) (n + m) cap)) (w.setCells b n news)) : Oper.wp P o a w K Q := by
  have h := step_append_room (P := P) (ops := #[]) (o := o) (a := a) (w := w) (K := K) (Q := Q) (E := True) hg s x t hop e i 1 h1 h2 h4 b 0 n cap hs ad m c news hx (by omega) hc h1c hroom (by simpa using hspare) (by simpa using hK)
  have hw : Region.wanted o (yielded #[] a.tmps) = true := by simp [Region.wanted, hg]
  rw [if_pos hw] at h
  exact h

theorem heap_setCells_all (g : Nat) : ∀ (l : List Value) (o : Nat) (w : World) {cur : Array Value} {t : TypeId} {fz : Nat × Nat}, w.heap[g]? = some (.cells cur t fz) → o + l.length ≤ cur.size → ∃ cur' : Array Value, (w.setCells g o l).heap[g]? = some (.cells cur' t fz) ∧ cur'.size = cur.size ∧ cur'.toList = cur.toList.take o ++ l ++ cur.toList.drop (o + l.length)
  | [], o, w, cur, _, _, h, _ => ⟨cur, h, rfl, by simp⟩
  | v :: r, o, w, cur, t, fz, h, hle => by
    have h1 : (w.setCell ⟨g, o, none⟩ v).heap[g]? = some (.cells (cur.setIfInBounds o v) t fz) := by simp [World.setCell, Array.getElem?_modify, h]
    simp only [List.length_cons] at hle
    obtain ⟨cur', h2, h3, h4⟩ := heap_setCells_all g r (o + 1) _ h1 (by simp; omega)
    refine ⟨cur', h2, by rw [h3]; simp, ?_⟩
    rw [h4]
    have ho : o < cur.toList.length := by simp; omega
    have e1 : (cur.setIfInBounds o v).toList = cur.toList.set o v := by simp
    rw [e1, List.take_add_one, List.take_set_of_le (Nat.le_refl _), List.getElem?_set_self ho, List.drop_set_of_lt (by omega)]
    simp [Nat.add_comm, Nat.add_left_comm]
/-- One row goes. -/
theorem OwnP.deleted {e t : TypeId} {w : World} {base n c g k : Nat} {xss : List (List Int)} {vs : List Value} (h1 : Own e w base (some ⟨g, 0, none⟩) n c vs) (h2 : RowsP t w 0 vs xss) (hne : t ≠ e) (hk : k < n) :
    OwnP e t (w.setCells g k (vs.drop (k + 1))) base 0 (some ⟨g, 0, none⟩) (n - 1) c (xss.eraseIdx k) := by
  rcases h1.form with ⟨h0, _⟩ | ⟨g', cur, h0, hg, hh, hle, hcm, hsz, htk⟩
  · cases h0
  · cases h0
    have hvl := h1.len
    obtain ⟨cur', k1, k2, k3⟩ := heap_setCells_all g (vs.drop (k + 1)) k w hh (by simp; omega)
    have hr : RowsP t w 0 (vs.eraseIdx k) (xss.eraseIdx k) := by
      rw [List.eraseIdx_eq_take_drop_succ, List.eraseIdx_eq_take_drop_succ]
      exact (h2.take k).append (h2.drop (k + 1))
    refine ⟨vs.eraseIdx k, ⟨by rw [List.length_eraseIdx_of_lt (by omega)]; omega, .inr ⟨g, c, cur', rfl, hg, k1, by omega, hcm, by omega, ?_⟩⟩, hr.kept (grown_setCells w g k _) (fun g' e' => by cases e'; exact ⟨Nat.zero_le _, ⟨cur, (0, 0), hh⟩⟩) hne⟩
    rw [k3, List.eraseIdx_eq_take_drop_succ]
    have e1 : cur.toList.take k = vs.take k := by rw [← htk, List.take_take, Nat.min_eq_left (by omega)]
    rw [e1]
    have e2 : (vs.take k ++ vs.drop (k + 1)).length = (n - 1) * 1 := by simp; omega
    rw [List.take_append_of_le_length (by rw [e2]; exact Nat.le_refl _), ← e2, List.take_length]

set_option maxHeartbeats 4000000 in
set_option maxRecDepth 100000 in
theorem delete_rows (base g n c cv k : Nat) (xss : List (List Int)) (w : World) (h : OwnP 22 3 w base 0 (some ⟨g, 0, none⟩) n c xss) (hn : n ≤ 1000000) (hcv1 : n ≤ cv) (hcv2 : cv ≤ c) (hk : k < n) :
    Calls Tryz.prog 23 #[.slice (some ⟨g, 0, none⟩) n cv, .int .i64 k, .int .i64 ((k + 1 : Nat) : Int)] w fun e w' => e = .returned (.slice (some ⟨g, 0, none⟩) (n - 1) cv) ∧ OwnP 22 3 w' base 0 (some ⟨g, 0, none⟩) (n - 1) c (xss.eraseIdx k) ∧ w.grownBy w' (some g) := by
  obtain ⟨hlen, hnc, hc63⟩ := h.len'
  obtain ⟨i0, hi0, hz0, hz1, hz2⟩ := info_parts row_info
  have H := Lib.hid h
  obtain ⟨vs, hv1, hv2⟩ := h
  have HD := Lib.hid (OwnP.deleted (w := w.drew) hv1.drew1 (hv2.keep (below_drewN w 1)) row_ne hk)
  have hvl := Lib.hid hv1.len
  have hcellv : Hid (∀ j, j < n → ∃ v, vs[j]? = some v ∧ w.drew.cell? ⟨g, j, none⟩ = some v ∧ w.drew.frozen? ⟨g, j, none⟩ = false) := fun j hj => by
    obtain ⟨g1, u, hge, _, _, hcu, hf, hu⟩ := hv1.drew1.at_ hj
    cases hge
    exact ⟨u, hu.out, hcu, hf⟩
  have s1 : Hid ((vs.drop (k + 1)).length = n - (k + 1)) := by simp [hvl.out, Hid]
  have s2 : Hid (∀ u ∈ vs.drop (k + 1), u.oneCell' = true) := (hv2.drop (k + 1)).one
  have s3 : Hid (∀ t, t < (vs.drop (k + 1)).length → (w.drew.cell? ⟨g, k + t, none⟩).isSome = true ∧ w.drew.frozen? ⟨g, k + t, none⟩ = false) := fun t ht => by
    rw [s1.out] at ht
    obtain ⟨v, _, h1, h2⟩ := hcellv.out (k + t) (by omega)
    exact ⟨by rw [h1]; rfl, h2⟩
  have s4 : Hid (∀ t u, (vs.drop (k + 1))[t]? = some u → w.drew.cell? ((⟨g, k + 1, none⟩ : Addr).add t) = some u) := fun t u hu => by
    have ht : t < n - (k + 1) := by have := (List.getElem?_eq_some_iff.1 hu).1; rwa [s1.out] at this
    obtain ⟨v, h0, h1, _⟩ := hcellv.out (k + 1 + t) (by omega)
    rw [List.getElem?_drop, h0] at hu
    cases hu
    rw [WideShapes.add_plain]
    exact h1
  have s5 : Hid (k + 1 = n → ∀ (ad : Addr) t u, (vs.drop (k + 1))[t]? = some u → w.drew.cell? (ad.add t) = some u) := fun e ad t u hu => by
    have : (vs.drop (k + 1)).length = 0 := by rw [s1.out]; omega
    rw [List.eq_nil_of_length_eq_zero this] at hu
    simp at hu
  obtain ⟨W1, hW1⟩ : ∃ W1, W1 = w.drew.setCells g k (vs.drop (k + 1)) := ⟨_, rfl⟩
  rw [← hW1] at HD
  have HW1 : Hid (W1 = w.drew.setCells g (0 + k * 1) (vs.drop (k + 1))) := by rw [hW1]; simp [Hid]
  have s3' : Hid (∀ t, t < (vs.drop (k + 1)).length → (w.drew.cell? ⟨g, 0 + k * 1 + t, none⟩).isSome = true ∧ w.drew.frozen? ⟨g, 0 + k * 1 + t, none⟩ = false) := by simpa [Hid] using s3.out
  have HG1 : Hid (w.grownBy W1 (some g)) := by
    rw [hW1]
    have hs := grown_setCells w.drew g k (vs.drop (k + 1))
    exact ⟨hs.os, hs.tape, hs.output, hs.size, hs.block⟩
  have hblk : ∃ cur, W1.heap[g]? = some (.cells cur 22 (0, 0)) ∧ cur.size = c := by
    obtain ⟨vs', hw1, _⟩ := HD.out
    rcases hw1.form with ⟨h0, _⟩ | ⟨g', cur, h0, _, hh, _, _, hsz, _⟩
    · cases h0
    · cases h0; exact ⟨cur, hh, by simpa using hsz⟩
  have hcl : ∀ ty, (Builtin.clear_ #[23] ty #[.slice (some ⟨g, n - 1, none⟩) 1 (cv - (n - 1))]).run Tryz.prog W1 = .ok (.tuple #[]) (W1.setCells g (n - 1) (List.replicate 1 (.slice none 0 0))) := fun ty =>
    Lib.run_clear_slice W1 _ _ ty _ Tryz.underlying23 (fun w => by kernel_rfl) rfl rfl g (n - 1) _ _ (by omega) (fun j hj => by
      obtain ⟨cur, hh, hsz⟩ := hblk
      have : j = 0 := by omega
      subst this
      rw [cell_of_row W1 g _ cur _ _ hh, Array.getElem?_eq_getElem (by omega)]; rfl) (fun j hj => by
      obtain ⟨cur, hh, hsz⟩ := hblk
      simp [World.frozen?, hh])
  have HD2 := Lib.hid (HD.out.cleared (Nat.zero_le _) row_ne (p := n - 1) (Nat.le_refl _) (List.replicate 1 (.slice none 0 0)))
  have htk : (xss.eraseIdx k).take (n - 1) = xss.eraseIdx k := List.take_of_length_le (by rw [List.length_eraseIdx_of_lt (by omega)]; omega)
  rw [htk] at HD2
  have HG2 : Hid (w.grownBy (W1.setCells g (n - 1) (List.replicate 1 (.slice none 0 0))) (some g)) := by
    have hs := grown_setCells W1 g (n - 1) (List.replicate 1 (.slice none 0 0))
    exact ⟨hs.os.trans HG1.out.os, hs.tape.trans HG1.out.tape, hs.output.trans HG1.out.output, Nat.le_trans HG1.out.size hs.size, fun j hj hne => (hs.block j (Nat.lt_of_lt_of_le hj HG1.out.size) hne).trans (HG1.out.block j hj hne)⟩
  have y1 : (0 : Int) ≤ (k : Int) := by omega
  have y2 : (k : Int) ≤ ((k + 1 : Nat) : Int) := by omega
  have y3 : ((k + 1 : Nat) : Int) ≤ (n : Int) := by omega
  have y4 : (n : Int) ≤ (cv : Int) := by omega
  have y5 : (k : Int) ≤ (cv : Int) := by omega
  have dk : ((k : Int) == ((k + 1 : Nat) : Int)) = false := by simp; omega
  have dk2 : (k == k + 1) = false := by simp
  have en : k + (n - (k + 1)) = n - 1 := by omega
  have y6 : ((n - 1 : Nat) : Int) ≤ (n : Int) := by omega
  have y7 : (0 : Int) ≤ ((n - 1 : Nat) : Int) := by omega
  have y8 : ¬ cv = n - 1 := by omega
  have y9 : (cv : Int) ≠ ((n - 1 : Nat) : Int) := by omega
  have ya : n - (n - 1) = 1 := by omega
  have EN := Lib.hid en
  have yb : (0 : Int) ≤ (k : Int) + 1 := by omega
  have yc : (k : Int) + 1 ≤ (n : Int) := by omega
  have yd : (k : Int) + 1 ≤ (cv : Int) := by omega
  clear hW1 hv1 hv2 hblk htk hlen hcellv en
  have hfol : Tryz.prog.follows Departure.mixedOrders = true := by kernel_rfl
  by_cases hcp : cv = k + 1
  · subst hcp
    obtain rfl : n = k + 1 := by omega
    have q1 : k + 1 - 1 = k := by omega
    have q2 : k + 1 - k = 1 := by omega
    simp only [q1, q2] at hcl HD2 HG2 ⊢
    clear y6 y7 y8 y9 ya EN q1 q2
    have zz : (k : Int) ≤ (k : Int) + 1 := by omega
    have zz2 : k ≤ k + 1 := by omega
    have zz3 : (k : Int) + 1 ≤ (k : Int) + 1 := by omega
    have s6 := Lib.hid (s5.out rfl ⟨g, 0, none⟩)
    go_enter Tryz.func23, Tryz.ntmps23
    go_wp2_with fail
    go_region_law_o (refine step_append_room rfl (.tmp 22) (.tmp 25) 23 rfl 22 i0 1 Tryz.underlying23 hi0 hz1 g 0 k (k + 1) (by simp [Act.eval, Act.put]) ⟨g, 0, none⟩ 0 0 (vs.drop (k + 1)) (by simp [Act.eval, Act.put]) (by rw [s1.out]; omega) s6.out s2.out (by omega) s3'.out ?_; rw [← HW1.out])
    (try simp only [Nat.add_zero])
    go_wp2_with fail
    go_ret
    exact ⟨rfl, HD2.out, HG2.out⟩
  · have z1 : (cv : Int) ≠ ((k + 1 : Nat) : Int) := by omega
    go_enter Tryz.func23, Tryz.ntmps23
    go_wp2_with fail
    go_region_law_o (refine step_append_room rfl (.tmp 22) (.tmp 25) 23 rfl 22 i0 1 Tryz.underlying23 hi0 hz1 g 0 k cv (by simp [Act.eval, Act.put]) ⟨g, k + 1, none⟩ (n - (k + 1)) (cv - (k + 1)) (vs.drop (k + 1)) (by simp [Act.eval, Act.put]) (by rw [s1.out]; omega) s4.out s2.out (by omega) s3'.out ?_; rw [← HW1.out])
    (try simp only [EN.out])
    go_wp2_with fail
    go_ret
    exact ⟨rfl, HD2.out, HG2.out⟩
end Go.Proofs.YtlfgcblijfflfaaGreat
