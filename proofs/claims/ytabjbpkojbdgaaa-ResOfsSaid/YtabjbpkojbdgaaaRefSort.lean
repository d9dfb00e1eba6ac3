/- Contracts of the reference's Ahead, Sorted. (Printed by wip/tools/refsort.py.) -/
import Derived.Test.YtabjbpkojbdgaaaCnfA
import Derived.Test.YtabjbpkojbdgaaaSortPlain
import Derived.Test.YtabjbpkojbdgaaaBoxes
import Derived.Test.YtabjbpkojbdgaaaClone
import Derived.Test.YtabjbpkojbdgaaaTail
namespace Go.Proofs.Ytabjbpkojbdgaaa
open Go.RowKit
set_option linter.unusedSimpArgs false

theorem ahead_any (x y : Int) (w : World) (hx : -1000000 ≤ x ∧ x ≤ 1000000) (hy : -1000000 ≤ y ∧ y ≤ 1000000) : Calls Try.prog 62 #[.int .i64 x, .int .i64 y] w (RetQ (.bool (aheadB x y)) w) := by
  obtain ⟨p, hp⟩ : ∃ p : Nat, Hid (x.natAbs = p) := ⟨_, rfl⟩
  obtain ⟨q, hq⟩ : ∃ q : Nat, Hid (y.natAbs = q) := ⟨_, rfl⟩
  have hr : Hid (aheadB x y = (decide (p < q) || (decide (p = q) && decide (y < x)))) := by rw [aheadB, hp.out, hq.out]; rfl
  rw [hr.out]
  go_enter Try.func62, Try.ntmps62
  go_wp2_with fail
  refine (of_any x w (by omega) (by omega)).mono ?_
  rintro e w1 ⟨rfl, m1, rfl⟩
  rw [hp.out]
  go_wp2_with fail
  refine (of_any y _ (by omega) (by omega)).mono ?_
  rintro e w2 ⟨rfl, m2, rfl⟩
  rw [hq.out]
  by_cases h1 : p < q
  · have d1 : decide (p < q) = true := decide_eq_true h1
    go_wp2_with fail
    go_ret
    exact RetQ.of _ (by simp [d1])
  · have d1 : decide (p < q) = false := decide_eq_false h1
    go_wp2_with fail
    refine (of_any x _ (by omega) (by omega)).mono ?_
    rintro e w3 ⟨rfl, m3, rfl⟩
    rw [hp.out]
    go_wp2_with fail
    refine (of_any y _ (by omega) (by omega)).mono ?_
    rintro e w4 ⟨rfl, m4, rfl⟩
    rw [hq.out]
    by_cases h2 : p = q
    · subst h2
      have d2 : ((p : Int) == (p : Int)) = true := by simp
      go_wp2_with fail
      go_ret
      exact RetQ.of _ (by simp)
    · have d2 : ((p : Int) == (q : Int)) = false := by simp; omega
      have d3 : decide (p = q) = false := decide_eq_false h2
      go_wp2_with fail
      go_ret
      exact RetQ.of _ (by rw [d1, d3]; rfl)

theorem ahead_eq (x y : Int) (w : World) (hx : -1000000 ≤ x ∧ x ≤ 1000000) (hy : -1000000 ≤ y ∧ y ≤ 1000000) (q : Bool) (hq : Hid (aheadB x y = q)) : Calls Try.prog 62 #[.int .i64 x, .int .i64 y] w (RetQ (.bool q) w) := by
  rw [← hq.out]; exact ahead_any x y w hx hy
theorem insF_end (x : Int) (o : List Int) (p : Nat) (h : o.length ≤ p) : o.take p ++ insF x (o.drop p) = o ++ [x] := by
  rw [List.take_of_length_le h, List.drop_of_length_le h]; rfl
theorem insF_step {x y : Int} {o : List Int} {p : Nat} (hy : o[p]? = some y) (h : aheadB x y = false) : o.take p ++ insF x (o.drop p) = o.take (p + 1) ++ insF x (o.drop (p + 1)) := by
  rw [drop_cons_of hy, insF, h, take_snoc_of hy]; simp
theorem insF_stop {x y : Int} {o : List Int} {p : Nat} (hy : o[p]? = some y) (h : aheadB x y = true) : o.take p ++ insF x (o.drop p) = o.take p ++ [x] ++ o.drop p := by
  rw [drop_cons_of hy, insF, h]; simp
theorem sortF_snoc (l : List Int) (x : Int) : sortF (l ++ [x]) = insF x (sortF l) := by unfold sortF; rw [List.foldl_append]; rfl
theorem Sl.drop {w : World} {g off n c : Nat} {xs : List Value} (h : Sl w (some ⟨g, off, none⟩) n c xs) {p : Nat} (hp : p ≤ n) : Sl w (some ⟨g, off + p, none⟩) (n - p) (c - p) (xs.drop p) := by
  refine ⟨by simp [h.len], by have := h.le; omega, by have := h.cap; omega, fun hn => ?_⟩
  obtain ⟨b, o, e, hlt, hc⟩ := h.at_ (by omega)
  cases e
  refine ⟨g, off + p, rfl, hlt, fun k hk => ?_⟩
  rw [Nat.add_assoc, hc (p + k) (by omega), List.getElem?_drop]
theorem Sl.nilAny {w : World} {A : Option Addr} {c : Nat} (hc : c ≤ maxLen) : Sl w A 0 c [] := ⟨rfl, Nat.zero_le _, hc, fun h => by omega⟩

theorem own_len {e : TypeId} {w : World} {base n n' c : Nat} {A : Option Addr} {xs : List Value} (hn : n = n') (h : Own e w base A n c xs) : Own e w base A n' c xs := by subst hn; exact h
theorem Sl.kept1 {w w' : World} {A : Option Addr} {n c : Nat} {xs : List Value} {row : Option Nat} (h : Sl w A n c xs) (hg : w.grownBy w' row) (hne : blockOf A = none ∨ blockOf A ≠ row) : Sl w' A n c xs := by
  refine ⟨h.len, h.le, h.cap, fun hn => ?_⟩
  obtain ⟨b, off, rfl, hlt, hc⟩ := h.at_ hn
  refine ⟨b, off, rfl, Nat.lt_of_lt_of_le hlt hg.size, fun k hk => ?_⟩
  rw [World.cell?_of_block (w := w) (w' := w') (a := ⟨b, off + k, none⟩) (hg.block b hlt (by simp [blockOf] at hne; exact hne)), hc k hk]
set_option maxHeartbeats 8000000 in
theorem sorted_ref (A : Option Addr) (n c : Nat) (xs : List Int) (w : World) (h : Ints w A n c xs) (hs : ∀ x ∈ xs, -1000000 ≤ x ∧ x ≤ 1000000) (hn6 : n ≤ 1000000) : Calls Try.prog 36 #[.slice A n c] w (RetInts (sortF xs) w) := by
  have hbd := h.bd
  have hlen := Lib.hid h.len
  obtain ⟨i0, hi0, hz0, hz1, hz2⟩ := info_parts int_info
  have HS := Lib.hid hs
  have HI := Lib.hid h
  clear hs h
  go_enter Try.func36, Try.ntmps36
  go_wp2_with fail
  go_loopw [3, 4] (fun o i wr => ∃ (k cl : Nat) (Lf : Option Addr), k ≤ n ∧ o = .slice Lf k cl ∧ i = .int .i64 k ∧ Hid (Own 3 wr w.heap.size Lf k cl ((sortF (xs.take k)).map (Value.int .i64))) ∧ Hid (Below w.heap.size w wr)) (fun _ i _ => n - (intOf i).toNat)
  case atStart => exact ⟨0, 0, none, Nat.zero_le _, rfl, rfl, Own.nil _ _ _, Below.refl _ _⟩
  case round =>
    obtain ⟨k, cl, Lf, hk, rfl, rfl, hown, hbl⟩ := hrel
    have hx := HI.out.keep hbl.out
    obtain ⟨wo, hwo⟩ : ∃ wo : World, wo = wr := ⟨_, rfl⟩
    subst hwo
    by_cases hlt : k < n
    · obtain ⟨b, off, x, rfl, hb, hcell, x1, x2, hxk⟩ := hx.round hlt
      have hxb := HS.out x (List.mem_of_getElem? hxk.out)
      obtain ⟨o, ho⟩ : ∃ o, Hid (sortF (xs.take k) = o) := ⟨_, rfl⟩
      have HOB : Hid (∀ y ∈ o, -1000000 ≤ y ∧ y ≤ 1000000) := fun y hy => by rw [← ho.out] at hy; exact HS.out y (List.mem_of_mem_take (sortF_mem.1 hy))
      have hnext : Hid (sortF (xs.take (k + 1)) = insF x o) := by rw [take_snoc_of hxk.out, sortF_snoc, ho.out]; rfl
      rw [ho.out] at hown
      have hol : Hid (o.length = k) := by have := hown.out.len; rw [List.length_map] at this; exact this
      have HOI := Lib.hid (hown.out.ints (xs := o) (fun y hy => (by have := HOB.out y hy; unfold I64; omega)))
      have hbdO := HOI.out.bd
      have hwz := hbl.out.size
      go_wp2_with fail
      go_loopw [5] (fun i wr => ∃ p : Nat, p ≤ k ∧ i = .int .i64 p ∧ Hid (∃ m, wr = wo.drewN m) ∧ Hid (o.take p ++ insF x (o.drop p) = insF x o)) (fun i _ => k - (intOf i).toNat)
      case atStart => exact ⟨0, Nat.zero_le _, rfl, ⟨0, rfl⟩, by simp [Hid]⟩
      case round =>
        obtain ⟨p, hp, rfl, hB, hins⟩ := hrel
        have hbW : Below wo.heap.size wo wr := by obtain ⟨m, rfl⟩ := hB.out; exact below_drewN wo m
        have bc := keepBox hbW hcell
        have ownW := Lib.hid (hown.out.keep hbW)
        have blW := Lib.hid (below_next hbl.out hbW)
        have y1 : (0 : Int) ≤ (k : Int) := by omega
        have y2 : (k : Int) < (n : Int) := by omega
        have y3 : (0 : Int) ≤ (p : Int) := by omega
        have y4 : (p : Int) ≤ (k : Int) := by omega
        have y5 : (p : Int) ≤ (cl : Int) := by omega
        by_cases hpk : p < k
        · have dp : decide (p < k) = true := decide_eq_true hpk
          obtain ⟨b2, off2, y, hLe, hb2, hcell2, z1, z2, hyp⟩ := (HOI.out.keep hbW).round hpk
          have hyb := HOB.out y (List.mem_of_getElem? hyp.out)
          subst hLe
          have y6 : (p : Int) < (k : Int) := by omega
          obtain ⟨q, hq⟩ : ∃ q, Hid (aheadB x y = q) := ⟨_, rfl⟩
          cases q
          · have hins2 : Hid (o.take (p + 1) ++ insF x (o.drop (p + 1)) = insF x o) := by rw [← insF_step hyp.out hq.out]; exact hins
            go_wp2_with fail
            go_quiet ((go_at_call 62; exact RetQ.quiet (ahead_eq x y _ hxb hyb _ hq)))
            go_wp2_with fail
            go_roundw
            case rel => exact ⟨p + 1, by omega, by go_num, by obtain ⟨m, rfl⟩ := hB.out; exact ⟨_, World.drewN_drewN _ _ _⟩, hins2⟩
            case measure => simp [intOf]; omega
          · have hfin : Hid (insF x o = o.take p ++ [x] ++ o.drop p) := by rw [← insF_stop hyp.out hq.out]; exact hins.out.symm
            go_wp2_with fail
            go_quiet ((go_at_call 62; exact RetQ.quiet (ahead_eq x y _ hxb hyb _ hq)))
            go_wp2_with fail
            obtain ⟨wq, hwq⟩ : ∃ wq : World, wq = wr.drewN nq := ⟨_, rfl⟩
            have hbq : Below wr.heap.size wr wq := by rw [hwq]; exact below_drewN _ _
            have bq := keepBox hbq bc
            have blq := Lib.hid (below_next blW.out hbq)
            have hwq2 := blq.out.size
            have ownQ := Lib.hid (ownW.out.keep hbq)
            have HTK : Hid (Sl wq (some ⟨b2, off2, none⟩) p cl ((o.take p).map (Value.int .i64))) := by rw [List.map_take]; exact ownQ.out.sl.take hp
            have HDR : Hid (Sl wq (some ⟨b2, off2 + p, none⟩) (k - p) (cl - p) ((o.drop p).map (Value.int .i64))) := by rw [List.map_drop]; exact ownQ.out.sl.drop hp
            have y7 : (cl : Int) ≠ (p : Int) := by omega
            have y8 : ¬ cl = p := by omega
            rw [← hwq]
            clear hwq hbW bc ownW blW hcell
            have hS : wq.drew.cell? ⟨b, off + k, none⟩ = some (.int .i64 x) := keepBox (below_drewN wq 1) bq
            refine wp_region_tail (fun w' => w'.cell? ⟨b, off + k, none⟩ = some (.int .i64 x)) [] (by kernel_rfl) ?_
            refine take0 (i := 1) (oi := _) (v := ?_) rfl (by kernel_rfl) (by kernel_rfl) (by kernel_rfl) (fun _ _ _ h => h) rfl (Or.inl ⟨by rfl, ?_⟩) (fun _ => hS) ?_
            rotate_left
            · intro w0; go_simp; with_reducible rfl
            (try simp only [Act.put, List.setIfInBounds_toArray, List.set_cons_zero, List.set_cons_succ])
            refine take0 (i := 2) (oi := _) (v := ?_) rfl (by kernel_rfl) (by kernel_rfl) (by kernel_rfl) (fun _ _ _ h => h) rfl (Or.inl ⟨by rfl, ?_⟩) (fun _ => hS) ?_
            rotate_left
            · intro w0; go_simp; with_reducible rfl
            (try simp only [Act.put, List.setIfInBounds_toArray, List.set_cons_zero, List.set_cons_succ])
            refine take0 (i := 3) (oi := _) (v := ?_) rfl (by kernel_rfl) (by kernel_rfl) (by kernel_rfl) (fun _ _ _ h => h) rfl (Or.inl ⟨by rfl, ?_⟩) (fun _ => hS) ?_
            rotate_left
            · intro w0; go_simp; with_reducible rfl
            (try simp only [Act.put, List.setIfInBounds_toArray, List.set_cons_zero, List.set_cons_succ])
            refine take0 (i := 5) (oi := _) (v := ?_) rfl (by kernel_rfl) (by kernel_rfl) (by kernel_rfl) (fun _ _ _ h => h) rfl (Or.inl ⟨by rfl, ?_⟩) (fun _ => hS) ?_
            rotate_left
            · intro w0; go_simp; with_reducible rfl
            (try simp only [Act.put, List.setIfInBounds_toArray, List.set_cons_zero, List.set_cons_succ])
            refine take0 (i := 6) (oi := _) (v := ?_) rfl (by kernel_rfl) (by kernel_rfl) (by kernel_rfl) (fun _ _ _ h => h) rfl (Or.inl ⟨by rfl, ?_⟩) (fun _ => hS) ?_
            rotate_left
            · intro w0; go_simp; with_reducible rfl
            (try simp only [Act.put, List.setIfInBounds_toArray, List.set_cons_zero, List.set_cons_succ])
            refine take0 (i := 7) (oi := _) (v := ?_) rfl (by kernel_rfl) (by kernel_rfl) (by kernel_rfl) (fun _ _ _ h => h) rfl (Or.inl ⟨by rfl, ?_⟩) (fun _ => hS) ?_
            rotate_left
            · intro w0; go_simp; with_reducible rfl
            (try simp only [Act.put, List.setIfInBounds_toArray, List.set_cons_zero, List.set_cons_succ])
            refine takeS (i := 8) (oi := _) (v := ?_) rfl (by kernel_rfl) (by kernel_rfl) (by kernel_rfl) (fun _ _ _ h => h) rfl (by kernel_rfl) (by kernel_rfl) (Or.inl ⟨by rfl, ?_⟩) hS ?_
            rotate_left
            · intro w0 hSw; (try dsimp only at hSw); go_simp; with_reducible rfl
            (try simp only [Act.put, List.setIfInBounds_toArray, List.set_cons_zero, List.set_cons_succ])
            refine take0 (i := 11) (oi := _) (v := ?_) rfl (by kernel_rfl) (by kernel_rfl) (by kernel_rfl) (fun _ _ _ h => h) rfl (Or.inl ⟨by rfl, ?_⟩) (fun _ => hS) ?_
            rotate_left
            · intro w0; go_simp; with_reducible rfl
            (try simp only [Act.put, List.setIfInBounds_toArray, List.set_cons_zero, List.set_cons_succ])
            refine take0 (i := 12) (oi := _) (v := ?_) rfl (by kernel_rfl) (by kernel_rfl) (by kernel_rfl) (fun _ _ _ h => h) rfl (Or.inl ⟨by rfl, ?_⟩) (fun _ => hS) ?_
            rotate_left
            · intro w0; go_simp; with_reducible rfl
            (try simp only [Act.put, List.setIfInBounds_toArray, List.set_cons_zero, List.set_cons_succ])
            refine take0 (i := 13) (oi := _) (v := ?_) rfl (by kernel_rfl) (by kernel_rfl) (by kernel_rfl) (fun _ _ _ h => h) rfl (Or.inl ⟨by rfl, ?_⟩) (fun _ => hS) ?_
            rotate_left
            · intro w0; go_simp; with_reducible rfl
            (try simp only [Act.put, List.setIfInBounds_toArray, List.set_cons_zero, List.set_cons_succ])
            refine twoT (i := 0) (j := 9) (by kernel_rfl) rfl (by rfl) rfl (by rfl) (fun K hK => ?_) (fun K hK => ?_)
            · go_simp
              have hS : ((wq.alloc (.cells #[] 3)).drew).cell? ⟨b, off + k, none⟩ = some (.int .i64 x) := keepBox (below_drew1 (below_new wq _)) bq
              refine hK _ _ (fun _ => hS) ?_
              clear hK
              (try simp only [Act.put, List.setIfInBounds_toArray, List.set_cons_zero, List.set_cons_succ])
              refine twoT (i := 4) (j := 9) (by kernel_rfl) rfl (by rfl) rfl (by rfl) (fun K hK => ?_) (fun K hK => ?_)
              · refine wp_append_sl _ (.tmp 30) (.tmp 33) 25 rfl wq.heap.size 3 i0 _ 8 Try.underlying25 hi0 hz0 hz1 hz2 rfl (some ⟨wq.heap.size, 0, none⟩) 0 0 [] rfl (own_empty 3 wq wq.heap.size rfl (Nat.le_refl _)).drew1 (some ⟨b2, off2, none⟩) p cl ((o.take p).map (Value.int .i64)) rfl (HTK.out.keep (below_drew1 (below_new wq _))) (ints_one _) (by simp only [maxLen]; omega) (by omega) (by first | omega | (simp; done) | (simp; omega)) ?_
                intro L1 cL1 w1 hO1 hG1 hA1
                have HB1 := Lib.hid (below_grown (below_drew1 (below_new wq _)) (own_empty 3 wq wq.heap.size rfl (Nat.le_refl _)).drew1 (Nat.le_refl _) hG1)
                have HG1 := Lib.hid hG1
                have HO1 : Hid (Own 3 w1 wq.heap.size L1 p cL1 ((o.take p).map (Value.int .i64))) := by simpa [Hid] using hO1
                have lw1 := HB1.out.size
                clear hO1 hG1 hA1
                have hS : w1.cell? ⟨b, off + k, none⟩ = some (.int .i64 x) := keepBox HB1.out bq
                refine hK _ _ (fun _ => hS) ?_
                clear hK
                (try simp only [Act.put, List.setIfInBounds_toArray, List.set_cons_zero, List.set_cons_succ])
                refine oneT (i := 9) (by kernel_rfl) rfl (by rfl) (fun K hK => ?_)
                go_simp
                have hS : (w1.alloc (.cells #[.int .i64 x] 3)).cell? ⟨b, off + k, none⟩ = some (.int .i64 x) := keepBox (below_new w1 _) hS
                refine hK _ _ (fun _ => hS) ?_
                clear hK
                (try simp only [Act.put, List.setIfInBounds_toArray, List.set_cons_zero, List.set_cons_succ])
                refine oneT (i := 10) (by kernel_rfl) rfl (by rfl) (fun K hK => ?_)
                refine wp_append_sl _ (.tmp 34) (.tmp 39) 25 rfl wq.heap.size 3 i0 _ 8 Try.underlying25 hi0 hz0 hz1 hz2 rfl L1 p cL1 ((o.take p).map (Value.int .i64)) rfl (HO1.out.keep (below_new w1 _)) (some ⟨w1.heap.size, 0, none⟩) 1 1 [.int .i64 x] rfl (sl_one w1 3 (.int .i64 x) rfl) (by simp [Value.oneCell']) (by simp only [maxLen]; omega) (by omega) (by first | omega | (simp; omega)) ?_
                intro L2 cL2 w2 hO2 hG2 hA2
                have HB2 := Lib.hid (below_grown (below_alloc HB1.out _) (HO1.out.keep (below_new w1 _)) (Nat.le_refl _) hG2)
                have HO2 := Lib.hid hO2
                have lw2 := HB2.out.size
                clear hO2 hG2 hA2
                have hS : w2.cell? ⟨b, off + k, none⟩ = some (.int .i64 x) := keepBox HB2.out bq
                refine hK _ _ (fun _ => hS) ?_
                clear hK
                (try simp only [Act.put, List.setIfInBounds_toArray, List.set_cons_zero, List.set_cons_succ])
                refine oneT (i := 14) (by kernel_rfl) rfl (by rfl) (fun K hK => ?_)
                refine wp_append_sl _ (.tmp 40) (.tmp 43) 25 rfl wq.heap.size 3 i0 _ 8 Try.underlying25 hi0 hz0 hz1 hz2 rfl L2 (p + 1) cL2 _ rfl HO2.out (some ⟨b2, off2 + p, none⟩) (k - p) (cl - p) ((o.drop p).map (Value.int .i64)) rfl (HDR.out.keep HB2.out) (ints_one _) (by simp only [maxLen]; omega) (by omega) lw2 ?_
                intro L3 cL3 w3 hO3 hG3 hA3
                have HB3 := Lib.hid (below_grown HB2.out HO2.out (Nat.le_refl _) hG3)
                have HO3 := Lib.hid hO3
                clear hO3 hG3 hA3
                have hS : w3.cell? ⟨b, off + k, none⟩ = some (.int .i64 x) := keepBox HB3.out bq
                refine hK _ _ (fun _ => hS) ?_
                clear hK
                (try simp only [Act.put, List.setIfInBounds_toArray, List.set_cons_zero, List.set_cons_succ])
                refine take0 (i := 15) (oi := _) (v := ?_) rfl (by kernel_rfl) (by kernel_rfl) (by kernel_rfl) (fun _ _ _ h => h) rfl (Or.inl ⟨by rfl, ?_⟩) (fun _ => hS) ?_
                rotate_left
                · intro w0; go_simp; with_reducible rfl
                (try simp only [Act.put, List.setIfInBounds_toArray, List.set_cons_zero, List.set_cons_succ])
                refine doneT (by kernel_rfl) ?_ _
                go_wp2_with fail
                go_roundw
                case rel =>
                  refine ⟨k + 1, cL3, L3, by omega, ?_, by go_num, ?_, below_next blq.out HB3.out⟩
                  · exact congrArg (fun j => Value.slice L3 j cL3) (by omega)
                  · have := HO3.out
                    rw [hnext.out, hfin.out]
                    simp only [List.map_append, List.map_cons, List.map_nil]
                    exact (own_len (by omega) this).mono hwq2
                case measure => simp [intOf]; omega
              · go_simp
                have hS : (((wq.alloc (.cells #[] 3)).alloc (.cells #[.int .i64 x] 3)).drew).cell? ⟨b, off + k, none⟩ = some (.int .i64 x) := keepBox (below_drew1 (below_alloc (below_new wq _) _)) bq
                refine hK _ _ (fun _ => hS) ?_
                clear hK
                (try simp only [Act.put, List.setIfInBounds_toArray, List.set_cons_zero, List.set_cons_succ])
                refine oneT (i := 4) (by kernel_rfl) rfl (by rfl) (fun K hK => ?_)
                refine wp_append_sl _ (.tmp 30) (.tmp 33) 25 rfl wq.heap.size 3 i0 _ 8 Try.underlying25 hi0 hz0 hz1 hz2 rfl (some ⟨wq.heap.size, 0, none⟩) 0 0 [] rfl ((own_empty 3 wq wq.heap.size rfl (Nat.le_refl _)).keep (below_new _ (.cells #[.int .i64 x] 3))).drew1 (some ⟨b2, off2, none⟩) p cl ((o.take p).map (Value.int .i64)) rfl (HTK.out.keep (below_drew1 (below_alloc (below_new wq _) _))) (ints_one _) (by simp only [maxLen]; omega) (by omega) (by first | omega | (simp; done) | (simp; omega)) ?_
                intro L1 cL1 w1 hO1 hG1 hA1
                have HB1 := Lib.hid (below_grown (below_drew1 (below_alloc (below_new wq _) _)) ((own_empty 3 wq wq.heap.size rfl (Nat.le_refl _)).keep (below_new _ (.cells #[.int .i64 x] 3))).drew1 (Nat.le_refl _) hG1)
                have HG1 := Lib.hid hG1
                have HO1 : Hid (Own 3 w1 wq.heap.size L1 p cL1 ((o.take p).map (Value.int .i64))) := by simpa [Hid] using hO1
                have lw1 := HB1.out.size
                clear hO1 hG1 hA1
                have hS : w1.cell? ⟨b, off + k, none⟩ = some (.int .i64 x) := keepBox HB1.out bq
                refine hK _ _ (fun _ => hS) ?_
                clear hK
                (try simp only [Act.put, List.setIfInBounds_toArray, List.set_cons_zero, List.set_cons_succ])
                (try simp only [Nat.zero_add])
                refine oneT (i := 10) (by kernel_rfl) rfl (by rfl) (fun K hK => ?_)
                refine wp_append_sl _ (.tmp 34) (.tmp 39) 25 rfl wq.heap.size 3 i0 _ 8 Try.underlying25 hi0 hz0 hz1 hz2 rfl L1 p cL1 ((o.take p).map (Value.int .i64)) rfl HO1.out (some ⟨wq.heap.size + 1, 0, none⟩) 1 1 [.int .i64 x] rfl (Sl.kept1 (Sl.drew1 (sl_one (wq.alloc (.cells #[] 3)) 3 (.int .i64 x) (by simp))) HG1.out (.inr (by simp [blockOf]))) (by simp [Value.oneCell']) (by simp only [maxLen]; omega) (by omega) (by first | omega | (simp; omega)) ?_
                intro L2 cL2 w2 hO2 hG2 hA2
                have HB2 := Lib.hid (below_grown HB1.out HO1.out (Nat.le_refl _) hG2)
                have HO2 := Lib.hid hO2
                have lw2 := HB2.out.size
                clear hO2 hG2 hA2
                have hS : w2.cell? ⟨b, off + k, none⟩ = some (.int .i64 x) := keepBox HB2.out bq
                refine hK _ _ (fun _ => hS) ?_
                clear hK
                (try simp only [Act.put, List.setIfInBounds_toArray, List.set_cons_zero, List.set_cons_succ])
                refine oneT (i := 14) (by kernel_rfl) rfl (by rfl) (fun K hK => ?_)
                refine wp_append_sl _ (.tmp 40) (.tmp 43) 25 rfl wq.heap.size 3 i0 _ 8 Try.underlying25 hi0 hz0 hz1 hz2 rfl L2 (p + 1) cL2 _ rfl HO2.out (some ⟨b2, off2 + p, none⟩) (k - p) (cl - p) ((o.drop p).map (Value.int .i64)) rfl (HDR.out.keep HB2.out) (ints_one _) (by simp only [maxLen]; omega) (by omega) lw2 ?_
                intro L3 cL3 w3 hO3 hG3 hA3
                have HB3 := Lib.hid (below_grown HB2.out HO2.out (Nat.le_refl _) hG3)
                have HO3 := Lib.hid hO3
                clear hO3 hG3 hA3
                have hS : w3.cell? ⟨b, off + k, none⟩ = some (.int .i64 x) := keepBox HB3.out bq
                refine hK _ _ (fun _ => hS) ?_
                clear hK
                (try simp only [Act.put, List.setIfInBounds_toArray, List.set_cons_zero, List.set_cons_succ])
                refine take0 (i := 15) (oi := _) (v := ?_) rfl (by kernel_rfl) (by kernel_rfl) (by kernel_rfl) (fun _ _ _ h => h) rfl (Or.inl ⟨by rfl, ?_⟩) (fun _ => hS) ?_
                rotate_left
                · intro w0; go_simp; with_reducible rfl
                (try simp only [Act.put, List.setIfInBounds_toArray, List.set_cons_zero, List.set_cons_succ])
                refine doneT (by kernel_rfl) ?_ _
                go_wp2_with fail
                go_roundw
                case rel =>
                  refine ⟨k + 1, cL3, L3, by omega, ?_, by go_num, ?_, below_next blq.out HB3.out⟩
                  · exact congrArg (fun j => Value.slice L3 j cL3) (by omega)
                  · have := HO3.out
                    rw [hnext.out, hfin.out]
                    simp only [List.map_append, List.map_cons, List.map_nil]
                    exact (own_len (by omega) this).mono hwq2
                case measure => simp [intOf]; omega
            · go_simp
              have hS : ((wq.alloc (.cells #[.int .i64 x] 3)).drew).cell? ⟨b, off + k, none⟩ = some (.int .i64 x) := keepBox (below_drew1 (below_new wq _)) bq
              refine hK _ _ (fun _ => hS) ?_
              clear hK
              (try simp only [Act.put, List.setIfInBounds_toArray, List.set_cons_zero, List.set_cons_succ])
              refine oneT (i := 0) (by kernel_rfl) rfl (by rfl) (fun K hK => ?_)
              go_simp
              have hS : (((wq.alloc (.cells #[.int .i64 x] 3)).alloc (.cells #[] 3)).drew).cell? ⟨b, off + k, none⟩ = some (.int .i64 x) := keepBox (below_drew1 (below_alloc (below_new wq _) _)) bq
              refine hK _ _ (fun _ => hS) ?_
              clear hK
              (try simp only [Act.put, List.setIfInBounds_toArray, List.set_cons_zero, List.set_cons_succ])
              refine oneT (i := 4) (by kernel_rfl) rfl (by rfl) (fun K hK => ?_)
              refine wp_append_sl _ (.tmp 30) (.tmp 33) 25 rfl wq.heap.size 3 i0 _ 8 Try.underlying25 hi0 hz0 hz1 hz2 rfl (some ⟨wq.heap.size + 1, 0, none⟩) 0 0 [] rfl (own_empty 3 (wq.alloc (.cells #[.int .i64 x] 3)) wq.heap.size (by simp) (by simp)).drew1 (some ⟨b2, off2, none⟩) p cl ((o.take p).map (Value.int .i64)) rfl (HTK.out.keep (below_drew1 (below_alloc (below_new wq _) _))) (ints_one _) (by simp only [maxLen]; omega) (by omega) (by first | omega | (simp; done) | (simp; omega)) ?_
              intro L1 cL1 w1 hO1 hG1 hA1
              have HB1 := Lib.hid (below_grown (below_drew1 (below_alloc (below_new wq _) _)) (own_empty 3 (wq.alloc (.cells #[.int .i64 x] 3)) wq.heap.size (by simp) (by simp)).drew1 (Nat.le_refl _) hG1)
              have HG1 := Lib.hid hG1
              have HO1 : Hid (Own 3 w1 wq.heap.size L1 p cL1 ((o.take p).map (Value.int .i64))) := by simpa [Hid] using hO1
              have lw1 := HB1.out.size
              clear hO1 hG1 hA1
              have hS : w1.cell? ⟨b, off + k, none⟩ = some (.int .i64 x) := keepBox HB1.out bq
              refine hK _ _ (fun _ => hS) ?_
              clear hK
              (try simp only [Act.put, List.setIfInBounds_toArray, List.set_cons_zero, List.set_cons_succ])
              (try simp only [Nat.zero_add])
              refine oneT (i := 10) (by kernel_rfl) rfl (by rfl) (fun K hK => ?_)
              refine wp_append_sl _ (.tmp 34) (.tmp 39) 25 rfl wq.heap.size 3 i0 _ 8 Try.underlying25 hi0 hz0 hz1 hz2 rfl L1 p cL1 ((o.take p).map (Value.int .i64)) rfl HO1.out (some ⟨wq.heap.size, 0, none⟩) 1 1 [.int .i64 x] rfl (Sl.kept1 (Sl.drew1 (Sl.keep (sl_one wq 3 (.int .i64 x) rfl) (below_new _ _))) HG1.out (.inr (by simp [blockOf]))) (by simp [Value.oneCell']) (by simp only [maxLen]; omega) (by omega) (by first | omega | (simp; omega)) ?_
              intro L2 cL2 w2 hO2 hG2 hA2
              have HB2 := Lib.hid (below_grown HB1.out HO1.out (Nat.le_refl _) hG2)
              have HO2 := Lib.hid hO2
              have lw2 := HB2.out.size
              clear hO2 hG2 hA2
              have hS : w2.cell? ⟨b, off + k, none⟩ = some (.int .i64 x) := keepBox HB2.out bq
              refine hK _ _ (fun _ => hS) ?_
              clear hK
              (try simp only [Act.put, List.setIfInBounds_toArray, List.set_cons_zero, List.set_cons_succ])
              refine oneT (i := 14) (by kernel_rfl) rfl (by rfl) (fun K hK => ?_)
              refine wp_append_sl _ (.tmp 40) (.tmp 43) 25 rfl wq.heap.size 3 i0 _ 8 Try.underlying25 hi0 hz0 hz1 hz2 rfl L2 (p + 1) cL2 _ rfl HO2.out (some ⟨b2, off2 + p, none⟩) (k - p) (cl - p) ((o.drop p).map (Value.int .i64)) rfl (HDR.out.keep HB2.out) (ints_one _) (by simp only [maxLen]; omega) (by omega) lw2 ?_
              intro L3 cL3 w3 hO3 hG3 hA3
              have HB3 := Lib.hid (below_grown HB2.out HO2.out (Nat.le_refl _) hG3)
              have HO3 := Lib.hid hO3
              clear hO3 hG3 hA3
              have hS : w3.cell? ⟨b, off + k, none⟩ = some (.int .i64 x) := keepBox HB3.out bq
              refine hK _ _ (fun _ => hS) ?_
              clear hK
              (try simp only [Act.put, List.setIfInBounds_toArray, List.set_cons_zero, List.set_cons_succ])
              refine take0 (i := 15) (oi := _) (v := ?_) rfl (by kernel_rfl) (by kernel_rfl) (by kernel_rfl) (fun _ _ _ h => h) rfl (Or.inl ⟨by rfl, ?_⟩) (fun _ => hS) ?_
              rotate_left
              · intro w0; go_simp; with_reducible rfl
              (try simp only [Act.put, List.setIfInBounds_toArray, List.set_cons_zero, List.set_cons_succ])
              refine doneT (by kernel_rfl) ?_ _
              go_wp2_with fail
              go_roundw
              case rel =>
                refine ⟨k + 1, cL3, L3, by omega, ?_, by go_num, ?_, below_next blq.out HB3.out⟩
                · exact congrArg (fun j => Value.slice L3 j cL3) (by omega)
                · have := HO3.out
                  rw [hnext.out, hfin.out]
                  simp only [List.map_append, List.map_cons, List.map_nil]
                  exact (own_len (by omega) this).mono hwq2
              case measure => simp [intOf]; omega
        · have dp : decide (p < k) = false := decide_eq_false hpk
          obtain rfl : p = k := by omega
          have hfin : Hid (insF x o = o.take p ++ [x] ++ o.drop p) := by
            have hle : o.length ≤ p := by rw [hol.out]; omega
            have e1 := insF_end x o p hle
            rw [hins.out] at e1
            show _ = _
            rw [e1, List.take_of_length_le hle, List.drop_of_length_le hle, List.append_nil]
          go_wp2_with fail
          go_quiet (fail)
          go_wp2_with fail
          rcases hown.out.form with ⟨hLn, hk0, hc0, _⟩ | ⟨g0, cur0, hLn, _⟩
          · subst hLn
            subst hk0
            subst hc0
            obtain ⟨wq, hwq⟩ : ∃ wq : World, wq = wr.drewN nq := ⟨_, rfl⟩
            have hbq : Below wr.heap.size wr wq := by rw [hwq]; exact below_drewN _ _
            have bq := keepBox hbq bc
            have blq := Lib.hid (below_next blW.out hbq)
            have hwq2 := blq.out.size
            have ownQ := Lib.hid (ownW.out.keep hbq)
            have HTK : Hid (Sl wq none 0 0 ((o.take 0).map (Value.int .i64))) := by rw [List.map_take]; exact ownQ.out.sl.take (Nat.le_refl _)
            have HDR : Hid (Sl wq none 0 0 ((o.drop 0).map (Value.int .i64))) := by rw [List.drop_of_length_le (by rw [hol.out]; omega)]; exact Sl.nilAny (Nat.zero_le _)
            rw [← hwq]
            clear hwq hbW bc ownW blW hcell
            have hS : wq.drew.cell? ⟨b, off, none⟩ = some (.int .i64 x) := keepBox (below_drewN wq 1) bq
            refine wp_region_tail (fun w' => w'.cell? ⟨b, off, none⟩ = some (.int .i64 x)) [] (by kernel_rfl) ?_
            refine take0 (i := 1) (oi := _) (v := ?_) rfl (by kernel_rfl) (by kernel_rfl) (by kernel_rfl) (fun _ _ _ h => h) rfl (Or.inl ⟨by rfl, ?_⟩) (fun _ => hS) ?_
            rotate_left
            · intro w0; go_simp; with_reducible rfl
            (try simp only [Act.put, List.setIfInBounds_toArray, List.set_cons_zero, List.set_cons_succ])
            refine take0 (i := 2) (oi := _) (v := ?_) rfl (by kernel_rfl) (by kernel_rfl) (by kernel_rfl) (fun _ _ _ h => h) rfl (Or.inl ⟨by rfl, ?_⟩) (fun _ => hS) ?_
            rotate_left
            · intro w0; go_simp; with_reducible rfl
            (try simp only [Act.put, List.setIfInBounds_toArray, List.set_cons_zero, List.set_cons_succ])
            refine take0 (i := 3) (oi := _) (v := ?_) rfl (by kernel_rfl) (by kernel_rfl) (by kernel_rfl) (fun _ _ _ h => h) rfl (Or.inl ⟨by rfl, ?_⟩) (fun _ => hS) ?_
            rotate_left
            · intro w0; go_simp; with_reducible rfl
            (try simp only [Act.put, List.setIfInBounds_toArray, List.set_cons_zero, List.set_cons_succ])
            refine take0 (i := 5) (oi := _) (v := ?_) rfl (by kernel_rfl) (by kernel_rfl) (by kernel_rfl) (fun _ _ _ h => h) rfl (Or.inl ⟨by rfl, ?_⟩) (fun _ => hS) ?_
            rotate_left
            · intro w0; go_simp; with_reducible rfl
            (try simp only [Act.put, List.setIfInBounds_toArray, List.set_cons_zero, List.set_cons_succ])
            refine take0 (i := 6) (oi := _) (v := ?_) rfl (by kernel_rfl) (by kernel_rfl) (by kernel_rfl) (fun _ _ _ h => h) rfl (Or.inl ⟨by rfl, ?_⟩) (fun _ => hS) ?_
            rotate_left
            · intro w0; go_simp; with_reducible rfl
            (try simp only [Act.put, List.setIfInBounds_toArray, List.set_cons_zero, List.set_cons_succ])
            refine take0 (i := 7) (oi := _) (v := ?_) rfl (by kernel_rfl) (by kernel_rfl) (by kernel_rfl) (fun _ _ _ h => h) rfl (Or.inl ⟨by rfl, ?_⟩) (fun _ => hS) ?_
            rotate_left
            · intro w0; go_simp; with_reducible rfl
            (try simp only [Act.put, List.setIfInBounds_toArray, List.set_cons_zero, List.set_cons_succ])
            refine takeS (i := 8) (oi := _) (v := ?_) rfl (by kernel_rfl) (by kernel_rfl) (by kernel_rfl) (fun _ _ _ h => h) rfl (by kernel_rfl) (by kernel_rfl) (Or.inl ⟨by rfl, ?_⟩) hS ?_
            rotate_left
            · intro w0 hSw; (try dsimp only at hSw); go_simp; with_reducible rfl
            (try simp only [Act.put, List.setIfInBounds_toArray, List.set_cons_zero, List.set_cons_succ])
            refine take0 (i := 11) (oi := _) (v := ?_) rfl (by kernel_rfl) (by kernel_rfl) (by kernel_rfl) (fun _ _ _ h => h) rfl (Or.inl ⟨by rfl, ?_⟩) (fun _ => hS) ?_
            rotate_left
            · intro w0; go_simp; with_reducible rfl
            (try simp only [Act.put, List.setIfInBounds_toArray, List.set_cons_zero, List.set_cons_succ])
            refine take0 (i := 12) (oi := _) (v := ?_) rfl (by kernel_rfl) (by kernel_rfl) (by kernel_rfl) (fun _ _ _ h => h) rfl (Or.inl ⟨by rfl, ?_⟩) (fun _ => hS) ?_
            rotate_left
            · intro w0; go_simp; with_reducible rfl
            (try simp only [Act.put, List.setIfInBounds_toArray, List.set_cons_zero, List.set_cons_succ])
            refine take0 (i := 13) (oi := _) (v := ?_) rfl (by kernel_rfl) (by kernel_rfl) (by kernel_rfl) (fun _ _ _ h => h) rfl (Or.inl ⟨by rfl, ?_⟩) (fun _ => hS) ?_
            rotate_left
            · intro w0; go_simp; with_reducible rfl
            (try simp only [Act.put, List.setIfInBounds_toArray, List.set_cons_zero, List.set_cons_succ])
            refine twoT (i := 0) (j := 9) (by kernel_rfl) rfl (by rfl) rfl (by rfl) (fun K hK => ?_) (fun K hK => ?_)
            · go_simp
              have hS : ((wq.alloc (.cells #[] 3)).drew).cell? ⟨b, off, none⟩ = some (.int .i64 x) := keepBox (below_drew1 (below_new wq _)) bq
              refine hK _ _ (fun _ => hS) ?_
              clear hK
              (try simp only [Act.put, List.setIfInBounds_toArray, List.set_cons_zero, List.set_cons_succ])
              refine twoT (i := 4) (j := 9) (by kernel_rfl) rfl (by rfl) rfl (by rfl) (fun K hK => ?_) (fun K hK => ?_)
              · refine wp_append_sl _ (.tmp 30) (.tmp 33) 25 rfl wq.heap.size 3 i0 _ 8 Try.underlying25 hi0 hz0 hz1 hz2 rfl (some ⟨wq.heap.size, 0, none⟩) 0 0 [] rfl (own_empty 3 wq wq.heap.size rfl (Nat.le_refl _)).drew1 none 0 0 ((o.take 0).map (Value.int .i64)) rfl (HTK.out.keep (below_drew1 (below_new wq _))) (ints_one _) (by simp only [maxLen]; omega) (by omega) (by first | omega | (simp; done) | (simp; omega)) ?_
                intro L1 cL1 w1 hO1 hG1 hA1
                have HB1 := Lib.hid (below_grown (below_drew1 (below_new wq _)) (own_empty 3 wq wq.heap.size rfl (Nat.le_refl _)).drew1 (Nat.le_refl _) hG1)
                have HG1 := Lib.hid hG1
                have HO1 : Hid (Own 3 w1 wq.heap.size L1 0 cL1 ((o.take 0).map (Value.int .i64))) := by simpa [Hid] using hO1
                have lw1 := HB1.out.size
                clear hO1 hG1 hA1
                have hS : w1.cell? ⟨b, off, none⟩ = some (.int .i64 x) := keepBox HB1.out bq
                refine hK _ _ (fun _ => hS) ?_
                clear hK
                (try simp only [Act.put, List.setIfInBounds_toArray, List.set_cons_zero, List.set_cons_succ])
                refine oneT (i := 9) (by kernel_rfl) rfl (by rfl) (fun K hK => ?_)
                go_simp
                have hS : (w1.alloc (.cells #[.int .i64 x] 3)).cell? ⟨b, off, none⟩ = some (.int .i64 x) := keepBox (below_new w1 _) hS
                refine hK _ _ (fun _ => hS) ?_
                clear hK
                (try simp only [Act.put, List.setIfInBounds_toArray, List.set_cons_zero, List.set_cons_succ])
                refine oneT (i := 10) (by kernel_rfl) rfl (by rfl) (fun K hK => ?_)
                refine wp_append_sl _ (.tmp 34) (.tmp 39) 25 rfl wq.heap.size 3 i0 _ 8 Try.underlying25 hi0 hz0 hz1 hz2 rfl L1 0 cL1 ((o.take 0).map (Value.int .i64)) rfl (HO1.out.keep (below_new w1 _)) (some ⟨w1.heap.size, 0, none⟩) 1 1 [.int .i64 x] rfl (sl_one w1 3 (.int .i64 x) rfl) (by simp [Value.oneCell']) (by simp only [maxLen]; omega) (by omega) (by first | omega | (simp; omega)) ?_
                intro L2 cL2 w2 hO2 hG2 hA2
                have HB2 := Lib.hid (below_grown (below_alloc HB1.out _) (HO1.out.keep (below_new w1 _)) (Nat.le_refl _) hG2)
                have HO2 := Lib.hid hO2
                have lw2 := HB2.out.size
                clear hO2 hG2 hA2
                have hS : w2.cell? ⟨b, off, none⟩ = some (.int .i64 x) := keepBox HB2.out bq
                refine hK _ _ (fun _ => hS) ?_
                clear hK
                (try simp only [Act.put, List.setIfInBounds_toArray, List.set_cons_zero, List.set_cons_succ])
                refine oneT (i := 14) (by kernel_rfl) rfl (by rfl) (fun K hK => ?_)
                refine wp_append_sl _ (.tmp 40) (.tmp 43) 25 rfl wq.heap.size 3 i0 _ 8 Try.underlying25 hi0 hz0 hz1 hz2 rfl L2 (0 + 1) cL2 _ rfl HO2.out none 0 0 ((o.drop 0).map (Value.int .i64)) rfl (HDR.out.keep HB2.out) (ints_one _) (by simp only [maxLen]; omega) (by omega) lw2 ?_
                intro L3 cL3 w3 hO3 hG3 hA3
                have HB3 := Lib.hid (below_grown HB2.out HO2.out (Nat.le_refl _) hG3)
                have HO3 := Lib.hid hO3
                clear hO3 hG3 hA3
                have hS : w3.cell? ⟨b, off, none⟩ = some (.int .i64 x) := keepBox HB3.out bq
                refine hK _ _ (fun _ => hS) ?_
                clear hK
                (try simp only [Act.put, List.setIfInBounds_toArray, List.set_cons_zero, List.set_cons_succ])
                refine take0 (i := 15) (oi := _) (v := ?_) rfl (by kernel_rfl) (by kernel_rfl) (by kernel_rfl) (fun _ _ _ h => h) rfl (Or.inl ⟨by rfl, ?_⟩) (fun _ => hS) ?_
                rotate_left
                · intro w0; go_simp; with_reducible rfl
                (try simp only [Act.put, List.setIfInBounds_toArray, List.set_cons_zero, List.set_cons_succ])
                refine doneT (by kernel_rfl) ?_ _
                go_wp2_with fail
                go_roundw
                case rel =>
                  refine ⟨0 + 1, cL3, L3, by omega, ?_, by go_num, ?_, below_next blq.out HB3.out⟩
                  · exact congrArg (fun j => Value.slice L3 j cL3) (by omega)
                  · have := HO3.out
                    rw [hnext.out, hfin.out]
                    simp only [List.map_append, List.map_cons, List.map_nil]
                    exact (own_len (by omega) this).mono hwq2
                case measure => simp [intOf]; omega
              · go_simp
                have hS : (((wq.alloc (.cells #[] 3)).alloc (.cells #[.int .i64 x] 3)).drew).cell? ⟨b, off, none⟩ = some (.int .i64 x) := keepBox (below_drew1 (below_alloc (below_new wq _) _)) bq
                refine hK _ _ (fun _ => hS) ?_
                clear hK
                (try simp only [Act.put, List.setIfInBounds_toArray, List.set_cons_zero, List.set_cons_succ])
                refine oneT (i := 4) (by kernel_rfl) rfl (by rfl) (fun K hK => ?_)
                refine wp_append_sl _ (.tmp 30) (.tmp 33) 25 rfl wq.heap.size 3 i0 _ 8 Try.underlying25 hi0 hz0 hz1 hz2 rfl (some ⟨wq.heap.size, 0, none⟩) 0 0 [] rfl ((own_empty 3 wq wq.heap.size rfl (Nat.le_refl _)).keep (below_new _ (.cells #[.int .i64 x] 3))).drew1 none 0 0 ((o.take 0).map (Value.int .i64)) rfl (HTK.out.keep (below_drew1 (below_alloc (below_new wq _) _))) (ints_one _) (by simp only [maxLen]; omega) (by omega) (by first | omega | (simp; done) | (simp; omega)) ?_
                intro L1 cL1 w1 hO1 hG1 hA1
                have HB1 := Lib.hid (below_grown (below_drew1 (below_alloc (below_new wq _) _)) ((own_empty 3 wq wq.heap.size rfl (Nat.le_refl _)).keep (below_new _ (.cells #[.int .i64 x] 3))).drew1 (Nat.le_refl _) hG1)
                have HG1 := Lib.hid hG1
                have HO1 : Hid (Own 3 w1 wq.heap.size L1 0 cL1 ((o.take 0).map (Value.int .i64))) := by simpa [Hid] using hO1
                have lw1 := HB1.out.size
                clear hO1 hG1 hA1
                have hS : w1.cell? ⟨b, off, none⟩ = some (.int .i64 x) := keepBox HB1.out bq
                refine hK _ _ (fun _ => hS) ?_
                clear hK
                (try simp only [Act.put, List.setIfInBounds_toArray, List.set_cons_zero, List.set_cons_succ])
                (try simp only [Nat.zero_add])
                refine oneT (i := 10) (by kernel_rfl) rfl (by rfl) (fun K hK => ?_)
                refine wp_append_sl _ (.tmp 34) (.tmp 39) 25 rfl wq.heap.size 3 i0 _ 8 Try.underlying25 hi0 hz0 hz1 hz2 rfl L1 0 cL1 ((o.take 0).map (Value.int .i64)) rfl HO1.out (some ⟨wq.heap.size + 1, 0, none⟩) 1 1 [.int .i64 x] rfl (Sl.kept1 (Sl.drew1 (sl_one (wq.alloc (.cells #[] 3)) 3 (.int .i64 x) (by simp))) HG1.out (.inr (by simp [blockOf]))) (by simp [Value.oneCell']) (by simp only [maxLen]; omega) (by omega) (by first | omega | (simp; omega)) ?_
                intro L2 cL2 w2 hO2 hG2 hA2
                have HB2 := Lib.hid (below_grown HB1.out HO1.out (Nat.le_refl _) hG2)
                have HO2 := Lib.hid hO2
                have lw2 := HB2.out.size
                clear hO2 hG2 hA2
                have hS : w2.cell? ⟨b, off, none⟩ = some (.int .i64 x) := keepBox HB2.out bq
                refine hK _ _ (fun _ => hS) ?_
                clear hK
                (try simp only [Act.put, List.setIfInBounds_toArray, List.set_cons_zero, List.set_cons_succ])
                refine oneT (i := 14) (by kernel_rfl) rfl (by rfl) (fun K hK => ?_)
                refine wp_append_sl _ (.tmp 40) (.tmp 43) 25 rfl wq.heap.size 3 i0 _ 8 Try.underlying25 hi0 hz0 hz1 hz2 rfl L2 (0 + 1) cL2 _ rfl HO2.out none 0 0 ((o.drop 0).map (Value.int .i64)) rfl (HDR.out.keep HB2.out) (ints_one _) (by simp only [maxLen]; omega) (by omega) lw2 ?_
                intro L3 cL3 w3 hO3 hG3 hA3
                have HB3 := Lib.hid (below_grown HB2.out HO2.out (Nat.le_refl _) hG3)
                have HO3 := Lib.hid hO3
                clear hO3 hG3 hA3
                have hS : w3.cell? ⟨b, off, none⟩ = some (.int .i64 x) := keepBox HB3.out bq
                refine hK _ _ (fun _ => hS) ?_
                clear hK
                (try simp only [Act.put, List.setIfInBounds_toArray, List.set_cons_zero, List.set_cons_succ])
                refine take0 (i := 15) (oi := _) (v := ?_) rfl (by kernel_rfl) (by kernel_rfl) (by kernel_rfl) (fun _ _ _ h => h) rfl (Or.inl ⟨by rfl, ?_⟩) (fun _ => hS) ?_
                rotate_left
                · intro w0; go_simp; with_reducible rfl
                (try simp only [Act.put, List.setIfInBounds_toArray, List.set_cons_zero, List.set_cons_succ])
                refine doneT (by kernel_rfl) ?_ _
                go_wp2_with fail
                go_roundw
                case rel =>
                  refine ⟨0 + 1, cL3, L3, by omega, ?_, by go_num, ?_, below_next blq.out HB3.out⟩
                  · exact congrArg (fun j => Value.slice L3 j cL3) (by omega)
                  · have := HO3.out
                    rw [hnext.out, hfin.out]
                    simp only [List.map_append, List.map_cons, List.map_nil]
                    exact (own_len (by omega) this).mono hwq2
                case measure => simp [intOf]; omega
            · go_simp
              have hS : ((wq.alloc (.cells #[.int .i64 x] 3)).drew).cell? ⟨b, off, none⟩ = some (.int .i64 x) := keepBox (below_drew1 (below_new wq _)) bq
              refine hK _ _ (fun _ => hS) ?_
              clear hK
              (try simp only [Act.put, List.setIfInBounds_toArray, List.set_cons_zero, List.set_cons_succ])
              refine oneT (i := 0) (by kernel_rfl) rfl (by rfl) (fun K hK => ?_)
              go_simp
              have hS : (((wq.alloc (.cells #[.int .i64 x] 3)).alloc (.cells #[] 3)).drew).cell? ⟨b, off, none⟩ = some (.int .i64 x) := keepBox (below_drew1 (below_alloc (below_new wq _) _)) bq
              refine hK _ _ (fun _ => hS) ?_
              clear hK
              (try simp only [Act.put, List.setIfInBounds_toArray, List.set_cons_zero, List.set_cons_succ])
              refine oneT (i := 4) (by kernel_rfl) rfl (by rfl) (fun K hK => ?_)
              refine wp_append_sl _ (.tmp 30) (.tmp 33) 25 rfl wq.heap.size 3 i0 _ 8 Try.underlying25 hi0 hz0 hz1 hz2 rfl (some ⟨wq.heap.size + 1, 0, none⟩) 0 0 [] rfl (own_empty 3 (wq.alloc (.cells #[.int .i64 x] 3)) wq.heap.size (by simp) (by simp)).drew1 none 0 0 ((o.take 0).map (Value.int .i64)) rfl (HTK.out.keep (below_drew1 (below_alloc (below_new wq _) _))) (ints_one _) (by simp only [maxLen]; omega) (by omega) (by first | omega | (simp; done) | (simp; omega)) ?_
              intro L1 cL1 w1 hO1 hG1 hA1
              have HB1 := Lib.hid (below_grown (below_drew1 (below_alloc (below_new wq _) _)) (own_empty 3 (wq.alloc (.cells #[.int .i64 x] 3)) wq.heap.size (by simp) (by simp)).drew1 (Nat.le_refl _) hG1)
              have HG1 := Lib.hid hG1
              have HO1 : Hid (Own 3 w1 wq.heap.size L1 0 cL1 ((o.take 0).map (Value.int .i64))) := by simpa [Hid] using hO1
              have lw1 := HB1.out.size
              clear hO1 hG1 hA1
              have hS : w1.cell? ⟨b, off, none⟩ = some (.int .i64 x) := keepBox HB1.out bq
              refine hK _ _ (fun _ => hS) ?_
              clear hK
              (try simp only [Act.put, List.setIfInBounds_toArray, List.set_cons_zero, List.set_cons_succ])
              (try simp only [Nat.zero_add])
              refine oneT (i := 10) (by kernel_rfl) rfl (by rfl) (fun K hK => ?_)
              refine wp_append_sl _ (.tmp 34) (.tmp 39) 25 rfl wq.heap.size 3 i0 _ 8 Try.underlying25 hi0 hz0 hz1 hz2 rfl L1 0 cL1 ((o.take 0).map (Value.int .i64)) rfl HO1.out (some ⟨wq.heap.size, 0, none⟩) 1 1 [.int .i64 x] rfl (Sl.kept1 (Sl.drew1 (Sl.keep (sl_one wq 3 (.int .i64 x) rfl) (below_new _ _))) HG1.out (.inr (by simp [blockOf]))) (by simp [Value.oneCell']) (by simp only [maxLen]; omega) (by omega) (by first | omega | (simp; omega)) ?_
              intro L2 cL2 w2 hO2 hG2 hA2
              have HB2 := Lib.hid (below_grown HB1.out HO1.out (Nat.le_refl _) hG2)
              have HO2 := Lib.hid hO2
              have lw2 := HB2.out.size
              clear hO2 hG2 hA2
              have hS : w2.cell? ⟨b, off, none⟩ = some (.int .i64 x) := keepBox HB2.out bq
              refine hK _ _ (fun _ => hS) ?_
              clear hK
              (try simp only [Act.put, List.setIfInBounds_toArray, List.set_cons_zero, List.set_cons_succ])
              refine oneT (i := 14) (by kernel_rfl) rfl (by rfl) (fun K hK => ?_)
              refine wp_append_sl _ (.tmp 40) (.tmp 43) 25 rfl wq.heap.size 3 i0 _ 8 Try.underlying25 hi0 hz0 hz1 hz2 rfl L2 (0 + 1) cL2 _ rfl HO2.out none 0 0 ((o.drop 0).map (Value.int .i64)) rfl (HDR.out.keep HB2.out) (ints_one _) (by simp only [maxLen]; omega) (by omega) lw2 ?_
              intro L3 cL3 w3 hO3 hG3 hA3
              have HB3 := Lib.hid (below_grown HB2.out HO2.out (Nat.le_refl _) hG3)
              have HO3 := Lib.hid hO3
              clear hO3 hG3 hA3
              have hS : w3.cell? ⟨b, off, none⟩ = some (.int .i64 x) := keepBox HB3.out bq
              refine hK _ _ (fun _ => hS) ?_
              clear hK
              (try simp only [Act.put, List.setIfInBounds_toArray, List.set_cons_zero, List.set_cons_succ])
              refine take0 (i := 15) (oi := _) (v := ?_) rfl (by kernel_rfl) (by kernel_rfl) (by kernel_rfl) (fun _ _ _ h => h) rfl (Or.inl ⟨by rfl, ?_⟩) (fun _ => hS) ?_
              rotate_left
              · intro w0; go_simp; with_reducible rfl
              (try simp only [Act.put, List.setIfInBounds_toArray, List.set_cons_zero, List.set_cons_succ])
              refine doneT (by kernel_rfl) ?_ _
              go_wp2_with fail
              go_roundw
              case rel =>
                refine ⟨0 + 1, cL3, L3, by omega, ?_, by go_num, ?_, below_next blq.out HB3.out⟩
                · exact congrArg (fun j => Value.slice L3 j cL3) (by omega)
                · have := HO3.out
                  rw [hnext.out, hfin.out]
                  simp only [List.map_append, List.map_cons, List.map_nil]
                  exact (own_len (by omega) this).mono hwq2
              case measure => simp [intOf]; omega
          · subst hLn
            by_cases hcp : cl = p
            · subst hcp
              obtain ⟨wq, hwq⟩ : ∃ wq : World, wq = wr.drewN nq := ⟨_, rfl⟩
              have hbq : Below wr.heap.size wr wq := by rw [hwq]; exact below_drewN _ _
              have bq := keepBox hbq bc
              have blq := Lib.hid (below_next blW.out hbq)
              have hwq2 := blq.out.size
              have ownQ := Lib.hid (ownW.out.keep hbq)
              have HTK : Hid (Sl wq (some ⟨g0, 0, none⟩) cl cl ((o.take cl).map (Value.int .i64))) := by rw [List.map_take]; exact ownQ.out.sl.take (Nat.le_refl _)
              have HDR : Hid (Sl wq (some ⟨g0, 0, none⟩) 0 0 ((o.drop cl).map (Value.int .i64))) := by rw [List.drop_of_length_le (by rw [hol.out]; omega)]; exact Sl.nilAny (Nat.zero_le _)
              rw [← hwq]
              clear hwq hbW bc ownW blW hcell
              have hS : wq.drew.cell? ⟨b, off + cl, none⟩ = some (.int .i64 x) := keepBox (below_drewN wq 1) bq
              refine wp_region_tail (fun w' => w'.cell? ⟨b, off + cl, none⟩ = some (.int .i64 x)) [] (by kernel_rfl) ?_
              refine take0 (i := 1) (oi := _) (v := ?_) rfl (by kernel_rfl) (by kernel_rfl) (by kernel_rfl) (fun _ _ _ h => h) rfl (Or.inl ⟨by rfl, ?_⟩) (fun _ => hS) ?_
              rotate_left
              · intro w0; go_simp; with_reducible rfl
              (try simp only [Act.put, List.setIfInBounds_toArray, List.set_cons_zero, List.set_cons_succ])
              refine take0 (i := 2) (oi := _) (v := ?_) rfl (by kernel_rfl) (by kernel_rfl) (by kernel_rfl) (fun _ _ _ h => h) rfl (Or.inl ⟨by rfl, ?_⟩) (fun _ => hS) ?_
              rotate_left
              · intro w0; go_simp; with_reducible rfl
              (try simp only [Act.put, List.setIfInBounds_toArray, List.set_cons_zero, List.set_cons_succ])
              refine take0 (i := 3) (oi := _) (v := ?_) rfl (by kernel_rfl) (by kernel_rfl) (by kernel_rfl) (fun _ _ _ h => h) rfl (Or.inl ⟨by rfl, ?_⟩) (fun _ => hS) ?_
              rotate_left
              · intro w0; go_simp; with_reducible rfl
              (try simp only [Act.put, List.setIfInBounds_toArray, List.set_cons_zero, List.set_cons_succ])
              refine take0 (i := 5) (oi := _) (v := ?_) rfl (by kernel_rfl) (by kernel_rfl) (by kernel_rfl) (fun _ _ _ h => h) rfl (Or.inl ⟨by rfl, ?_⟩) (fun _ => hS) ?_
              rotate_left
              · intro w0; go_simp; with_reducible rfl
              (try simp only [Act.put, List.setIfInBounds_toArray, List.set_cons_zero, List.set_cons_succ])
              refine take0 (i := 6) (oi := _) (v := ?_) rfl (by kernel_rfl) (by kernel_rfl) (by kernel_rfl) (fun _ _ _ h => h) rfl (Or.inl ⟨by rfl, ?_⟩) (fun _ => hS) ?_
              rotate_left
              · intro w0; go_simp; with_reducible rfl
              (try simp only [Act.put, List.setIfInBounds_toArray, List.set_cons_zero, List.set_cons_succ])
              refine take0 (i := 7) (oi := _) (v := ?_) rfl (by kernel_rfl) (by kernel_rfl) (by kernel_rfl) (fun _ _ _ h => h) rfl (Or.inl ⟨by rfl, ?_⟩) (fun _ => hS) ?_
              rotate_left
              · intro w0; go_simp; with_reducible rfl
              (try simp only [Act.put, List.setIfInBounds_toArray, List.set_cons_zero, List.set_cons_succ])
              refine takeS (i := 8) (oi := _) (v := ?_) rfl (by kernel_rfl) (by kernel_rfl) (by kernel_rfl) (fun _ _ _ h => h) rfl (by kernel_rfl) (by kernel_rfl) (Or.inl ⟨by rfl, ?_⟩) hS ?_
              rotate_left
              · intro w0 hSw; (try dsimp only at hSw); go_simp; with_reducible rfl
              (try simp only [Act.put, List.setIfInBounds_toArray, List.set_cons_zero, List.set_cons_succ])
              refine take0 (i := 11) (oi := _) (v := ?_) rfl (by kernel_rfl) (by kernel_rfl) (by kernel_rfl) (fun _ _ _ h => h) rfl (Or.inl ⟨by rfl, ?_⟩) (fun _ => hS) ?_
              rotate_left
              · intro w0; go_simp; with_reducible rfl
              (try simp only [Act.put, List.setIfInBounds_toArray, List.set_cons_zero, List.set_cons_succ])
              refine take0 (i := 12) (oi := _) (v := ?_) rfl (by kernel_rfl) (by kernel_rfl) (by kernel_rfl) (fun _ _ _ h => h) rfl (Or.inl ⟨by rfl, ?_⟩) (fun _ => hS) ?_
              rotate_left
              · intro w0; go_simp; with_reducible rfl
              (try simp only [Act.put, List.setIfInBounds_toArray, List.set_cons_zero, List.set_cons_succ])
              refine take0 (i := 13) (oi := _) (v := ?_) rfl (by kernel_rfl) (by kernel_rfl) (by kernel_rfl) (fun _ _ _ h => h) rfl (Or.inl ⟨by rfl, ?_⟩) (fun _ => hS) ?_
              rotate_left
              · intro w0; go_simp; with_reducible rfl
              (try simp only [Act.put, List.setIfInBounds_toArray, List.set_cons_zero, List.set_cons_succ])
              refine twoT (i := 0) (j := 9) (by kernel_rfl) rfl (by rfl) rfl (by rfl) (fun K hK => ?_) (fun K hK => ?_)
              · go_simp
                have hS : ((wq.alloc (.cells #[] 3)).drew).cell? ⟨b, off + cl, none⟩ = some (.int .i64 x) := keepBox (below_drew1 (below_new wq _)) bq
                refine hK _ _ (fun _ => hS) ?_
                clear hK
                (try simp only [Act.put, List.setIfInBounds_toArray, List.set_cons_zero, List.set_cons_succ])
                refine twoT (i := 4) (j := 9) (by kernel_rfl) rfl (by rfl) rfl (by rfl) (fun K hK => ?_) (fun K hK => ?_)
                · refine wp_append_sl _ (.tmp 30) (.tmp 33) 25 rfl wq.heap.size 3 i0 _ 8 Try.underlying25 hi0 hz0 hz1 hz2 rfl (some ⟨wq.heap.size, 0, none⟩) 0 0 [] rfl (own_empty 3 wq wq.heap.size rfl (Nat.le_refl _)).drew1 (some ⟨g0, 0, none⟩) cl cl ((o.take cl).map (Value.int .i64)) rfl (HTK.out.keep (below_drew1 (below_new wq _))) (ints_one _) (by simp only [maxLen]; omega) (by omega) (by first | omega | (simp; done) | (simp; omega)) ?_
                  intro L1 cL1 w1 hO1 hG1 hA1
                  have HB1 := Lib.hid (below_grown (below_drew1 (below_new wq _)) (own_empty 3 wq wq.heap.size rfl (Nat.le_refl _)).drew1 (Nat.le_refl _) hG1)
                  have HG1 := Lib.hid hG1
                  have HO1 : Hid (Own 3 w1 wq.heap.size L1 cl cL1 ((o.take cl).map (Value.int .i64))) := by simpa [Hid] using hO1
                  have lw1 := HB1.out.size
                  clear hO1 hG1 hA1
                  have hS : w1.cell? ⟨b, off + cl, none⟩ = some (.int .i64 x) := keepBox HB1.out bq
                  refine hK _ _ (fun _ => hS) ?_
                  clear hK
                  (try simp only [Act.put, List.setIfInBounds_toArray, List.set_cons_zero, List.set_cons_succ])
                  refine oneT (i := 9) (by kernel_rfl) rfl (by rfl) (fun K hK => ?_)
                  go_simp
                  have hS : (w1.alloc (.cells #[.int .i64 x] 3)).cell? ⟨b, off + cl, none⟩ = some (.int .i64 x) := keepBox (below_new w1 _) hS
                  refine hK _ _ (fun _ => hS) ?_
                  clear hK
                  (try simp only [Act.put, List.setIfInBounds_toArray, List.set_cons_zero, List.set_cons_succ])
                  refine oneT (i := 10) (by kernel_rfl) rfl (by rfl) (fun K hK => ?_)
                  refine wp_append_sl _ (.tmp 34) (.tmp 39) 25 rfl wq.heap.size 3 i0 _ 8 Try.underlying25 hi0 hz0 hz1 hz2 rfl L1 cl cL1 ((o.take cl).map (Value.int .i64)) rfl (HO1.out.keep (below_new w1 _)) (some ⟨w1.heap.size, 0, none⟩) 1 1 [.int .i64 x] rfl (sl_one w1 3 (.int .i64 x) rfl) (by simp [Value.oneCell']) (by simp only [maxLen]; omega) (by omega) (by first | omega | (simp; omega)) ?_
                  intro L2 cL2 w2 hO2 hG2 hA2
                  have HB2 := Lib.hid (below_grown (below_alloc HB1.out _) (HO1.out.keep (below_new w1 _)) (Nat.le_refl _) hG2)
                  have HO2 := Lib.hid hO2
                  have lw2 := HB2.out.size
                  clear hO2 hG2 hA2
                  have hS : w2.cell? ⟨b, off + cl, none⟩ = some (.int .i64 x) := keepBox HB2.out bq
                  refine hK _ _ (fun _ => hS) ?_
                  clear hK
                  (try simp only [Act.put, List.setIfInBounds_toArray, List.set_cons_zero, List.set_cons_succ])
                  refine oneT (i := 14) (by kernel_rfl) rfl (by rfl) (fun K hK => ?_)
                  refine wp_append_sl _ (.tmp 40) (.tmp 43) 25 rfl wq.heap.size 3 i0 _ 8 Try.underlying25 hi0 hz0 hz1 hz2 rfl L2 (cl + 1) cL2 _ rfl HO2.out (some ⟨g0, 0, none⟩) 0 0 ((o.drop cl).map (Value.int .i64)) rfl (HDR.out.keep HB2.out) (ints_one _) (by simp only [maxLen]; omega) (by omega) lw2 ?_
                  intro L3 cL3 w3 hO3 hG3 hA3
                  have HB3 := Lib.hid (below_grown HB2.out HO2.out (Nat.le_refl _) hG3)
                  have HO3 := Lib.hid hO3
                  clear hO3 hG3 hA3
                  have hS : w3.cell? ⟨b, off + cl, none⟩ = some (.int .i64 x) := keepBox HB3.out bq
                  refine hK _ _ (fun _ => hS) ?_
                  clear hK
                  (try simp only [Act.put, List.setIfInBounds_toArray, List.set_cons_zero, List.set_cons_succ])
                  refine take0 (i := 15) (oi := _) (v := ?_) rfl (by kernel_rfl) (by kernel_rfl) (by kernel_rfl) (fun _ _ _ h => h) rfl (Or.inl ⟨by rfl, ?_⟩) (fun _ => hS) ?_
                  rotate_left
                  · intro w0; go_simp; with_reducible rfl
                  (try simp only [Act.put, List.setIfInBounds_toArray, List.set_cons_zero, List.set_cons_succ])
                  refine doneT (by kernel_rfl) ?_ _
                  go_wp2_with fail
                  go_roundw
                  case rel =>
                    refine ⟨cl + 1, cL3, L3, by omega, ?_, by go_num, ?_, below_next blq.out HB3.out⟩
                    · exact congrArg (fun j => Value.slice L3 j cL3) (by omega)
                    · have := HO3.out
                      rw [hnext.out, hfin.out]
                      simp only [List.map_append, List.map_cons, List.map_nil]
                      exact (own_len (by omega) this).mono hwq2
                  case measure => simp [intOf]; omega
                · go_simp
                  have hS : (((wq.alloc (.cells #[] 3)).alloc (.cells #[.int .i64 x] 3)).drew).cell? ⟨b, off + cl, none⟩ = some (.int .i64 x) := keepBox (below_drew1 (below_alloc (below_new wq _) _)) bq
                  refine hK _ _ (fun _ => hS) ?_
                  clear hK
                  (try simp only [Act.put, List.setIfInBounds_toArray, List.set_cons_zero, List.set_cons_succ])
                  refine oneT (i := 4) (by kernel_rfl) rfl (by rfl) (fun K hK => ?_)
                  refine wp_append_sl _ (.tmp 30) (.tmp 33) 25 rfl wq.heap.size 3 i0 _ 8 Try.underlying25 hi0 hz0 hz1 hz2 rfl (some ⟨wq.heap.size, 0, none⟩) 0 0 [] rfl ((own_empty 3 wq wq.heap.size rfl (Nat.le_refl _)).keep (below_new _ (.cells #[.int .i64 x] 3))).drew1 (some ⟨g0, 0, none⟩) cl cl ((o.take cl).map (Value.int .i64)) rfl (HTK.out.keep (below_drew1 (below_alloc (below_new wq _) _))) (ints_one _) (by simp only [maxLen]; omega) (by omega) (by first | omega | (simp; done) | (simp; omega)) ?_
                  intro L1 cL1 w1 hO1 hG1 hA1
                  have HB1 := Lib.hid (below_grown (below_drew1 (below_alloc (below_new wq _) _)) ((own_empty 3 wq wq.heap.size rfl (Nat.le_refl _)).keep (below_new _ (.cells #[.int .i64 x] 3))).drew1 (Nat.le_refl _) hG1)
                  have HG1 := Lib.hid hG1
                  have HO1 : Hid (Own 3 w1 wq.heap.size L1 cl cL1 ((o.take cl).map (Value.int .i64))) := by simpa [Hid] using hO1
                  have lw1 := HB1.out.size
                  clear hO1 hG1 hA1
                  have hS : w1.cell? ⟨b, off + cl, none⟩ = some (.int .i64 x) := keepBox HB1.out bq
                  refine hK _ _ (fun _ => hS) ?_
                  clear hK
                  (try simp only [Act.put, List.setIfInBounds_toArray, List.set_cons_zero, List.set_cons_succ])
                  (try simp only [Nat.zero_add])
                  refine oneT (i := 10) (by kernel_rfl) rfl (by rfl) (fun K hK => ?_)
                  refine wp_append_sl _ (.tmp 34) (.tmp 39) 25 rfl wq.heap.size 3 i0 _ 8 Try.underlying25 hi0 hz0 hz1 hz2 rfl L1 cl cL1 ((o.take cl).map (Value.int .i64)) rfl HO1.out (some ⟨wq.heap.size + 1, 0, none⟩) 1 1 [.int .i64 x] rfl (Sl.kept1 (Sl.drew1 (sl_one (wq.alloc (.cells #[] 3)) 3 (.int .i64 x) (by simp))) HG1.out (.inr (by simp [blockOf]))) (by simp [Value.oneCell']) (by simp only [maxLen]; omega) (by omega) (by first | omega | (simp; omega)) ?_
                  intro L2 cL2 w2 hO2 hG2 hA2
                  have HB2 := Lib.hid (below_grown HB1.out HO1.out (Nat.le_refl _) hG2)
                  have HO2 := Lib.hid hO2
                  have lw2 := HB2.out.size
                  clear hO2 hG2 hA2
                  have hS : w2.cell? ⟨b, off + cl, none⟩ = some (.int .i64 x) := keepBox HB2.out bq
                  refine hK _ _ (fun _ => hS) ?_
                  clear hK
                  (try simp only [Act.put, List.setIfInBounds_toArray, List.set_cons_zero, List.set_cons_succ])
                  refine oneT (i := 14) (by kernel_rfl) rfl (by rfl) (fun K hK => ?_)
                  refine wp_append_sl _ (.tmp 40) (.tmp 43) 25 rfl wq.heap.size 3 i0 _ 8 Try.underlying25 hi0 hz0 hz1 hz2 rfl L2 (cl + 1) cL2 _ rfl HO2.out (some ⟨g0, 0, none⟩) 0 0 ((o.drop cl).map (Value.int .i64)) rfl (HDR.out.keep HB2.out) (ints_one _) (by simp only [maxLen]; omega) (by omega) lw2 ?_
                  intro L3 cL3 w3 hO3 hG3 hA3
                  have HB3 := Lib.hid (below_grown HB2.out HO2.out (Nat.le_refl _) hG3)
                  have HO3 := Lib.hid hO3
                  clear hO3 hG3 hA3
                  have hS : w3.cell? ⟨b, off + cl, none⟩ = some (.int .i64 x) := keepBox HB3.out bq
                  refine hK _ _ (fun _ => hS) ?_
                  clear hK
                  (try simp only [Act.put, List.setIfInBounds_toArray, List.set_cons_zero, List.set_cons_succ])
                  refine take0 (i := 15) (oi := _) (v := ?_) rfl (by kernel_rfl) (by kernel_rfl) (by kernel_rfl) (fun _ _ _ h => h) rfl (Or.inl ⟨by rfl, ?_⟩) (fun _ => hS) ?_
                  rotate_left
                  · intro w0; go_simp; with_reducible rfl
                  (try simp only [Act.put, List.setIfInBounds_toArray, List.set_cons_zero, List.set_cons_succ])
                  refine doneT (by kernel_rfl) ?_ _
                  go_wp2_with fail
                  go_roundw
                  case rel =>
                    refine ⟨cl + 1, cL3, L3, by omega, ?_, by go_num, ?_, below_next blq.out HB3.out⟩
                    · exact congrArg (fun j => Value.slice L3 j cL3) (by omega)
                    · have := HO3.out
                      rw [hnext.out, hfin.out]
                      simp only [List.map_append, List.map_cons, List.map_nil]
                      exact (own_len (by omega) this).mono hwq2
                  case measure => simp [intOf]; omega
              · go_simp
                have hS : ((wq.alloc (.cells #[.int .i64 x] 3)).drew).cell? ⟨b, off + cl, none⟩ = some (.int .i64 x) := keepBox (below_drew1 (below_new wq _)) bq
                refine hK _ _ (fun _ => hS) ?_
                clear hK
                (try simp only [Act.put, List.setIfInBounds_toArray, List.set_cons_zero, List.set_cons_succ])
                refine oneT (i := 0) (by kernel_rfl) rfl (by rfl) (fun K hK => ?_)
                go_simp
                have hS : (((wq.alloc (.cells #[.int .i64 x] 3)).alloc (.cells #[] 3)).drew).cell? ⟨b, off + cl, none⟩ = some (.int .i64 x) := keepBox (below_drew1 (below_alloc (below_new wq _) _)) bq
                refine hK _ _ (fun _ => hS) ?_
                clear hK
                (try simp only [Act.put, List.setIfInBounds_toArray, List.set_cons_zero, List.set_cons_succ])
                refine oneT (i := 4) (by kernel_rfl) rfl (by rfl) (fun K hK => ?_)
                refine wp_append_sl _ (.tmp 30) (.tmp 33) 25 rfl wq.heap.size 3 i0 _ 8 Try.underlying25 hi0 hz0 hz1 hz2 rfl (some ⟨wq.heap.size + 1, 0, none⟩) 0 0 [] rfl (own_empty 3 (wq.alloc (.cells #[.int .i64 x] 3)) wq.heap.size (by simp) (by simp)).drew1 (some ⟨g0, 0, none⟩) cl cl ((o.take cl).map (Value.int .i64)) rfl (HTK.out.keep (below_drew1 (below_alloc (below_new wq _) _))) (ints_one _) (by simp only [maxLen]; omega) (by omega) (by first | omega | (simp; done) | (simp; omega)) ?_
                intro L1 cL1 w1 hO1 hG1 hA1
                have HB1 := Lib.hid (below_grown (below_drew1 (below_alloc (below_new wq _) _)) (own_empty 3 (wq.alloc (.cells #[.int .i64 x] 3)) wq.heap.size (by simp) (by simp)).drew1 (Nat.le_refl _) hG1)
                have HG1 := Lib.hid hG1
                have HO1 : Hid (Own 3 w1 wq.heap.size L1 cl cL1 ((o.take cl).map (Value.int .i64))) := by simpa [Hid] using hO1
                have lw1 := HB1.out.size
                clear hO1 hG1 hA1
                have hS : w1.cell? ⟨b, off + cl, none⟩ = some (.int .i64 x) := keepBox HB1.out bq
                refine hK _ _ (fun _ => hS) ?_
                clear hK
                (try simp only [Act.put, List.setIfInBounds_toArray, List.set_cons_zero, List.set_cons_succ])
                (try simp only [Nat.zero_add])
                refine oneT (i := 10) (by kernel_rfl) rfl (by rfl) (fun K hK => ?_)
                refine wp_append_sl _ (.tmp 34) (.tmp 39) 25 rfl wq.heap.size 3 i0 _ 8 Try.underlying25 hi0 hz0 hz1 hz2 rfl L1 cl cL1 ((o.take cl).map (Value.int .i64)) rfl HO1.out (some ⟨wq.heap.size, 0, none⟩) 1 1 [.int .i64 x] rfl (Sl.kept1 (Sl.drew1 (Sl.keep (sl_one wq 3 (.int .i64 x) rfl) (below_new _ _))) HG1.out (.inr (by simp [blockOf]))) (by simp [Value.oneCell']) (by simp only [maxLen]; omega) (by omega) (by first | omega | (simp; omega)) ?_
                intro L2 cL2 w2 hO2 hG2 hA2
                have HB2 := Lib.hid (below_grown HB1.out HO1.out (Nat.le_refl _) hG2)
                have HO2 := Lib.hid hO2
                have lw2 := HB2.out.size
                clear hO2 hG2 hA2
                have hS : w2.cell? ⟨b, off + cl, none⟩ = some (.int .i64 x) := keepBox HB2.out bq
                refine hK _ _ (fun _ => hS) ?_
                clear hK
                (try simp only [Act.put, List.setIfInBounds_toArray, List.set_cons_zero, List.set_cons_succ])
                refine oneT (i := 14) (by kernel_rfl) rfl (by rfl) (fun K hK => ?_)
                refine wp_append_sl _ (.tmp 40) (.tmp 43) 25 rfl wq.heap.size 3 i0 _ 8 Try.underlying25 hi0 hz0 hz1 hz2 rfl L2 (cl + 1) cL2 _ rfl HO2.out (some ⟨g0, 0, none⟩) 0 0 ((o.drop cl).map (Value.int .i64)) rfl (HDR.out.keep HB2.out) (ints_one _) (by simp only [maxLen]; omega) (by omega) lw2 ?_
                intro L3 cL3 w3 hO3 hG3 hA3
                have HB3 := Lib.hid (below_grown HB2.out HO2.out (Nat.le_refl _) hG3)
                have HO3 := Lib.hid hO3
                clear hO3 hG3 hA3
                have hS : w3.cell? ⟨b, off + cl, none⟩ = some (.int .i64 x) := keepBox HB3.out bq
                refine hK _ _ (fun _ => hS) ?_
                clear hK
                (try simp only [Act.put, List.setIfInBounds_toArray, List.set_cons_zero, List.set_cons_succ])
                refine take0 (i := 15) (oi := _) (v := ?_) rfl (by kernel_rfl) (by kernel_rfl) (by kernel_rfl) (fun _ _ _ h => h) rfl (Or.inl ⟨by rfl, ?_⟩) (fun _ => hS) ?_
                rotate_left
                · intro w0; go_simp; with_reducible rfl
                (try simp only [Act.put, List.setIfInBounds_toArray, List.set_cons_zero, List.set_cons_succ])
                refine doneT (by kernel_rfl) ?_ _
                go_wp2_with fail
                go_roundw
                case rel =>
                  refine ⟨cl + 1, cL3, L3, by omega, ?_, by go_num, ?_, below_next blq.out HB3.out⟩
                  · exact congrArg (fun j => Value.slice L3 j cL3) (by omega)
                  · have := HO3.out
                    rw [hnext.out, hfin.out]
                    simp only [List.map_append, List.map_cons, List.map_nil]
                    exact (own_len (by omega) this).mono hwq2
                case measure => simp [intOf]; omega
            · have hcp2 : ((cl : Int) = (p : Int)) = False := by simp; omega
              obtain ⟨wq, hwq⟩ : ∃ wq : World, wq = wr.drewN nq := ⟨_, rfl⟩
              have hbq : Below wr.heap.size wr wq := by rw [hwq]; exact below_drewN _ _
              have bq := keepBox hbq bc
              have blq := Lib.hid (below_next blW.out hbq)
              have hwq2 := blq.out.size
              have ownQ := Lib.hid (ownW.out.keep hbq)
              have HTK : Hid (Sl wq (some ⟨g0, 0, none⟩) p cl ((o.take p).map (Value.int .i64))) := by rw [List.map_take]; exact ownQ.out.sl.take (Nat.le_refl _)
              have HDR : Hid (Sl wq (some ⟨g0, p, none⟩) 0 (cl - p) ((o.drop p).map (Value.int .i64))) := by rw [List.drop_of_length_le (by rw [hol.out]; omega)]; exact Sl.nilAny (by have := ownQ.out.sl.cap; omega)
              rw [← hwq]
              clear hwq hbW bc ownW blW hcell
              have hS : wq.drew.cell? ⟨b, off + p, none⟩ = some (.int .i64 x) := keepBox (below_drewN wq 1) bq
              refine wp_region_tail (fun w' => w'.cell? ⟨b, off + p, none⟩ = some (.int .i64 x)) [] (by kernel_rfl) ?_
              refine take0 (i := 1) (oi := _) (v := ?_) rfl (by kernel_rfl) (by kernel_rfl) (by kernel_rfl) (fun _ _ _ h => h) rfl (Or.inl ⟨by rfl, ?_⟩) (fun _ => hS) ?_
              rotate_left
              · intro w0; go_simp; with_reducible rfl
              (try simp only [Act.put, List.setIfInBounds_toArray, List.set_cons_zero, List.set_cons_succ])
              refine take0 (i := 2) (oi := _) (v := ?_) rfl (by kernel_rfl) (by kernel_rfl) (by kernel_rfl) (fun _ _ _ h => h) rfl (Or.inl ⟨by rfl, ?_⟩) (fun _ => hS) ?_
              rotate_left
              · intro w0; go_simp; with_reducible rfl
              (try simp only [Act.put, List.setIfInBounds_toArray, List.set_cons_zero, List.set_cons_succ])
              refine take0 (i := 3) (oi := _) (v := ?_) rfl (by kernel_rfl) (by kernel_rfl) (by kernel_rfl) (fun _ _ _ h => h) rfl (Or.inl ⟨by rfl, ?_⟩) (fun _ => hS) ?_
              rotate_left
              · intro w0; go_simp; with_reducible rfl
              (try simp only [Act.put, List.setIfInBounds_toArray, List.set_cons_zero, List.set_cons_succ])
              refine take0 (i := 5) (oi := _) (v := ?_) rfl (by kernel_rfl) (by kernel_rfl) (by kernel_rfl) (fun _ _ _ h => h) rfl (Or.inl ⟨by rfl, ?_⟩) (fun _ => hS) ?_
              rotate_left
              · intro w0; go_simp; with_reducible rfl
              (try simp only [Act.put, List.setIfInBounds_toArray, List.set_cons_zero, List.set_cons_succ])
              refine take0 (i := 6) (oi := _) (v := ?_) rfl (by kernel_rfl) (by kernel_rfl) (by kernel_rfl) (fun _ _ _ h => h) rfl (Or.inl ⟨by rfl, ?_⟩) (fun _ => hS) ?_
              rotate_left
              · intro w0; go_simp; with_reducible rfl
              (try simp only [Act.put, List.setIfInBounds_toArray, List.set_cons_zero, List.set_cons_succ])
              refine take0 (i := 7) (oi := _) (v := ?_) rfl (by kernel_rfl) (by kernel_rfl) (by kernel_rfl) (fun _ _ _ h => h) rfl (Or.inl ⟨by rfl, ?_⟩) (fun _ => hS) ?_
              rotate_left
              · intro w0; go_simp; with_reducible rfl
              (try simp only [Act.put, List.setIfInBounds_toArray, List.set_cons_zero, List.set_cons_succ])
              refine takeS (i := 8) (oi := _) (v := ?_) rfl (by kernel_rfl) (by kernel_rfl) (by kernel_rfl) (fun _ _ _ h => h) rfl (by kernel_rfl) (by kernel_rfl) (Or.inl ⟨by rfl, ?_⟩) hS ?_
              rotate_left
              · intro w0 hSw; (try dsimp only at hSw); go_simp; with_reducible rfl
              (try simp only [Act.put, List.setIfInBounds_toArray, List.set_cons_zero, List.set_cons_succ])
              refine take0 (i := 11) (oi := _) (v := ?_) rfl (by kernel_rfl) (by kernel_rfl) (by kernel_rfl) (fun _ _ _ h => h) rfl (Or.inl ⟨by rfl, ?_⟩) (fun _ => hS) ?_
              rotate_left
              · intro w0; go_simp; with_reducible rfl
              (try simp only [Act.put, List.setIfInBounds_toArray, List.set_cons_zero, List.set_cons_succ])
              refine take0 (i := 12) (oi := _) (v := ?_) rfl (by kernel_rfl) (by kernel_rfl) (by kernel_rfl) (fun _ _ _ h => h) rfl (Or.inl ⟨by rfl, ?_⟩) (fun _ => hS) ?_
              rotate_left
              · intro w0; go_simp; with_reducible rfl
              (try simp only [Act.put, List.setIfInBounds_toArray, List.set_cons_zero, List.set_cons_succ])
              refine take0 (i := 13) (oi := _) (v := ?_) rfl (by kernel_rfl) (by kernel_rfl) (by kernel_rfl) (fun _ _ _ h => h) rfl (Or.inl ⟨by rfl, ?_⟩) (fun _ => hS) ?_
              rotate_left
              · intro w0; go_simp; with_reducible rfl
              (try simp only [Act.put, List.setIfInBounds_toArray, List.set_cons_zero, List.set_cons_succ])
              refine twoT (i := 0) (j := 9) (by kernel_rfl) rfl (by rfl) rfl (by rfl) (fun K hK => ?_) (fun K hK => ?_)
              · go_simp
                have hS : ((wq.alloc (.cells #[] 3)).drew).cell? ⟨b, off + p, none⟩ = some (.int .i64 x) := keepBox (below_drew1 (below_new wq _)) bq
                refine hK _ _ (fun _ => hS) ?_
                clear hK
                (try simp only [Act.put, List.setIfInBounds_toArray, List.set_cons_zero, List.set_cons_succ])
                refine twoT (i := 4) (j := 9) (by kernel_rfl) rfl (by rfl) rfl (by rfl) (fun K hK => ?_) (fun K hK => ?_)
                · refine wp_append_sl _ (.tmp 30) (.tmp 33) 25 rfl wq.heap.size 3 i0 _ 8 Try.underlying25 hi0 hz0 hz1 hz2 rfl (some ⟨wq.heap.size, 0, none⟩) 0 0 [] rfl (own_empty 3 wq wq.heap.size rfl (Nat.le_refl _)).drew1 (some ⟨g0, 0, none⟩) p cl ((o.take p).map (Value.int .i64)) rfl (HTK.out.keep (below_drew1 (below_new wq _))) (ints_one _) (by simp only [maxLen]; omega) (by omega) (by first | omega | (simp; done) | (simp; omega)) ?_
                  intro L1 cL1 w1 hO1 hG1 hA1
                  have HB1 := Lib.hid (below_grown (below_drew1 (below_new wq _)) (own_empty 3 wq wq.heap.size rfl (Nat.le_refl _)).drew1 (Nat.le_refl _) hG1)
                  have HG1 := Lib.hid hG1
                  have HO1 : Hid (Own 3 w1 wq.heap.size L1 p cL1 ((o.take p).map (Value.int .i64))) := by simpa [Hid] using hO1
                  have lw1 := HB1.out.size
                  clear hO1 hG1 hA1
                  have hS : w1.cell? ⟨b, off + p, none⟩ = some (.int .i64 x) := keepBox HB1.out bq
                  refine hK _ _ (fun _ => hS) ?_
                  clear hK
                  (try simp only [Act.put, List.setIfInBounds_toArray, List.set_cons_zero, List.set_cons_succ])
                  refine oneT (i := 9) (by kernel_rfl) rfl (by rfl) (fun K hK => ?_)
                  go_simp
                  have hS : (w1.alloc (.cells #[.int .i64 x] 3)).cell? ⟨b, off + p, none⟩ = some (.int .i64 x) := keepBox (below_new w1 _) hS
                  refine hK _ _ (fun _ => hS) ?_
                  clear hK
                  (try simp only [Act.put, List.setIfInBounds_toArray, List.set_cons_zero, List.set_cons_succ])
                  refine oneT (i := 10) (by kernel_rfl) rfl (by rfl) (fun K hK => ?_)
                  refine wp_append_sl _ (.tmp 34) (.tmp 39) 25 rfl wq.heap.size 3 i0 _ 8 Try.underlying25 hi0 hz0 hz1 hz2 rfl L1 p cL1 ((o.take p).map (Value.int .i64)) rfl (HO1.out.keep (below_new w1 _)) (some ⟨w1.heap.size, 0, none⟩) 1 1 [.int .i64 x] rfl (sl_one w1 3 (.int .i64 x) rfl) (by simp [Value.oneCell']) (by simp only [maxLen]; omega) (by omega) (by first | omega | (simp; omega)) ?_
                  intro L2 cL2 w2 hO2 hG2 hA2
                  have HB2 := Lib.hid (below_grown (below_alloc HB1.out _) (HO1.out.keep (below_new w1 _)) (Nat.le_refl _) hG2)
                  have HO2 := Lib.hid hO2
                  have lw2 := HB2.out.size
                  clear hO2 hG2 hA2
                  have hS : w2.cell? ⟨b, off + p, none⟩ = some (.int .i64 x) := keepBox HB2.out bq
                  refine hK _ _ (fun _ => hS) ?_
                  clear hK
                  (try simp only [Act.put, List.setIfInBounds_toArray, List.set_cons_zero, List.set_cons_succ])
                  refine oneT (i := 14) (by kernel_rfl) rfl (by rfl) (fun K hK => ?_)
                  refine wp_append_sl _ (.tmp 40) (.tmp 43) 25 rfl wq.heap.size 3 i0 _ 8 Try.underlying25 hi0 hz0 hz1 hz2 rfl L2 (p + 1) cL2 _ rfl HO2.out (some ⟨g0, p, none⟩) 0 (cl - p) ((o.drop p).map (Value.int .i64)) rfl (HDR.out.keep HB2.out) (ints_one _) (by simp only [maxLen]; omega) (by omega) lw2 ?_
                  intro L3 cL3 w3 hO3 hG3 hA3
                  have HB3 := Lib.hid (below_grown HB2.out HO2.out (Nat.le_refl _) hG3)
                  have HO3 := Lib.hid hO3
                  clear hO3 hG3 hA3
                  have hS : w3.cell? ⟨b, off + p, none⟩ = some (.int .i64 x) := keepBox HB3.out bq
                  refine hK _ _ (fun _ => hS) ?_
                  clear hK
                  (try simp only [Act.put, List.setIfInBounds_toArray, List.set_cons_zero, List.set_cons_succ])
                  refine take0 (i := 15) (oi := _) (v := ?_) rfl (by kernel_rfl) (by kernel_rfl) (by kernel_rfl) (fun _ _ _ h => h) rfl (Or.inl ⟨by rfl, ?_⟩) (fun _ => hS) ?_
                  rotate_left
                  · intro w0; go_simp; with_reducible rfl
                  (try simp only [Act.put, List.setIfInBounds_toArray, List.set_cons_zero, List.set_cons_succ])
                  refine doneT (by kernel_rfl) ?_ _
                  go_wp2_with fail
                  go_roundw
                  case rel =>
                    refine ⟨p + 1, cL3, L3, by omega, ?_, by go_num, ?_, below_next blq.out HB3.out⟩
                    · exact congrArg (fun j => Value.slice L3 j cL3) (by omega)
                    · have := HO3.out
                      rw [hnext.out, hfin.out]
                      simp only [List.map_append, List.map_cons, List.map_nil]
                      exact (own_len (by omega) this).mono hwq2
                  case measure => simp [intOf]; omega
                · go_simp
                  have hS : (((wq.alloc (.cells #[] 3)).alloc (.cells #[.int .i64 x] 3)).drew).cell? ⟨b, off + p, none⟩ = some (.int .i64 x) := keepBox (below_drew1 (below_alloc (below_new wq _) _)) bq
                  refine hK _ _ (fun _ => hS) ?_
                  clear hK
                  (try simp only [Act.put, List.setIfInBounds_toArray, List.set_cons_zero, List.set_cons_succ])
                  refine oneT (i := 4) (by kernel_rfl) rfl (by rfl) (fun K hK => ?_)
                  refine wp_append_sl _ (.tmp 30) (.tmp 33) 25 rfl wq.heap.size 3 i0 _ 8 Try.underlying25 hi0 hz0 hz1 hz2 rfl (some ⟨wq.heap.size, 0, none⟩) 0 0 [] rfl ((own_empty 3 wq wq.heap.size rfl (Nat.le_refl _)).keep (below_new _ (.cells #[.int .i64 x] 3))).drew1 (some ⟨g0, 0, none⟩) p cl ((o.take p).map (Value.int .i64)) rfl (HTK.out.keep (below_drew1 (below_alloc (below_new wq _) _))) (ints_one _) (by simp only [maxLen]; omega) (by omega) (by first | omega | (simp; done) | (simp; omega)) ?_
                  intro L1 cL1 w1 hO1 hG1 hA1
                  have HB1 := Lib.hid (below_grown (below_drew1 (below_alloc (below_new wq _) _)) ((own_empty 3 wq wq.heap.size rfl (Nat.le_refl _)).keep (below_new _ (.cells #[.int .i64 x] 3))).drew1 (Nat.le_refl _) hG1)
                  have HG1 := Lib.hid hG1
                  have HO1 : Hid (Own 3 w1 wq.heap.size L1 p cL1 ((o.take p).map (Value.int .i64))) := by simpa [Hid] using hO1
                  have lw1 := HB1.out.size
                  clear hO1 hG1 hA1
                  have hS : w1.cell? ⟨b, off + p, none⟩ = some (.int .i64 x) := keepBox HB1.out bq
                  refine hK _ _ (fun _ => hS) ?_
                  clear hK
                  (try simp only [Act.put, List.setIfInBounds_toArray, List.set_cons_zero, List.set_cons_succ])
                  (try simp only [Nat.zero_add])
                  refine oneT (i := 10) (by kernel_rfl) rfl (by rfl) (fun K hK => ?_)
                  refine wp_append_sl _ (.tmp 34) (.tmp 39) 25 rfl wq.heap.size 3 i0 _ 8 Try.underlying25 hi0 hz0 hz1 hz2 rfl L1 p cL1 ((o.take p).map (Value.int .i64)) rfl HO1.out (some ⟨wq.heap.size + 1, 0, none⟩) 1 1 [.int .i64 x] rfl (Sl.kept1 (Sl.drew1 (sl_one (wq.alloc (.cells #[] 3)) 3 (.int .i64 x) (by simp))) HG1.out (.inr (by simp [blockOf]))) (by simp [Value.oneCell']) (by simp only [maxLen]; omega) (by omega) (by first | omega | (simp; omega)) ?_
                  intro L2 cL2 w2 hO2 hG2 hA2
                  have HB2 := Lib.hid (below_grown HB1.out HO1.out (Nat.le_refl _) hG2)
                  have HO2 := Lib.hid hO2
                  have lw2 := HB2.out.size
                  clear hO2 hG2 hA2
                  have hS : w2.cell? ⟨b, off + p, none⟩ = some (.int .i64 x) := keepBox HB2.out bq
                  refine hK _ _ (fun _ => hS) ?_
                  clear hK
                  (try simp only [Act.put, List.setIfInBounds_toArray, List.set_cons_zero, List.set_cons_succ])
                  refine oneT (i := 14) (by kernel_rfl) rfl (by rfl) (fun K hK => ?_)
                  refine wp_append_sl _ (.tmp 40) (.tmp 43) 25 rfl wq.heap.size 3 i0 _ 8 Try.underlying25 hi0 hz0 hz1 hz2 rfl L2 (p + 1) cL2 _ rfl HO2.out (some ⟨g0, p, none⟩) 0 (cl - p) ((o.drop p).map (Value.int .i64)) rfl (HDR.out.keep HB2.out) (ints_one _) (by simp only [maxLen]; omega) (by omega) lw2 ?_
                  intro L3 cL3 w3 hO3 hG3 hA3
                  have HB3 := Lib.hid (below_grown HB2.out HO2.out (Nat.le_refl _) hG3)
                  have HO3 := Lib.hid hO3
                  clear hO3 hG3 hA3
                  have hS : w3.cell? ⟨b, off + p, none⟩ = some (.int .i64 x) := keepBox HB3.out bq
                  refine hK _ _ (fun _ => hS) ?_
                  clear hK
                  (try simp only [Act.put, List.setIfInBounds_toArray, List.set_cons_zero, List.set_cons_succ])
                  refine take0 (i := 15) (oi := _) (v := ?_) rfl (by kernel_rfl) (by kernel_rfl) (by kernel_rfl) (fun _ _ _ h => h) rfl (Or.inl ⟨by rfl, ?_⟩) (fun _ => hS) ?_
                  rotate_left
                  · intro w0; go_simp; with_reducible rfl
                  (try simp only [Act.put, List.setIfInBounds_toArray, List.set_cons_zero, List.set_cons_succ])
                  refine doneT (by kernel_rfl) ?_ _
                  go_wp2_with fail
                  go_roundw
                  case rel =>
                    refine ⟨p + 1, cL3, L3, by omega, ?_, by go_num, ?_, below_next blq.out HB3.out⟩
                    · exact congrArg (fun j => Value.slice L3 j cL3) (by omega)
                    · have := HO3.out
                      rw [hnext.out, hfin.out]
                      simp only [List.map_append, List.map_cons, List.map_nil]
                      exact (own_len (by omega) this).mono hwq2
                  case measure => simp [intOf]; omega
              · go_simp
                have hS : ((wq.alloc (.cells #[.int .i64 x] 3)).drew).cell? ⟨b, off + p, none⟩ = some (.int .i64 x) := keepBox (below_drew1 (below_new wq _)) bq
                refine hK _ _ (fun _ => hS) ?_
                clear hK
                (try simp only [Act.put, List.setIfInBounds_toArray, List.set_cons_zero, List.set_cons_succ])
                refine oneT (i := 0) (by kernel_rfl) rfl (by rfl) (fun K hK => ?_)
                go_simp
                have hS : (((wq.alloc (.cells #[.int .i64 x] 3)).alloc (.cells #[] 3)).drew).cell? ⟨b, off + p, none⟩ = some (.int .i64 x) := keepBox (below_drew1 (below_alloc (below_new wq _) _)) bq
                refine hK _ _ (fun _ => hS) ?_
                clear hK
                (try simp only [Act.put, List.setIfInBounds_toArray, List.set_cons_zero, List.set_cons_succ])
                refine oneT (i := 4) (by kernel_rfl) rfl (by rfl) (fun K hK => ?_)
                refine wp_append_sl _ (.tmp 30) (.tmp 33) 25 rfl wq.heap.size 3 i0 _ 8 Try.underlying25 hi0 hz0 hz1 hz2 rfl (some ⟨wq.heap.size + 1, 0, none⟩) 0 0 [] rfl (own_empty 3 (wq.alloc (.cells #[.int .i64 x] 3)) wq.heap.size (by simp) (by simp)).drew1 (some ⟨g0, 0, none⟩) p cl ((o.take p).map (Value.int .i64)) rfl (HTK.out.keep (below_drew1 (below_alloc (below_new wq _) _))) (ints_one _) (by simp only [maxLen]; omega) (by omega) (by first | omega | (simp; done) | (simp; omega)) ?_
                intro L1 cL1 w1 hO1 hG1 hA1
                have HB1 := Lib.hid (below_grown (below_drew1 (below_alloc (below_new wq _) _)) (own_empty 3 (wq.alloc (.cells #[.int .i64 x] 3)) wq.heap.size (by simp) (by simp)).drew1 (Nat.le_refl _) hG1)
                have HG1 := Lib.hid hG1
                have HO1 : Hid (Own 3 w1 wq.heap.size L1 p cL1 ((o.take p).map (Value.int .i64))) := by simpa [Hid] using hO1
                have lw1 := HB1.out.size
                clear hO1 hG1 hA1
                have hS : w1.cell? ⟨b, off + p, none⟩ = some (.int .i64 x) := keepBox HB1.out bq
                refine hK _ _ (fun _ => hS) ?_
                clear hK
                (try simp only [Act.put, List.setIfInBounds_toArray, List.set_cons_zero, List.set_cons_succ])
                (try simp only [Nat.zero_add])
                refine oneT (i := 10) (by kernel_rfl) rfl (by rfl) (fun K hK => ?_)
                refine wp_append_sl _ (.tmp 34) (.tmp 39) 25 rfl wq.heap.size 3 i0 _ 8 Try.underlying25 hi0 hz0 hz1 hz2 rfl L1 p cL1 ((o.take p).map (Value.int .i64)) rfl HO1.out (some ⟨wq.heap.size, 0, none⟩) 1 1 [.int .i64 x] rfl (Sl.kept1 (Sl.drew1 (Sl.keep (sl_one wq 3 (.int .i64 x) rfl) (below_new _ _))) HG1.out (.inr (by simp [blockOf]))) (by simp [Value.oneCell']) (by simp only [maxLen]; omega) (by omega) (by first | omega | (simp; omega)) ?_
                intro L2 cL2 w2 hO2 hG2 hA2
                have HB2 := Lib.hid (below_grown HB1.out HO1.out (Nat.le_refl _) hG2)
                have HO2 := Lib.hid hO2
                have lw2 := HB2.out.size
                clear hO2 hG2 hA2
                have hS : w2.cell? ⟨b, off + p, none⟩ = some (.int .i64 x) := keepBox HB2.out bq
                refine hK _ _ (fun _ => hS) ?_
                clear hK
                (try simp only [Act.put, List.setIfInBounds_toArray, List.set_cons_zero, List.set_cons_succ])
                refine oneT (i := 14) (by kernel_rfl) rfl (by rfl) (fun K hK => ?_)
                refine wp_append_sl _ (.tmp 40) (.tmp 43) 25 rfl wq.heap.size 3 i0 _ 8 Try.underlying25 hi0 hz0 hz1 hz2 rfl L2 (p + 1) cL2 _ rfl HO2.out (some ⟨g0, p, none⟩) 0 (cl - p) ((o.drop p).map (Value.int .i64)) rfl (HDR.out.keep HB2.out) (ints_one _) (by simp only [maxLen]; omega) (by omega) lw2 ?_
                intro L3 cL3 w3 hO3 hG3 hA3
                have HB3 := Lib.hid (below_grown HB2.out HO2.out (Nat.le_refl _) hG3)
                have HO3 := Lib.hid hO3
                clear hO3 hG3 hA3
                have hS : w3.cell? ⟨b, off + p, none⟩ = some (.int .i64 x) := keepBox HB3.out bq
                refine hK _ _ (fun _ => hS) ?_
                clear hK
                (try simp only [Act.put, List.setIfInBounds_toArray, List.set_cons_zero, List.set_cons_succ])
                refine take0 (i := 15) (oi := _) (v := ?_) rfl (by kernel_rfl) (by kernel_rfl) (by kernel_rfl) (fun _ _ _ h => h) rfl (Or.inl ⟨by rfl, ?_⟩) (fun _ => hS) ?_
                rotate_left
                · intro w0; go_simp; with_reducible rfl
                (try simp only [Act.put, List.setIfInBounds_toArray, List.set_cons_zero, List.set_cons_succ])
                refine doneT (by kernel_rfl) ?_ _
                go_wp2_with fail
                go_roundw
                case rel =>
                  refine ⟨p + 1, cL3, L3, by omega, ?_, by go_num, ?_, below_next blq.out HB3.out⟩
                  · exact congrArg (fun j => Value.slice L3 j cL3) (by omega)
                  · have := HO3.out
                    rw [hnext.out, hfin.out]
                    simp only [List.map_append, List.map_cons, List.map_nil]
                    exact (own_len (by omega) this).mono hwq2
                case measure => simp [intOf]; omega
    · have hres : Hid (Own 3 wo w.heap.size Lf k cl ((sortF xs).map (Value.int .i64))) := by have := hown.out; rw [List.take_of_length_le (by rw [hlen.out]; omega)] at this; exact this
      clear hown
      go_wp2_with fail
      go_ret
      exact ⟨Lf, k, cl, rfl, hres.out, hbl.out⟩
end Go.Proofs.Ytabjbpkojbdgaaa
