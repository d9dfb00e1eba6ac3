/- Contract of order.Keep. (Printed by wip/tools/keep.py.) -/
import Derived.Test.YtplbiepfdfoglaaKeepPlain
import Derived.Test.YtplbiepfdfoglaaShelf
import Derived.Test.YtplbiepfdfoglaaShelf2
import Derived.Test.YtplbiepfdfoglaaRowSort
import Derived.Test.YtplbiepfdfoglaaOrder
import Derived.Test.YtplbiepfdfoglaaClone
import Derived.Test.YtplbiepfdfoglaaTail
namespace Go.Proofs.Ytplbiepfdfoglaa
open Go.RowKit Go.Sort
set_option linter.unusedSimpArgs false

/-- A number below k + 1. -/
structure Ix (k : Nat) where
  val : Nat
  h : val < k + 1
instance (k : Nat) : Inhabited (Ix k) := ⟨⟨0, by omega⟩⟩
def Ix.enc {k : Nat} (x : Ix k) : Value := .int .i64 (x.val : Int)
/-- How the program compares two places. -/
def keepCmp (gs ss : List Int) (a b : Nat) : Int := orF [cmpI (gs.getD a 0) (gs.getD b 0), cmpI (ss.getD a 0) (ss.getD b 0), cmpI (b : Int) (a : Int)]
theorem keepCmp_lt {gs ss : List Int} {a b : Nat} : keepCmp gs ss a b < 0 ↔ betB gs ss a b = true := by
  rw [betB_iff]
  unfold keepCmp cmpI
  generalize gs.getD a 0 = x
  generalize gs.getD b 0 = y
  generalize ss.getD a 0 = p
  generalize ss.getD b 0 = q
  simp only [orF]
  by_cases h1 : x < y
  · simp [h1]
  · by_cases h2 : y < x
    · simp [h1, h2]; omega
    · have h3 : x = y := by omega
      subst h3
      by_cases h4 : p < q
      · simp [h4]
      · by_cases h5 : q < p
        · simp [h4, h5]; omega
        · have h6 : p = q := by omega
          subst h6
          by_cases h7 : b < a
          · have : (b : Int) < (a : Int) := by omega
            simp [this, h7]
          · by_cases h8 : a < b
            · have h9 : ¬ (b : Int) < (a : Int) := by omega
              have h10 : (a : Int) < (b : Int) := by omega
              simp [h9, h10]; omega
            · have h9 : ¬ (b : Int) < (a : Int) := by omega
              have h10 : ¬ (a : Int) < (b : Int) := by omega
              simp [h9, h10]; omega
theorem ix_lt {gs ss : List Int} {k : Nat} (x y : Ix k) : ltOf (fun x y : Ix k => keepCmp gs ss x.val y.val) x y = betB gs ss x.val y.val := by
  unfold ltOf
  cases h : betB gs ss x.val y.val
  · rw [decide_eq_false_iff_not, keepCmp_lt, h]; simp
  · rw [decide_eq_true_iff, keepCmp_lt, h]
theorem ix_swo (gs ss : List Int) (k : Nat) : SWO (ltOf (fun x y : Ix k => keepCmp gs ss x.val y.val)) where
  irrefl x := by rw [ix_lt, betB_false]; omega
  trans x y z h1 h2 := by rw [ix_lt, betB_iff] at *; omega
  ntrans x y z h1 h2 := by rw [ix_lt, betB_false] at *; omega

theorem getD_at {xs : List Int} {i : Nat} {x : Int} (h : xs[i]? = some x) : xs.getD i 0 = x := by rw [List.getD_eq_getElem?_getD, h]; rfl
theorem keepCmp_i64 (gs ss : List Int) (a b : Nat) : I64 (keepCmp gs ss a b) := by
  unfold keepCmp
  have h := fun x y : Int => cmpI_i64 x y
  generalize hx : cmpI (gs.getD a 0) (gs.getD b 0) = x
  generalize hy : cmpI (ss.getD a 0) (ss.getD b 0) = y
  generalize hz : cmpI (b : Int) (a : Int) = z
  have h1 := h (gs.getD a 0) (gs.getD b 0)
  have h2 := h (ss.getD a 0) (ss.getD b 0)
  have h3 := h (b : Int) (a : Int)
  rw [hx] at h1
  rw [hy] at h2
  rw [hz] at h3
  simp only [orF]
  split
  · exact h1
  · split
    · exact h2
    · split
      · exact h3
      · unfold I64; omega

set_option maxHeartbeats 4000000 in
set_option maxRecDepth 100000 in
theorem keep1_any (A B : Option Addr) (n c d : Nat) (gs ss : List Int) (i k b1 b2 : Nat) (w : World) (h : Ints w A n c gs) (h' : Ints w B n d ss) (hc1 : w.cell? ⟨b1, 0, none⟩ = some (.slice A n c)) (hc2 : w.cell? ⟨b2, 0, none⟩ = some (.slice B n d)) (hi : i < n) (hk : k < n) :
    Calls Try.prog 74 #[.int .i64 (i : Int), .int .i64 (k : Int), .pointer (some ⟨b1, 0, none⟩), .pointer (some ⟨b2, 0, none⟩)] w (RetG (.int .i64 (keepCmp gs ss i k)) w) := by
  have hbd := h.bd
  have hbd' := h'.bd
  obtain ⟨bA, oA, gi, hAe, hbA, hgi, gi1, gi2, hgik⟩ := h.round hi
  subst hAe
  obtain ⟨_, _, gk, hAe, _, hgk, gk1, gk2, hgkk⟩ := h.round hk
  cases hAe
  obtain ⟨bB, oB, si, hBe, hbB, hsi, si1, si2, hsik⟩ := h'.round hi
  subst hBe
  obtain ⟨_, _, sk, hBe, _, hsk, sk1, sk2, hskk⟩ := h'.round hk
  cases hBe
  obtain ⟨p, hp⟩ : ∃ p, Hid (cmpI gi gk = p) := ⟨_, rfl⟩
  obtain ⟨q, hq⟩ : ∃ q, Hid (cmpI si sk = q) := ⟨_, rfl⟩
  obtain ⟨s, hs⟩ : ∃ s, Hid (cmpI (k : Int) (i : Int) = s) := ⟨_, rfl⟩
  have hr : Hid (orF [p, q, s] = keepCmp gs ss i k) := by show _ = _; rw [keepCmp, getD_at hgik.out, getD_at hgkk.out, getD_at hsik.out, getD_at hskk.out, hp.out, hq.out, hs.out]
  have hr64 := keepCmp_i64 gs ss i k
  generalize keepCmp gs ss i k = r at hr hr64 ⊢
  have p64 : I64 p := by rw [← hp.out]; exact cmpI_i64 _ _
  have q64 : I64 q := by rw [← hq.out]; exact cmpI_i64 _ _
  have s64 : I64 s := by rw [← hs.out]; exact cmpI_i64 _ _
  have x1 : (0 : Int) ≤ (i : Int) := by omega
  have x2 : (i : Int) < (n : Int) := by omega
  have x3 : (0 : Int) ≤ (k : Int) := by omega
  have x4 : (k : Int) < (n : Int) := by omega
  clear h h'
  go_enter Try.func74, Try.ntmps74
  go_wp2_with fail
  have hS : w.drew.cell? ⟨b1, 0, none⟩ = some (.slice (some ⟨bA, oA, none⟩) n c) ∧ w.drew.cell? ⟨b2, 0, none⟩ = some (.slice (some ⟨bB, oB, none⟩) n d) ∧ w.drew.cell? ⟨bA, oA + i, none⟩ = some (.int .i64 gi) ∧ w.drew.cell? ⟨bA, oA + k, none⟩ = some (.int .i64 gk) ∧ w.drew.cell? ⟨bB, oB + i, none⟩ = some (.int .i64 si) ∧ w.drew.cell? ⟨bB, oB + k, none⟩ = some (.int .i64 sk) := ⟨keepBox (below_drewN w 1) hc1, keepBox (below_drewN w 1) hc2, keepBox (below_drewN w 1) hgi, keepBox (below_drewN w 1) hgk, keepBox (below_drewN w 1) hsi, keepBox (below_drewN w 1) hsk⟩
  refine wp_region_tail (fun w' => w'.cell? ⟨b1, 0, none⟩ = some (.slice (some ⟨bA, oA, none⟩) n c) ∧ w'.cell? ⟨b2, 0, none⟩ = some (.slice (some ⟨bB, oB, none⟩) n d) ∧ w'.cell? ⟨bA, oA + i, none⟩ = some (.int .i64 gi) ∧ w'.cell? ⟨bA, oA + k, none⟩ = some (.int .i64 gk) ∧ w'.cell? ⟨bB, oB + i, none⟩ = some (.int .i64 si) ∧ w'.cell? ⟨bB, oB + k, none⟩ = some (.int .i64 sk)) [] (by kernel_rfl) ?_
  refine takeS (i := 0) (oi := _) (v := ?_) rfl (by kernel_rfl) (by kernel_rfl) (by kernel_rfl) (fun _ _ _ h => h) rfl (by kernel_rfl) (by kernel_rfl) (Or.inl ⟨by rfl, ?_⟩) hS ?_
  rotate_left
  · intro w0 hSw; (try dsimp only at hSw); go_simp; with_reducible rfl
  (try simp only [Act.put, List.setIfInBounds_toArray, List.set_cons_zero, List.set_cons_succ])
  refine take0 (i := 1) (oi := _) (v := ?_) rfl (by kernel_rfl) (by kernel_rfl) (by kernel_rfl) (fun _ _ _ h => h) rfl (Or.inl ⟨by rfl, ?_⟩) (fun _ => hS) ?_
  rotate_left
  · intro w0; go_simp; with_reducible rfl
  (try simp only [Act.put, List.setIfInBounds_toArray, List.set_cons_zero, List.set_cons_succ])
  refine take0 (i := 2) (oi := _) (v := ?_) rfl (by kernel_rfl) (by kernel_rfl) (by kernel_rfl) (fun _ _ _ h => h) rfl (Or.inl ⟨by rfl, ?_⟩) (fun _ => hS) ?_
  rotate_left
  · intro w0; go_simp; with_reducible rfl
  (try simp only [Act.put, List.setIfInBounds_toArray, List.set_cons_zero, List.set_cons_succ])
  refine takeS (i := 3) (oi := _) (v := ?_) rfl (by kernel_rfl) (by kernel_rfl) (by kernel_rfl) (fun _ _ _ h => h) rfl (by kernel_rfl) (by kernel_rfl) (Or.inl ⟨by rfl, ?_⟩) hS ?_
  rotate_left
  · intro w0 hSw; (try dsimp only at hSw); go_simp; with_reducible rfl
  (try simp only [Act.put, List.setIfInBounds_toArray, List.set_cons_zero, List.set_cons_succ])
  refine takeS (i := 4) (oi := _) (v := ?_) rfl (by kernel_rfl) (by kernel_rfl) (by kernel_rfl) (fun _ _ _ h => h) rfl (by kernel_rfl) (by kernel_rfl) (Or.inl ⟨by rfl, ?_⟩) hS ?_
  rotate_left
  · intro w0 hSw; (try dsimp only at hSw); go_simp; with_reducible rfl
  (try simp only [Act.put, List.setIfInBounds_toArray, List.set_cons_zero, List.set_cons_succ])
  refine take0 (i := 5) (oi := _) (v := ?_) rfl (by kernel_rfl) (by kernel_rfl) (by kernel_rfl) (fun _ _ _ h => h) rfl (Or.inl ⟨by rfl, ?_⟩) (fun _ => hS) ?_
  rotate_left
  · intro w0; go_simp; with_reducible rfl
  (try simp only [Act.put, List.setIfInBounds_toArray, List.set_cons_zero, List.set_cons_succ])
  refine take0 (i := 6) (oi := _) (v := ?_) rfl (by kernel_rfl) (by kernel_rfl) (by kernel_rfl) (fun _ _ _ h => h) rfl (Or.inl ⟨by rfl, ?_⟩) (fun _ => hS) ?_
  rotate_left
  · intro w0; go_simp; with_reducible rfl
  (try simp only [Act.put, List.setIfInBounds_toArray, List.set_cons_zero, List.set_cons_succ])
  refine takeS (i := 7) (oi := _) (v := ?_) rfl (by kernel_rfl) (by kernel_rfl) (by kernel_rfl) (fun _ _ _ h => h) rfl (by kernel_rfl) (by kernel_rfl) (Or.inl ⟨by rfl, ?_⟩) hS ?_
  rotate_left
  · intro w0 hSw; (try dsimp only at hSw); go_simp; with_reducible rfl
  (try simp only [Act.put, List.setIfInBounds_toArray, List.set_cons_zero, List.set_cons_succ])
  refine takeS (i := 9) (oi := _) (v := ?_) rfl (by kernel_rfl) (by kernel_rfl) (by kernel_rfl) (fun _ _ _ h => h) rfl (by kernel_rfl) (by kernel_rfl) (Or.inl ⟨by rfl, ?_⟩) hS ?_
  rotate_left
  · intro w0 hSw; (try dsimp only at hSw); go_simp; with_reducible rfl
  (try simp only [Act.put, List.setIfInBounds_toArray, List.set_cons_zero, List.set_cons_succ])
  refine take0 (i := 10) (oi := _) (v := ?_) rfl (by kernel_rfl) (by kernel_rfl) (by kernel_rfl) (fun _ _ _ h => h) rfl (Or.inl ⟨by rfl, ?_⟩) (fun _ => hS) ?_
  rotate_left
  · intro w0; go_simp; with_reducible rfl
  (try simp only [Act.put, List.setIfInBounds_toArray, List.set_cons_zero, List.set_cons_succ])
  refine take0 (i := 11) (oi := _) (v := ?_) rfl (by kernel_rfl) (by kernel_rfl) (by kernel_rfl) (fun _ _ _ h => h) rfl (Or.inl ⟨by rfl, ?_⟩) (fun _ => hS) ?_
  rotate_left
  · intro w0; go_simp; with_reducible rfl
  (try simp only [Act.put, List.setIfInBounds_toArray, List.set_cons_zero, List.set_cons_succ])
  refine takeS (i := 12) (oi := _) (v := ?_) rfl (by kernel_rfl) (by kernel_rfl) (by kernel_rfl) (fun _ _ _ h => h) rfl (by kernel_rfl) (by kernel_rfl) (Or.inl ⟨by rfl, ?_⟩) hS ?_
  rotate_left
  · intro w0 hSw; (try dsimp only at hSw); go_simp; with_reducible rfl
  (try simp only [Act.put, List.setIfInBounds_toArray, List.set_cons_zero, List.set_cons_succ])
  refine takeS (i := 13) (oi := _) (v := ?_) rfl (by kernel_rfl) (by kernel_rfl) (by kernel_rfl) (fun _ _ _ h => h) rfl (by kernel_rfl) (by kernel_rfl) (Or.inl ⟨by rfl, ?_⟩) hS ?_
  rotate_left
  · intro w0 hSw; (try dsimp only at hSw); go_simp; with_reducible rfl
  (try simp only [Act.put, List.setIfInBounds_toArray, List.set_cons_zero, List.set_cons_succ])
  refine take0 (i := 14) (oi := _) (v := ?_) rfl (by kernel_rfl) (by kernel_rfl) (by kernel_rfl) (fun _ _ _ h => h) rfl (Or.inl ⟨by rfl, ?_⟩) (fun _ => hS) ?_
  rotate_left
  · intro w0; go_simp; with_reducible rfl
  (try simp only [Act.put, List.setIfInBounds_toArray, List.set_cons_zero, List.set_cons_succ])
  refine take0 (i := 15) (oi := _) (v := ?_) rfl (by kernel_rfl) (by kernel_rfl) (by kernel_rfl) (fun _ _ _ h => h) rfl (Or.inl ⟨by rfl, ?_⟩) (fun _ => hS) ?_
  rotate_left
  · intro w0; go_simp; with_reducible rfl
  (try simp only [Act.put, List.setIfInBounds_toArray, List.set_cons_zero, List.set_cons_succ])
  refine takeS (i := 16) (oi := _) (v := ?_) rfl (by kernel_rfl) (by kernel_rfl) (by kernel_rfl) (fun _ _ _ h => h) rfl (by kernel_rfl) (by kernel_rfl) (Or.inl ⟨by rfl, ?_⟩) hS ?_
  rotate_left
  · intro w0 hSw; (try dsimp only at hSw); go_simp; with_reducible rfl
  (try simp only [Act.put, List.setIfInBounds_toArray, List.set_cons_zero, List.set_cons_succ])
  refine take0 (i := 18) (oi := _) (v := ?_) rfl (by kernel_rfl) (by kernel_rfl) (by kernel_rfl) (fun _ _ _ h => h) rfl (Or.inl ⟨by rfl, ?_⟩) (fun _ => hS) ?_
  rotate_left
  · intro w0; go_simp; with_reducible rfl
  (try simp only [Act.put, List.setIfInBounds_toArray, List.set_cons_zero, List.set_cons_succ])
  refine take0 (i := 19) (oi := _) (v := ?_) rfl (by kernel_rfl) (by kernel_rfl) (by kernel_rfl) (fun _ _ _ h => h) rfl (Or.inl ⟨by rfl, ?_⟩) (fun _ => hS) ?_
  rotate_left
  · intro w0; go_simp; with_reducible rfl
  (try simp only [Act.put, List.setIfInBounds_toArray, List.set_cons_zero, List.set_cons_succ])
  refine oneT (i := 8) (by kernel_rfl) rfl (by rfl) (fun K hK => ?_)
  go_simp
  refine (compare_any _ _ _).mono ?_
  rintro e w1 ⟨rfl, m1, hw1⟩
  rw [hp.out]
  have Bw1 : Below w.drew.heap.size w.drew w1 := by rw [hw1]; exact below_drewN _ _
  have hS : w1.cell? ⟨b1, 0, none⟩ = some (.slice (some ⟨bA, oA, none⟩) n c) ∧ w1.cell? ⟨b2, 0, none⟩ = some (.slice (some ⟨bB, oB, none⟩) n d) ∧ w1.cell? ⟨bA, oA + i, none⟩ = some (.int .i64 gi) ∧ w1.cell? ⟨bA, oA + k, none⟩ = some (.int .i64 gk) ∧ w1.cell? ⟨bB, oB + i, none⟩ = some (.int .i64 si) ∧ w1.cell? ⟨bB, oB + k, none⟩ = some (.int .i64 sk) := ⟨keepBox Bw1 hS.1, keepBox Bw1 hS.2.1, keepBox Bw1 hS.2.2.1, keepBox Bw1 hS.2.2.2.1, keepBox Bw1 hS.2.2.2.2.1, keepBox Bw1 hS.2.2.2.2.2⟩
  have Hw1 := Lib.hid hw1
  clear hw1 Bw1
  refine hK _ _ (fun _ => hS) ?_
  clear hK
  (try simp only [Act.put, List.setIfInBounds_toArray, List.set_cons_zero, List.set_cons_succ])
  refine oneT (i := 17) (by kernel_rfl) rfl (by rfl) (fun K hK => ?_)
  go_simp
  refine (compare_any _ _ _).mono ?_
  rintro e w2 ⟨rfl, m2, hw2⟩
  rw [hq.out]
  have Bw2 : Below w1.heap.size w1 w2 := by rw [hw2]; exact below_drewN _ _
  have hS : w2.cell? ⟨b1, 0, none⟩ = some (.slice (some ⟨bA, oA, none⟩) n c) ∧ w2.cell? ⟨b2, 0, none⟩ = some (.slice (some ⟨bB, oB, none⟩) n d) ∧ w2.cell? ⟨bA, oA + i, none⟩ = some (.int .i64 gi) ∧ w2.cell? ⟨bA, oA + k, none⟩ = some (.int .i64 gk) ∧ w2.cell? ⟨bB, oB + i, none⟩ = some (.int .i64 si) ∧ w2.cell? ⟨bB, oB + k, none⟩ = some (.int .i64 sk) := ⟨keepBox Bw2 hS.1, keepBox Bw2 hS.2.1, keepBox Bw2 hS.2.2.1, keepBox Bw2 hS.2.2.2.1, keepBox Bw2 hS.2.2.2.2.1, keepBox Bw2 hS.2.2.2.2.2⟩
  have Hw2 := Lib.hid hw2
  clear hw2 Bw2
  refine hK _ _ (fun _ => hS) ?_
  clear hK
  (try simp only [Act.put, List.setIfInBounds_toArray, List.set_cons_zero, List.set_cons_succ])
  refine oneT (i := 20) (by kernel_rfl) rfl (by rfl) (fun K hK => ?_)
  go_simp
  refine (compare_any _ _ _).mono ?_
  rintro e w3 ⟨rfl, m3, hw3⟩
  rw [hs.out]
  have Bw3 : Below w2.heap.size w2 w3 := by rw [hw3]; exact below_drewN _ _
  have hS : w3.cell? ⟨b1, 0, none⟩ = some (.slice (some ⟨bA, oA, none⟩) n c) ∧ w3.cell? ⟨b2, 0, none⟩ = some (.slice (some ⟨bB, oB, none⟩) n d) ∧ w3.cell? ⟨bA, oA + i, none⟩ = some (.int .i64 gi) ∧ w3.cell? ⟨bA, oA + k, none⟩ = some (.int .i64 gk) ∧ w3.cell? ⟨bB, oB + i, none⟩ = some (.int .i64 si) ∧ w3.cell? ⟨bB, oB + k, none⟩ = some (.int .i64 sk) := ⟨keepBox Bw3 hS.1, keepBox Bw3 hS.2.1, keepBox Bw3 hS.2.2.1, keepBox Bw3 hS.2.2.2.1, keepBox Bw3 hS.2.2.2.2.1, keepBox Bw3 hS.2.2.2.2.2⟩
  have Hw3 := Lib.hid hw3
  clear hw3 Bw3
  refine hK _ _ (fun _ => hS) ?_
  clear hK
  (try simp only [Act.put, List.setIfInBounds_toArray, List.set_cons_zero, List.set_cons_succ])
  refine oneT (i := 21) (by kernel_rfl) rfl (by rfl) (fun K hK => ?_)
  go_simp
  have hB4 := below_new w3 (.cells #[.int .i64 p, .int .i64 q, .int .i64 s] 3)
  have hS : (w3.alloc (.cells #[.int .i64 p, .int .i64 q, .int .i64 s] 3)).cell? ⟨b1, 0, none⟩ = some (.slice (some ⟨bA, oA, none⟩) n c) ∧ (w3.alloc (.cells #[.int .i64 p, .int .i64 q, .int .i64 s] 3)).cell? ⟨b2, 0, none⟩ = some (.slice (some ⟨bB, oB, none⟩) n d) ∧ (w3.alloc (.cells #[.int .i64 p, .int .i64 q, .int .i64 s] 3)).cell? ⟨bA, oA + i, none⟩ = some (.int .i64 gi) ∧ (w3.alloc (.cells #[.int .i64 p, .int .i64 q, .int .i64 s] 3)).cell? ⟨bA, oA + k, none⟩ = some (.int .i64 gk) ∧ (w3.alloc (.cells #[.int .i64 p, .int .i64 q, .int .i64 s] 3)).cell? ⟨bB, oB + i, none⟩ = some (.int .i64 si) ∧ (w3.alloc (.cells #[.int .i64 p, .int .i64 q, .int .i64 s] 3)).cell? ⟨bB, oB + k, none⟩ = some (.int .i64 sk) := ⟨keepBox hB4 hS.1, keepBox hB4 hS.2.1, keepBox hB4 hS.2.2.1, keepBox hB4 hS.2.2.2.1, keepBox hB4 hS.2.2.2.2.1, keepBox hB4 hS.2.2.2.2.2⟩
  refine hK _ _ (fun _ => hS) ?_
  clear hK
  (try simp only [Act.put, List.setIfInBounds_toArray, List.set_cons_zero, List.set_cons_succ])
  refine oneT (i := 22) (by kernel_rfl) rfl (by rfl) (fun K hK => ?_)
  go_simp
  refine (or_any _ _ _ [p, q, s] _ (ints_made _ 3 [p, q, s] (by simp) (by simp [p64, q64, s64]) (by simp [maxLen])) r hr).mono ?_
  rintro e w5 ⟨rfl, m5, hw5⟩
  have B5 : Below (w3.alloc (.cells #[.int .i64 p, .int .i64 q, .int .i64 s] 3)).heap.size (w3.alloc (.cells #[.int .i64 p, .int .i64 q, .int .i64 s] 3)) w5 := by rw [hw5]; exact below_drewN _ _
  have hS : w5.cell? ⟨b1, 0, none⟩ = some (.slice (some ⟨bA, oA, none⟩) n c) ∧ w5.cell? ⟨b2, 0, none⟩ = some (.slice (some ⟨bB, oB, none⟩) n d) ∧ w5.cell? ⟨bA, oA + i, none⟩ = some (.int .i64 gi) ∧ w5.cell? ⟨bA, oA + k, none⟩ = some (.int .i64 gk) ∧ w5.cell? ⟨bB, oB + i, none⟩ = some (.int .i64 si) ∧ w5.cell? ⟨bB, oB + k, none⟩ = some (.int .i64 sk) := ⟨keepBox B5 hS.1, keepBox B5 hS.2.1, keepBox B5 hS.2.2.1, keepBox B5 hS.2.2.2.1, keepBox B5 hS.2.2.2.2.1, keepBox B5 hS.2.2.2.2.2⟩
  have H5 := Lib.hid hw5
  clear hw5 B5
  refine hK _ _ (fun _ => hS) ?_
  clear hK
  (try simp only [Act.put, List.setIfInBounds_toArray, List.set_cons_zero, List.set_cons_succ])
  refine oneT (i := 23) (by kernel_rfl) rfl (by rfl) (fun K hK => ?_)
  go_simp
  refine hK _ _ (fun _ => hS) ?_
  clear hK
  (try simp only [Act.put, List.setIfInBounds_toArray, List.set_cons_zero, List.set_cons_succ])
  refine doneT (by kernel_rfl) ?_ _
  go_wp2_with fail
  go_ret
  refine ⟨rfl, ?_⟩
  rw [H5.out, Hw3.out, Hw2.out, Hw1.out, Sort.alloc_eq_grow]
  have e0 : w.drew = w.drewN 1 := rfl
  rw [e0]
  simp only [World.drewN_drewN, grow_drewN]
  exact ⟨_, _, rfl⟩
/-- The first clause that has a number below 0. -/
def negF : List Int → List Int → Nat → Int × Int
  | x :: t, y :: u, i => if x < 0 ∨ y < 0 then (3, i) else negF t u (i + 1)
  | _, _, _ => (0, 0)
/-- What order.Keep tells. -/
def keepS (gs ss : List Int) (many : Int) : List Int × Int × Int :=
  if 3000 < gs.length then ([], 2, 0) else if ss.length ≠ gs.length then ([], 9, -1) else if (negF gs ss 0).1 ≠ 0 then ([], negF gs ss 0) else if many < 0 then ([], 10, 0) else ((keptF gs ss many).map (fun i : Nat => (i : Int)), 0, 0)

def ixOf (k : Nat) : (l : List Nat) → (∀ x ∈ l, x < k + 1) → List (Ix k)
  | [], _ => []
  | x :: t, h => ⟨x, h x (by simp)⟩ :: ixOf k t (fun y hy => h y (by simp [hy]))
theorem ixOf_val (k : Nat) : ∀ (l : List Nat) (h : ∀ x ∈ l, x < k + 1), (ixOf k l h).map Ix.val = l
  | [], _ => rfl
  | x :: t, h => by rw [ixOf, List.map_cons, ixOf_val]
/-- Places as cells. -/
def plc (l : List Nat) : List Value := l.map (fun i : Nat => Value.int .i64 (i : Int))
theorem ixOf_enc (k : Nat) (l : List (Ix k)) : l.map Ix.enc = plc (l.map Ix.val) := by unfold plc; rw [List.map_map]; rfl
theorem enters_keep1 : ∀ args w, (callFunc 74 args).run Try.prog w = .ok (.enter 74 args) w := enters_of Try.func74 (by kernel_rfl) rfl
/-- The places are put in order. -/
theorem keep_sort (A B : Option Addr) (n c d cl : Nat) (gs ss : List Int) (base g b1 b2 : Nat) (w : World) (hn : n ≤ 1000000) (h0 : 0 < n) (h : Own 3 w base (some ⟨g, 0, none⟩) n cl (plc (List.range n)))
    (hK : ∀ W, w.grownBy W (some g) → Ints W A n c gs ∧ Ints W B n d ss ∧ W.cell? ⟨b1, 0, none⟩ = some (.slice A n c) ∧ W.cell? ⟨b2, 0, none⟩ = some (.slice B n d)) :
    Calls Try.prog 73 #[.slice (some ⟨g, 0, none⟩) n cl, .func (.func 74) #[] #[.pointer (some ⟨b1, 0, none⟩), .pointer (some ⟨b2, 0, none⟩)]] w fun e w' => e = .returned (.tuple #[]) ∧ ∃ L : List Nat, L.Perm (List.range n) ∧ L.Pairwise (fun a b => betB gs ss b a = false) ∧ Own 3 w' base (some ⟨g, 0, none⟩) n cl (plc L) ∧ w.grownBy w' (some g) := by
  obtain ⟨k, rfl⟩ : ∃ k, n = k + 1 := ⟨n - 1, by omega⟩
  have hlt' : ∀ x ∈ List.range (k + 1), x < k + 1 := fun x hx => List.mem_range.1 hx
  have hval := ixOf_val k (List.range (k + 1)) hlt'
  have hsz : (ixOf k (List.range (k + 1)) hlt').toArray.size = k + 1 := by
    have h3 := congrArg List.length hval
    rw [List.length_map, List.length_range] at h3
    simpa using h3
  have hd : (ixOf k (List.range (k + 1)) hlt').toArray.toList.map Ix.enc = plc (List.range (k + 1)) := by rw [ixOf_enc]; exact congrArg plc hval
  have hH := holds_own h Ix.enc (ixOf k (List.range (k + 1)) hlt').toArray hd
  have hlt : g < w.heap.size := by
    rcases h.form with ⟨h0, _⟩ | ⟨g', cur, h0, _, hh, _⟩
    · cases h0
    · cases h0; exact heap_lt hh
  have hlay : CmpLays1 Try.prog 74 #[.pointer (some ⟨b1, 0, none⟩), .pointer (some ⟨b2, 0, none⟩)] Ix.enc (fun x y : Ix k => keepCmp gs ss x.val y.val) g 0 (ixOf k (List.range (k + 1)) hlt').toArray.size w := fun m os dk _ x y => by
    obtain ⟨k1, k2, k3, k4⟩ := hK _ (sortWorld_grown Ix.enc w g m dk os)
    exact keep1_any A B (k + 1) c d gs ss x.val y.val b1 b2 _ k1 k2 k3 k4 x.h y.h
  have hcon := Try.slices_SortFunc_f73 Ix.enc (fun _ => rfl) (fun x y : Ix k => keepCmp gs ss x.val y.val) (ix_swo gs ss k) 74 #[.pointer (some ⟨b1, 0, none⟩), .pointer (some ⟨b2, 0, none⟩)] g 0 cl (ixOf k (List.range (k + 1)) hlt').toArray w enters_keep1 hlay hH hlt (by omega)
  rw [hsz] at hcon
  refine hcon.mono ?_
  rintro e w' ⟨rfl, d', m, os, hp, hss, rfl⟩
  obtain ⟨p1, p2⟩ := permIn_list hsz hp
  have p3 := sortedIn_list p1 hss
  have := own_sorted (m := m) h Ix.enc d' p1 os
  rw [ixOf_enc] at this
  refine ⟨rfl, d'.toList.map Ix.val, ?_, ?_, this, sortWorld_grown _ _ _ _ _ _⟩
  · have := p2.map Ix.val
    simp only [hval] at this
    exact this
  · rw [List.pairwise_map]
    exact p3.imp fun hh => by rw [← ix_lt]; exact hh
/-- What was kept is put in order. -/
theorem sort_plc (base g n c : Nat) (l : List Nat) (w : World) (h : Own 3 w base (some ⟨g, 0, none⟩) n c (plc l)) (hn : n ≤ 1000000) :
    Calls Try.prog 77 #[.slice (some ⟨g, 0, none⟩) n c] w fun e w' => e = .returned (.tuple #[]) ∧ ∃ M : List Nat, M.Perm l ∧ M.Pairwise (· ≤ ·) ∧ Own 3 w' base (some ⟨g, 0, none⟩) n c (plc M) ∧ w.grownBy w' (some g) := by
  have hl : l.length = n := by have h1 := h.len; unfold plc at h1; simpa using h1
  have e1 : plc l = (l.map (fun i : Nat => (i : Int))).map (Value.int .i64) := by unfold plc; rw [List.map_map]; rfl
  have hH := holds_own h (Value.int .i64) (l.map (fun i : Nat => (i : Int))).toArray (by rw [e1])
  have hlt : g < w.heap.size := by
    rcases h.form with ⟨h0, _⟩ | ⟨g', cur, h0, _, hh, _⟩
    · cases h0
    · cases h0; exact heap_lt hh
  have hcon := Try.slices_Sort_int g 0 c (l.map (fun i : Nat => (i : Int))) w hH hlt (by simp; omega)
  rw [List.length_map, hl] at hcon
  refine hcon.mono ?_
  rintro e w' ⟨rfl, m, os, hw⟩
  have hmap : ∃ M : List Nat, M.map (fun i : Nat => (i : Int)) = (l.map (fun i : Nat => (i : Int))).mergeSort (fun x y => decide (x ≤ y)) := by
    refine ⟨((l.map (fun i : Nat => (i : Int))).mergeSort (fun x y => decide (x ≤ y))).map Int.toNat, ?_⟩
    rw [List.map_map]
    conv => rhs; rw [← List.map_id ((l.map (fun i : Nat => (i : Int))).mergeSort (fun x y => decide (x ≤ y)))]
    apply List.map_congr_left
    intro x hx
    rw [List.mem_mergeSort] at hx
    obtain ⟨y, _, rfl⟩ := List.mem_map.1 hx
    simp
  obtain ⟨M, hM⟩ := hmap
  have hperm := List.mergeSort_perm (l.map (fun i : Nat => (i : Int))) (fun x y => decide (x ≤ y))
  have hsort := List.pairwise_mergeSort (le := fun x y : Int => decide (x ≤ y)) (fun a b c h1 h2 => by simp at *; omega) (fun a b => by simp; omega) (l.map (fun i : Nat => (i : Int)))
  rw [← hM] at hperm hsort hw
  have hw2 : w' = sortWorld (Value.int .i64) w g 0 m (M.map (fun i : Nat => (i : Int))).toArray os := hw
  have hMl : (M.map (fun i : Nat => (i : Int))).toArray.size = n := by have := hperm.length_eq; simp at this ⊢; omega
  have hown := own_sorted (m := m) h (Value.int .i64) (M.map (fun i : Nat => (i : Int))).toArray hMl os
  rw [← hw2] at hown
  refine ⟨rfl, M, ?_, ?_, ?_, by rw [hw2]; exact sortWorld_grown _ _ _ _ _ _⟩
  · have := hperm.map Int.toNat
    simpa [List.map_map, Function.comp_def] using this
  · rw [List.pairwise_map] at hsort
    exact hsort.imp fun hh => by simpa using hh
  · unfold plc
    have e2 : (M.map (fun i : Nat => (i : Int))).toArray.toList.map (Value.int .i64) = M.map (fun i : Nat => Value.int .i64 (i : Int)) := by rw [List.map_map]; rfl
    rw [e2] at hown
    exact hown

theorem plc_range_succ (k : Nat) : plc (List.range (k + 1)) = plc (List.range k) ++ [Value.int .i64 (k : Int)] := by unfold plc; rw [List.range_succ, List.map_append]; rfl
theorem plc_map (l : List Nat) : (l.map (fun i : Nat => (i : Int))).map (Value.int .i64) = plc l := by unfold plc; rw [List.map_map]; rfl
theorem Own.ints' {w : World} {base n c : Nat} {A : Option Addr} {l : List Nat} (h : Own 3 w base A n c (plc l)) (hw : ∀ x ∈ l.map (fun i : Nat => (i : Int)), I64 x) : Ints w A n c (l.map (fun i : Nat => (i : Int))) := ⟨by rw [plc_map]; exact h.sl, hw⟩
theorem plc_append (l m : List Nat) : plc (l ++ m) = plc l ++ plc m := by unfold plc; rw [List.map_append]
theorem plc_one (l : List Nat) : ∀ u ∈ plc l, u.oneCell' = true := by
  intro u hu
  obtain ⟨x, _, rfl⟩ := List.mem_map.1 hu
  rfl

set_option maxHeartbeats 8000000 in
set_option maxRecDepth 100000 in
theorem keep_any (A B : Option Addr) (n c m d : Nat) (gs ss : List Int) (many : Int) (w : World) (h : Ints w A n c gs) (h' : Ints w B m d ss) (hmany : I64 many) (Z : List Int) (z1 z2 : Int) (hZ : Hid (keepS gs ss many = (Z, z1, z2))) :
    Calls Try.prog 47 #[.slice A n c, .slice B m d, .int .i64 many] w (fun e w' => ∃ A' n' c', e = .returned (.tuple #[.slice A' n' c', .agg #[.int .i64 z1, .int .i64 z2]]) ∧ Own 3 w' w.heap.size A' n' c' (Z.map (Value.int .i64)) ∧ Below w.heap.size w w') := by
  have hbd := h.bd
  have hbd' := h'.bd
  have hlg := Lib.hid h.len
  have hls := Lib.hid h'.len
  unfold I64 at hmany
  obtain ⟨i0, hi0, hz0, hz1, hz2⟩ := info_parts int_info
  have G := Lib.hid h
  have V := Lib.hid h'
  clear h h'
  by_cases hn3 : 3000 < n
  · obtain ⟨rfl, rfl, rfl⟩ : [] = Z ∧ 2 = z1 ∧ 0 = z2 := by have := hZ.out; rw [keepS, if_pos (by rw [hlg.out]; exact hn3)] at this; simpa using this
    go_enter Try.func47, Try.ntmps47
    go_wp2_with fail
    exact bodyPost_ret (v := .tuple #[.slice none 0 0, .agg #[.int .i64 2, .int .i64 0]]) (by simp [results, Try.results47, go_sem]) rfl ⟨none, 0, 0, rfl, Own.nil _ _ _, below_alloc (below_alloc (below_new _ _) _) _⟩
  have hn4 : n ≤ 3000 := by omega
  have d0 : decide ((3000 : Int) < (n : Int)) = false := by simp; omega
  clear hn3
  by_cases hnm : m = n
  rotate_left
  · obtain ⟨rfl, rfl, rfl⟩ : [] = Z ∧ 9 = z1 ∧ -1 = z2 := by have := hZ.out; rw [keepS, if_neg (by rw [hlg.out]; omega), if_pos (by rw [hlg.out, hls.out]; exact hnm)] at this; simpa using this
    have d1 : ((m : Int) != (n : Int)) = true := by simp; omega
    go_enter Try.func47, Try.ntmps47
    go_wp2_with fail
    exact bodyPost_ret (v := .tuple #[.slice none 0 0, .agg #[.int .i64 9, .int .i64 (-1)]]) (by simp [results, Try.results47, go_sem]) rfl ⟨none, 0, 0, rfl, Own.nil _ _ _, below_alloc (below_alloc (below_new _ _) _) _⟩
  subst hnm
  obtain ⟨p1, p2, hp⟩ : ∃ p1 p2, Hid (negF gs ss 0 = (p1, p2)) := ⟨_, _, rfl⟩
  have hZ2 : Hid ((if p1 ≠ 0 then ([], p1, p2) else if many < 0 then ([], 10, 0) else ((keptF gs ss many).map (fun i : Nat => (i : Int)), 0, 0)) = (Z, z1, z2)) := by have := hZ.out; rw [keepS, if_neg (by rw [hlg.out]; omega), if_neg (by rw [hlg.out, hls.out]; simp), hp.out] at this; exact this
  have dm : ((m : Int) != (m : Int)) = false := by simp
  obtain ⟨w0, hw0⟩ : ∃ w0 : World, w0 = (((w.alloc (.cells #[.slice A m c] 41)).alloc (.cells #[.slice B m d] 41)).alloc (.cells #[.int .i64 0, .int .i64 0] 28)) := ⟨_, rfl⟩
  have hbn : Below w.heap.size w w0 := by rw [hw0]; exact below_alloc (below_alloc (below_new _ _) _) _
  obtain ⟨K1', K2', K3', _, lw0⟩ := blk3 (w := w) (wr := w0) (t := 41) (t' := 41) (t'' := 28) (cs := #[.slice A m c]) (cs' := #[.slice B m d]) (cs'' := #[.int .i64 0, .int .i64 0]) (by rw [hw0]; exact Below.refl _ _)
  have K1 := Lib.hid K1'
  have K2 := Lib.hid K2'
  have K3 := Lib.hid K3'
  have HBN := Lib.hid hbn
  have HW0 := Lib.hid hw0
  have G0 := Lib.hid (G.out.keep hbn)
  have V0 := Lib.hid (V.out.keep hbn)
  have hNA : 0 < m → blockOf A = none ∨ ∀ g, w0.heap.size ≤ g → blockOf A ≠ some g := fun hm0 => by obtain ⟨b, off, rfl, hlt, _⟩ := G0.out.sl.at_ hm0; exact .inr fun g hg e => by simp [blockOf] at e; omega
  have hNB : 0 < m → blockOf B = none ∨ ∀ g, w0.heap.size ≤ g → blockOf B ≠ some g := fun hm0 => by obtain ⟨b, off, rfl, hlt, _⟩ := V0.out.sl.at_ hm0; exact .inr fun g hg e => by simp [blockOf] at e; omega
  have HNA := Lib.hid hNA
  have HNB := Lib.hid hNB
  clear hw0 hbn K1' K2' K3' hNA hNB hZ
  go_enter Try.func47, Try.ntmps47
  go_wp2_with fail
  rw [← HW0.out]
  clear HW0
  go_loopw [8, 27] (fun s8 s wr => ∃ (k cl : Nat) (L : Option Addr), k ≤ m ∧ s8 = .slice L k cl ∧ s = .int .i64 k ∧ Hid (Own 3 wr w0.heap.size L k cl (plc (List.range k))) ∧ Hid (negF (gs.drop k) (ss.drop k) k = (p1, p2)) ∧ Hid (Below w0.heap.size w0 wr)) (fun _ s _ => m - (intOf s).toNat)
  case atStart => exact ⟨0, 0, none, Nat.zero_le _, rfl, rfl, Own.nil _ _ _, hp, Below.refl _ _⟩
  case round =>
    obtain ⟨k, cl, L, hk, rfl, rfl, hO, hgo, hbl⟩ := hrel
    have KA := Lib.hid (K1.out.keep hbl.out)
    have KB := Lib.hid (K2.out.keep hbl.out)
    have KF := Lib.hid (K3.out.keep hbl.out)
    have c1 := KA.out.cell 0
    have c2 := KB.out.cell 0
    have f0 := KF.out.cell 0
    have f1 := KF.out.cell 1
    have ff0 := KF.out.frozen 0
    have ff1 := KF.out.frozen 1
    simp at c1 c2 f0 f1
    have lf := KF.out.lt
    have la := KA.out.lt
    have lb := KB.out.lt
    have hwr := hbl.out.size
    by_cases hlt : k < m
    · obtain ⟨bA, oA, x, hAe, hbA, hgx, x1, x2, hxk⟩ := (G0.out.keep hbl.out).round hlt
      obtain ⟨bB, oB, y, hBe, hbB, hsy, y1, y2, hyk⟩ := (V0.out.keep hbl.out).round hlt
      subst hAe hBe
      have hgo2 : Hid ((if x < 0 ∨ y < 0 then ((3 : Int), (k : Int)) else negF (gs.drop (k + 1)) (ss.drop (k + 1)) (k + 1)) = (p1, p2)) := by have := hgo.out; rw [drop_cons_of hxk.out, drop_cons_of hyk.out, negF] at this; exact this
      have u1 : (0 : Int) ≤ (k : Int) := by omega
      have u2 : (k : Int) < (m : Int) := by omega
      by_cases hneg : x < 0 ∨ y < 0
      · have hpp : 3 = p1 ∧ (k : Int) = p2 := by have := hgo2.out; rw [if_pos hneg] at this; simpa using this
        obtain ⟨rfl, rfl⟩ := hpp
        obtain ⟨rfl, rfl, rfl⟩ : [] = Z ∧ 3 = z1 ∧ (k : Int) = z2 := by have := hZ2.out; rw [if_pos (by simp)] at this; simpa using this
        obtain ⟨q0, q1⟩ := KF.out.put2 (.int .i64 3) (.int .i64 k)
        have Q0 := Lib.hid q0
        have Q1 := Lib.hid q1
        have BF := Lib.hid (below_put2 (below_next HBN.out hbl.out) (g := w.heap.size + 1 + 1) (by omega) (.int .i64 3) (.int .i64 k))
        clear q0 q1
        by_cases hx0 : x < 0
        · clear hneg
          go_wp2_with fail
          exact bodyPost_ret (v := .tuple #[.slice none 0 0, .agg #[.int .i64 3, .int .i64 k]]) (by simp [results, Try.results47, go_sem, Q0.out, Q1.out]) rfl ⟨none, 0, 0, rfl, Own.nil _ _ _, BF.out⟩
        · have hy0 : y < 0 := by omega
          clear hneg
          go_wp2_with fail
          exact bodyPost_ret (v := .tuple #[.slice none 0 0, .agg #[.int .i64 3, .int .i64 k]]) (by simp [results, Try.results47, go_sem, Q0.out, Q1.out]) rfl ⟨none, 0, 0, rfl, Own.nil _ _ _, BF.out⟩
      · have hx0 : ¬ x < 0 := by omega
        have hy0 : ¬ y < 0 := by omega
        have hgo3 : Hid (negF (gs.drop (k + 1)) (ss.drop (k + 1)) (k + 1) = (p1, p2)) := by have := hgo2.out; rw [if_neg hneg] at this; exact this
        clear hneg
        have HOK := Lib.hid (hO.out.keep (below_new wr (.cells #[.int .i64 k] 3)))
        have hSS := sl_one wr 3 (.int .i64 k) rfl
        go_wp2_with (first
          | (at_builtin
             refine wpList_append_sl _ rfl (.tmp 44) (.tmp 46) _ rfl w0.heap.size 3 i0 _ 8 Try.underlying41 hi0 hz0 hz1 hz2 rfl L k cl _ rfl HOK.out (some ⟨wr.heap.size, 0, none⟩) 1 1 _ rfl hSS (by simp [Value.oneCell']) (by simp only [maxLen]; omega) (by omega) (by simp; omega) ?_
             intro L1 cL1 w6 hL1 hg1 hat1
             have HP6 := Lib.hid hL1
             have HB6 := Lib.hid (below_grown (below_alloc hbl.out (.cells #[.int .i64 k] 3)) HOK.out (Nat.le_refl _) hg1)
             clear hL1 hg1 hat1))
        go_roundw
        case rel => exact ⟨k + 1, cL1, L1, by omega, rfl, by go_num, by rw [plc_range_succ]; exact HP6, hgo3, HB6⟩
        case measure => simp [intOf]; omega
    · obtain rfl : k = m := by omega
      obtain ⟨rfl, rfl⟩ : 0 = p1 ∧ 0 = p2 := by have := hgo.out; rw [List.drop_of_length_le (by rw [hlg.out]; omega), negF] at this; simpa using this; simp
      have hZ3 : Hid ((if many < 0 then ([], (10 : Int), (0 : Int)) else ((keptF gs ss many).map (fun i : Nat => (i : Int)), 0, 0)) = (Z, z1, z2)) := by have := hZ2.out; rw [if_neg (by simp)] at this; exact this
      clear hZ2 hgo
      by_cases hmn : many < 0
      · obtain ⟨rfl, rfl, rfl⟩ : [] = Z ∧ 10 = z1 ∧ 0 = z2 := by have := hZ3.out; rw [if_pos hmn] at this; simpa using this
        obtain ⟨q0, q1⟩ := KF.out.put2 (.int .i64 10) (.int .i64 0)
        have Q0 := Lib.hid q0
        have Q1 := Lib.hid q1
        have BF := Lib.hid (below_put2 (below_next HBN.out hbl.out) (g := w.heap.size + 1 + 1) (by omega) (.int .i64 10) (.int .i64 0))
        clear q0 q1
        go_wp2_with fail
        exact bodyPost_ret (v := .tuple #[.slice none 0 0, .agg #[.int .i64 10, .int .i64 0]]) (by simp [results, Try.results47, go_sem, Q0.out, Q1.out]) rfl ⟨none, 0, 0, rfl, Own.nil _ _ _, BF.out⟩
      · obtain ⟨rfl, rfl, rfl⟩ : (keptF gs ss many).map (fun i : Nat => (i : Int)) = Z ∧ 0 = z1 ∧ 0 = z2 := by have := hZ3.out; rw [if_neg hmn] at this; simpa using this
        clear hZ3
        by_cases hk0 : k = 0
        · subst hk0
          have hkz : keptF gs ss many = [] := by unfold keptF; rw [hlg.out]; rfl
          obtain ⟨wo, hwo⟩ : ∃ wo : World, wo = wr := ⟨_, rfl⟩
          subst hwo
          have SI : Hid ((wo.setCell ⟨w.heap.size + 1 + 1, 0, none⟩ (.int .i64 0)).setCell ⟨w.heap.size + 1 + 1, 1, none⟩ (.int .i64 0) = wo) := by rw [setCell_id KF.out rfl, setCell_id KF.out rfl]; rfl
          have BF := Lib.hid (below_next HBN.out hbl.out)
          go_wp2_with fail
          refine (Try.slices_SortFunc_none_f73 (α := Ix 0) L cl _ wo).mono ?_
          rintro e w2 ⟨rfl, hw2⟩
          obtain rfl : wo = w2 := hw2.symm
          go_wp2_with fail
          go_loopw [10, 57] (fun s10 s wr => s10 = .slice none 0 0 ∧ s = .int .i64 0 ∧ Hid (wr = wo)) (fun _ _ _ => 0)
          case atStart => exact ⟨rfl, rfl, rfl⟩
          case round =>
            obtain ⟨rfl, rfl, hwz⟩ := hrel
            rw [hwz.out]
            go_wp2_with fail
            refine (Try.slices_Sort_int_none none 0 wo).mono ?_
            rintro e w3 ⟨rfl, hw3⟩
            obtain rfl : wo = w3 := hw3.symm
            go_wp2_with fail
            exact bodyPost_ret (v := .tuple #[.slice none 0 0, .agg #[.int .i64 0, .int .i64 0]]) (by rw [SI.out]; simp [results, Try.results47, go_sem, f0, f1]) rfl ⟨none, 0, 0, rfl, by rw [hkz]; exact Own.nil _ _ _, by rw [SI.out]; exact BF.out⟩
        · have hk1 : 0 < k := by omega
          rcases hO.out.form with ⟨_, h0, _⟩ | ⟨g, cur, rfl, hg, _⟩
          · exact absurd h0 hk0
          obtain ⟨wo, hwo⟩ : ∃ wo : World, wo = wr := ⟨_, rfl⟩
          subst hwo
          have HKK : Hid (∀ W, wo.grownBy W (some g) → Ints W A k c gs ∧ Ints W B k d ss ∧ W.cell? ⟨w.heap.size, 0, none⟩ = some (.slice A k c) ∧ W.cell? ⟨w.heap.size + 1, 0, none⟩ = some (.slice B k d)) := fun W hW =>
            ⟨(G0.out.keep hbl.out).kept hW ((HNA.out hk1).imp id (fun h => h g hg)), (V0.out.keep hbl.out).kept hW ((HNB.out hk1).imp id (fun h => h g hg)),
             by rw [(KA.out.grown hW (by simp; omega)).cell 0]; rfl, by rw [(KB.out.grown hW (by simp; omega)).cell 0]; rfl⟩
          have HOO := Lib.hid hO.out
          clear hO
          go_wp2_with fail
          refine (keep_sort A B k c d cl gs ss w0.heap.size g w.heap.size (w.heap.size + 1) wo (by omega) hk1 HOO.out HKK.out).mono ?_
          rintro e w2 ⟨rfl, LL, hperm, hpw, hO2, hg2⟩
          have HP := Lib.hid hperm
          have HPW := Lib.hid hpw
          have B2 : Hid (Below w0.heap.size w0 w2) := hbl.out.grown hg2 hbl.out.size (fun k' hk' => by cases hk'; exact hg)
          have HLI : Hid (Ints w2 (some ⟨g, 0, none⟩) k cl (LL.map (fun i : Nat => (i : Int)))) := hO2.ints' (by
            intro x hx
            obtain ⟨y, hy, rfl⟩ := List.mem_map.1 hx
            have := List.mem_range.1 (hperm.mem_iff.1 hy)
            unfold I64
            omega)
          have HLB : Hid (∀ y ∈ LL, y < k) := fun y hy => List.mem_range.1 (hperm.mem_iff.1 hy)
          have hLL : Hid (LL.length = k) := by have := hperm.length_eq; simpa [Hid] using this
          clear hperm hpw hO2 hg2 HKK HOO hbl KA KB KF c1 c2 f0 f1 ff0 ff1 lf la lb
          have hw2 := B2.out.size
          go_wp2_with fail
          go_loopw [10, 57] (fun s10 s wr => ∃ (j no co : Nat) (Oc : Option Addr) (acc : List Nat), j ≤ k ∧ no ≤ j ∧ s10 = .slice Oc no co ∧ s = .int .i64 j ∧ Hid (Own 3 wr w2.heap.size Oc no co (plc acc)) ∧ Hid (acc ++ outF gs many (LL.drop j) j = outF gs many LL 0) ∧ Hid (Below w2.heap.size w2 wr)) (fun _ s _ => k - (intOf s).toNat)
          case atStart => exact ⟨0, 0, 0, none, [], Nat.zero_le _, Nat.le_refl _, rfl, rfl, Own.nil _ _ _, rfl, Below.refl _ _⟩
          case round =>
            obtain ⟨j, no, co, Oc, acc, hj, hno, rfl, rfl, hO, hgo, hbl⟩ := hrel
            have KA := Lib.hid (K1.out.keep (below_next B2.out hbl.out))
            have KF := Lib.hid (K3.out.keep (below_next B2.out hbl.out))
            have c1 := KA.out.cell 0
            simp at c1
            have la := KA.out.lt
            have hwr := hbl.out.size
            by_cases hlt2 : j < k
            · obtain ⟨bL, oL, v, hLe, hbL, hcv, _, _, hvk⟩ := (HLI.out.keep hbl.out).round hlt2
              cases hLe
              rw [Nat.zero_add] at hcv
              obtain ⟨iv, hiv, rfl⟩ : ∃ iv, LL[j]? = some iv ∧ (iv : Int) = v := by have := hvk.out; rw [List.getElem?_map, Option.map_eq_some_iff] at this; exact this
              have hivk := HLB.out iv (List.mem_of_getElem? hiv)
              obtain ⟨bA, oA, x, hAe, hbA, hgx, x1, x2, hxk⟩ := (G0.out.keep (below_next B2.out hbl.out)).round hivk
              subst hAe
              have hgx' := getD_at hxk.out
              have hgo2 : Hid (acc ++ ((if decide ((j : Int) < many) || decide (x ≤ 2) then [iv] else []) ++ outF gs many (LL.drop (j + 1)) (j + 1)) = outF gs many LL 0) := by have := hgo.out; rw [drop_cons_of hiv, outF, hgx'] at this; exact this
              have u1 : (0 : Int) ≤ (j : Int) := by omega
              have u2 : (j : Int) < (k : Int) := by omega
              have u3 : (0 : Int) ≤ (iv : Int) := by omega
              have u4 : (iv : Int) < (k : Int) := by omega
              have HIV := Lib.hid hiv
              clear hiv hgo hgx'
              by_cases hq : ((j : Int) < many ∨ x ≤ 2)
              · have hgo3 : Hid ((acc ++ [iv]) ++ outF gs many (LL.drop (j + 1)) (j + 1) = outF gs many LL 0) := by have := hgo2.out; rw [if_pos (by simpa using hq)] at this; simpa [Hid] using this
                have HOK := Lib.hid (hO.out.keep (below_new wr (.cells #[.int .i64 (iv : Int)] 3)))
                have hSS := sl_one wr 3 (.int .i64 (iv : Int)) rfl
                by_cases hjm : (j : Int) < many
                · clear hq
                  go_wp2_with (first
                    | (at_builtin
                       refine wpList_append_sl _ rfl (.tmp 72) (.tmp 74) _ rfl w2.heap.size 3 i0 _ 8 Try.underlying41 hi0 hz0 hz1 hz2 rfl Oc no co _ rfl HOK.out (some ⟨wr.heap.size, 0, none⟩) 1 1 _ rfl hSS (by simp [Value.oneCell']) (by simp only [maxLen]; omega) (by omega) (by simp; omega) ?_
                       intro L1 cL1 w6 hL1 hg1 hat1
                       have HP6 := Lib.hid hL1
                       have HB6 := Lib.hid (below_grown (below_alloc hbl.out (.cells #[.int .i64 (iv : Int)] 3)) HOK.out (Nat.le_refl _) hg1)
                       clear hL1 hg1 hat1))
                  go_roundw
                  case rel => exact ⟨j + 1, no + 1, cL1, L1, acc ++ [iv], by omega, by omega, rfl, by go_num, by rw [plc_append]; exact HP6, hgo3, HB6⟩
                  case measure => simp [intOf]; omega
                · have hx2 : x ≤ 2 := by omega
                  clear hq
                  go_wp2_with (first
                    | (at_builtin
                       refine wpList_append_sl _ rfl (.tmp 72) (.tmp 74) _ rfl w2.heap.size 3 i0 _ 8 Try.underlying41 hi0 hz0 hz1 hz2 rfl Oc no co _ rfl HOK.out (some ⟨wr.heap.size, 0, none⟩) 1 1 _ rfl hSS (by simp [Value.oneCell']) (by simp only [maxLen]; omega) (by omega) (by simp; omega) ?_
                       intro L1 cL1 w6 hL1 hg1 hat1
                       have HP6 := Lib.hid hL1
                       have HB6 := Lib.hid (below_grown (below_alloc hbl.out (.cells #[.int .i64 (iv : Int)] 3)) HOK.out (Nat.le_refl _) hg1)
                       clear hL1 hg1 hat1))
                  go_roundw
                  case rel => exact ⟨j + 1, no + 1, cL1, L1, acc ++ [iv], by omega, by omega, rfl, by go_num, by rw [plc_append]; exact HP6, hgo3, HB6⟩
                  case measure => simp [intOf]; omega
              · have hjm : ¬ (j : Int) < many := by omega
                have hx2 : ¬ x ≤ 2 := by omega
                have hgo3 : Hid (acc ++ outF gs many (LL.drop (j + 1)) (j + 1) = outF gs many LL 0) := by have := hgo2.out; rw [if_neg (by simpa using hq)] at this; simpa [Hid] using this
                clear hq
                go_wp2_with fail
                go_roundw
                case rel => exact ⟨j + 1, no, co, Oc, acc, by omega, by omega, rfl, by go_num, hO, hgo3, hbl⟩
                case measure => simp [intOf]; omega
            · obtain rfl : j = k := by omega
              have hacc : acc = outF gs many LL 0 := by have := hgo.out; rw [List.drop_of_length_le (by rw [hLL.out]; omega), outF, List.append_nil] at this; exact this
              have HAC := Lib.hid hacc
              obtain ⟨wq, hwq⟩ : ∃ wq : World, wq = wr := ⟨_, rfl⟩
              subst hwq
              have HOO := Lib.hid hO.out
              clear hacc hgo hO c1 la
              go_wp2_with fail
              by_cases hno0 : no = 0
              · subst hno0
                have haz : acc = [] := by have := HOO.out.len; unfold plc at this; simpa using this
                have hkz : keptF gs ss many = [] := (outF_sorted (gs := gs) (ss := ss) (many := many) (L := LL) (M := []) (by rw [hlg.out]; exact HP.out) HPW.out (by rw [← HAC.out, haz]) List.Pairwise.nil).symm
                have k0 := KF.out.cell 0
                have k1 := KF.out.cell 1
                have kf0 := KF.out.frozen 0
                have kf1 := KF.out.frozen 1
                simp at k0 k1
                have lf := KF.out.lt
                have SI : Hid ((wq.setCell ⟨w.heap.size + 1 + 1, 0, none⟩ (.int .i64 0)).setCell ⟨w.heap.size + 1 + 1, 1, none⟩ (.int .i64 0) = wq) := by rw [setCell_id KF.out rfl, setCell_id KF.out rfl]; rfl
                have BF := Lib.hid (below_next HBN.out (below_next B2.out hbl.out))
                refine (Try.slices_Sort_int_none Oc co wq).mono ?_
                rintro e w3 ⟨rfl, hw3⟩
                obtain rfl : wq = w3 := hw3.symm
                go_wp2_with fail
                exact bodyPost_ret (v := .tuple #[.slice Oc 0 co, .agg #[.int .i64 0, .int .i64 0]]) (by rw [SI.out]; simp [results, Try.results47, go_sem, k0, k1]) rfl ⟨Oc, 0, co, rfl, by rw [SI.out, hkz]; have := HOO.out; rw [haz] at this; exact this.mono (by have := HBN.out.size; omega), by rw [SI.out]; exact BF.out⟩
              · rcases HOO.out.form with ⟨_, h0, _⟩ | ⟨g3, cur3, rfl, hg3, _⟩
                · exact absurd h0 hno0
                refine (sort_plc w2.heap.size g3 no co acc wq HOO.out (by omega)).mono ?_
                rintro e w3 ⟨rfl, M, hM1, hM2, hM3, hg3'⟩
                have hkz : M = keptF gs ss many := outF_sorted (gs := gs) (ss := ss) (many := many) (L := LL) (by rw [hlg.out]; exact HP.out) HPW.out (by rw [← HAC.out]; exact hM1) hM2
                have HKZ := Lib.hid hkz
                have B3 : Hid (Below w2.heap.size w2 w3) := hbl.out.grown hg3' hbl.out.size (fun k' hk' => by cases hk'; exact hg3)
                have O3 := Lib.hid hM3
                have KF3 := Lib.hid (K3.out.keep (below_next B2.out B3.out))
                have k0 := KF3.out.cell 0
                have k1 := KF3.out.cell 1
                have kf0 := KF3.out.frozen 0
                have kf1 := KF3.out.frozen 1
                simp at k0 k1
                have lf := KF3.out.lt
                have SI : Hid ((w3.setCell ⟨w.heap.size + 1 + 1, 0, none⟩ (.int .i64 0)).setCell ⟨w.heap.size + 1 + 1, 1, none⟩ (.int .i64 0) = w3) := by rw [setCell_id KF3.out rfl, setCell_id KF3.out rfl]; rfl
                have BF := Lib.hid (below_next HBN.out (below_next B2.out B3.out))
                clear hkz hM1 hM2 hM3 hg3'
                go_wp2_with fail
                exact bodyPost_ret (v := .tuple #[.slice (some ⟨g3, 0, none⟩) no co, .agg #[.int .i64 0, .int .i64 0]]) (by rw [SI.out]; simp [results, Try.results47, go_sem, k0, k1]) rfl ⟨some ⟨g3, 0, none⟩, no, co, rfl, by rw [SI.out, ← HKZ.out, plc_map]; exact O3.out.mono (by have := HBN.out.size; omega), by rw [SI.out]; exact BF.out⟩
end Go.Proofs.Ytplbiepfdfoglaa
