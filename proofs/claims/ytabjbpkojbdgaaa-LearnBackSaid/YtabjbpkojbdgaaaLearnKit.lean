/- Contracts of the laws' round and taught. -/
import Derived.Test.YtabjbpkojbdgaaaLearn
import Derived.Test.YtabjbpkojbdgaaaRefLev
import Derived.Test.YtabjbpkojbdgaaaBoth
import Derived.Test.YtabjbpkojbdgaaaRows2
namespace Go.Proofs.Ytabjbpkojbdgaaa
open Go.RowKit
set_option linter.unusedSimpArgs false

set_option maxHeartbeats 400000 in
theorem round_any (w : World) : Calls Try.prog 15 #[] w (RetCnf 2 [[-1, 2], [-1, -2]] w) := by
  go_enter Try.func15, Try.ntmps15
  go_wp2_with fail
  have h1 := ints_made (w.alloc (.cells #[.int .i64 2, .slice (some ⟨w.heap.size + 1 + 1 + 1, 0, none⟩) 2 2] 24)) 3 [-1, 2] (b := w.heap.size + 1) (by simp) (by simp [I64]) (by decide)
  have h2 := ints_made ((w.alloc (.cells #[.int .i64 2, .slice (some ⟨w.heap.size + 1 + 1 + 1, 0, none⟩) 2 2] 24)).alloc (.cells #[.int .i64 (-1), .int .i64 2] 3)) 3 [-1, -2] (b := w.heap.size + 1 + 1) (by simp) (by simp [I64]) (by decide)
  exact bodyPost_ret (v := .agg #[.int .i64 2, .slice (some ⟨w.heap.size + 1 + 1 + 1, 0, none⟩) 2 2]) (by simp [results, Try.results15, go_sem]) rfl
    ⟨_, _, _, rfl, grid2 25 (by simp) (h1.keep (below_new _ _)) h2, below_alloc (below_alloc (below_alloc (below_new _ _) _) _) _⟩

/-- What is wrong with clauses and literals that are to teach something. -/
def taughtR (vars : Int) (xss : List (List Int)) (q : List Int) : Int × Int :=
  if (besideR vars xss q).1 ≠ 0 then besideR vars xss q else if (startF vars xss q).2.2.2.2 < 0 then (6, 0) else (0, 0)
set_option maxHeartbeats 4000000 in
set_option maxRecDepth 100000 in
theorem taughtLaw_any (A B : Option Addr) (n c m d : Nat) (xss : List (List Int)) (l : List Int) (vars : Int) (w : World) (h : Grid w A n c xss) (hv : I64 vars) (h' : Ints w B m d l) (r1 r2 : Int) (hr : Hid (taughtR vars xss l = (r1, r2))) :
    Calls Try.prog 14 #[.agg #[.int .i64 vars, .slice A n c], .slice B m d] w (RetV (.agg #[.int .i64 r1, .int .i64 r2]) w) := by
  obtain ⟨p1, p2, hp⟩ : ∃ p1 p2, Hid (besideR vars xss l = (p1, p2)) := ⟨_, _, rfl⟩
  have G := Lib.hid h
  have I := Lib.hid h'
  clear h h'
  by_cases hp1 : p1 = 0
  · subst hp1
    obtain ⟨hr0, hc0, hll⟩ := besideR_ok (vars := vars) (xss := xss) (l := l) (by rw [hp.out])
    obtain rfl : p2 = 0 := by rw [hp.out] at hr0; simpa using hr0
    obtain ⟨_, v0, v1, hn400, hrows⟩ := checkC_ok hc0
    have v6 : vars ≤ 1000000 := by omega
    have HC : Hid (∀ x ∈ xss, Lits vars x) := fun x hx => (hrows x hx).2
    have HLL := Lib.hid hll
    obtain ⟨t, y, v, z, a, ha⟩ : ∃ t y v z a, Hid (startF vars xss l = (t, y, v, z, a)) := ⟨_, _, _, _, _, rfl⟩
    have hr2 : Hid ((if a < 0 then ((6 : Int), (0 : Int)) else (0, 0)) = (r1, r2)) := by have := hr.out; rw [taughtR, hp.out, if_neg (by simp), ha.out] at this; exact this
    clear hr0 hc0 hrows hll hn400 hr
    go_enter Try.func14, Try.ntmps14
    go_wp2_with fail
    refine (beside_any _ _ _ _ _ _ xss l vars _ (G.out.keep (below_alloc (below_new _ _) _)) hv (I.out.keep (below_alloc (below_new _ _) _)) _ _ hp).mono ?_
    rintro e w1 ⟨rfl, hb1⟩
    obtain ⟨K_c0, K_r0, B_w1, l_w1⟩ := two_blks hb1
    replace G := Lib.hid (G.out.keep B_w1)
    replace I := Lib.hid (I.out.keep B_w1)
    have HB := Lib.hid B_w1
    have K_c := Lib.hid K_c0
    have K_r := Lib.hid K_r0
    clear hb1 B_w1 K_c0 K_r0
    have cK_c_0 := K_c.out.cell 0
    have cK_c_1 := K_c.out.cell 1
    simp at cK_c_0 cK_c_1
    have zK_c := K_c.out.lt
    have cK_r_0 := K_r.out.cell 0
    have cK_r_1 := K_r.out.cell 1
    simp at cK_r_0 cK_r_1
    have zK_r := K_r.out.lt
    go_wp2_with fail
    refine (lev_ref _ _ _ _ _ _ xss l vars _ (G.out.keep (below_new _ _)) (I.out.keep (below_new _ _)) v0 v6 HC.out HLL.out t y v z a ha).mono ?_
    rintro e w4 ⟨L4, nl4, cl4, Y4, ny4, cy4, V4, nv4, cv4, rfl, hI4, hJ4, hV4, _, _, _, hb4⟩
    obtain ⟨K_x0, B_w4, l_w4⟩ := blk1 hb4
    replace G := Lib.hid (G.out.keep B_w4)
    replace I := Lib.hid (I.out.keep B_w4)
    replace K_c := Lib.hid (K_c.out.keep B_w4)
    replace K_r := Lib.hid (K_r.out.keep B_w4)
    replace HB := Lib.hid (below_next HB.out B_w4)
    have K_x := Lib.hid K_x0
    clear hb4 B_w4 K_x0
    clear cK_c_0 cK_c_1 zK_c cK_r_0 cK_r_1 zK_r
    have cK_c_0 := K_c.out.cell 0
    have cK_c_1 := K_c.out.cell 1
    simp at cK_c_0 cK_c_1
    have zK_c := K_c.out.lt
    have cK_r_0 := K_r.out.cell 0
    have cK_r_1 := K_r.out.cell 1
    simp at cK_r_0 cK_r_1
    have zK_r := K_r.out.lt
    have cK_x_0 := K_x.out.cell 0
    have cK_x_1 := K_x.out.cell 1
    simp at cK_x_0 cK_x_1
    have zK_x := K_x.out.lt
    clear hI4 hJ4 hV4
    have fK_r_0 := K_r.out.frozen 0
    have fK_r_1 := K_r.out.frozen 1
    have fK_x_0 := K_x.out.frozen 0
    have fK_x_1 := K_x.out.frozen 1
    obtain ⟨ka, hka⟩ : ∃ k, k = w1.heap.size := ⟨_, rfl⟩
    have hkr : w.heap.size + 1 ≠ w1.heap.size := by omega
    by_cases hneg : a < 0
    · obtain ⟨rfl, rfl⟩ : 6 = r1 ∧ 0 = r2 := by have := hr2.out; rw [if_pos hneg] at this; simpa using this
      have KF := (K_r.out.far (p := ⟨w1.heap.size, 0, none⟩) hkr (.int .i64 6)).far (p := ⟨w1.heap.size, 1, none⟩) hkr (.int .i64 0)
      obtain ⟨q0, q1⟩ := KF.put2 (.int .i64 6) (.int .i64 0)
      have Q0 := Lib.hid q0
      have Q1 := Lib.hid q1
      have BF := Lib.hid (below_put2 (below_put2 HB.out (g := w1.heap.size) (by omega) (.int .i64 6) (.int .i64 0)) (g := w.heap.size + 1) (by omega) (.int .i64 6) (.int .i64 0))
      clear q0 q1 KF
      go_wp2_with fail
      exact bodyPost_ret (v := .agg #[.int .i64 6, .int .i64 0]) (by simp [results, Try.results14, go_sem, Q0.out, Q1.out, zK_r]) rfl ⟨rfl, below_alloc BF.out _⟩
    · obtain ⟨rfl, rfl⟩ : 0 = r1 ∧ 0 = r2 := by have := hr2.out; rw [if_neg hneg] at this; simpa using this
      obtain ⟨q0, q1⟩ := K_r.out.put2 (.int .i64 0) (.int .i64 0)
      have Q0 := Lib.hid q0
      have Q1 := Lib.hid q1
      have BF := Lib.hid (below_put2 HB.out (g := w.heap.size + 1) (by omega) (.int .i64 0) (.int .i64 0))
      clear q0 q1
      go_wp2_with fail
      exact bodyPost_ret (v := .agg #[.int .i64 0, .int .i64 0]) (by simp [results, Try.results14, go_sem, Q0.out, Q1.out, zK_r]) rfl ⟨rfl, below_alloc BF.out _⟩
  · obtain ⟨rfl, rfl⟩ : p1 = r1 ∧ p2 = r2 := by have := hr.out; rw [taughtR, hp.out, if_pos hp1] at this; simpa using this
    go_enter Try.func14, Try.ntmps14
    go_wp2_with fail
    refine (beside_any _ _ _ _ _ _ xss l vars _ (G.out.keep (below_alloc (below_new _ _) _)) hv (I.out.keep (below_alloc (below_new _ _) _)) _ _ hp).mono ?_
    rintro e w1 ⟨rfl, hb1⟩
    obtain ⟨K_c0, K_r0, B_w1, l_w1⟩ := two_blks hb1
    replace G := Lib.hid (G.out.keep B_w1)
    replace I := Lib.hid (I.out.keep B_w1)
    have HB := Lib.hid B_w1
    have K_c := Lib.hid K_c0
    have K_r := Lib.hid K_r0
    clear hb1 B_w1 K_c0 K_r0
    have cK_c_0 := K_c.out.cell 0
    have cK_c_1 := K_c.out.cell 1
    simp at cK_c_0 cK_c_1
    have zK_c := K_c.out.lt
    have cK_r_0 := K_r.out.cell 0
    have cK_r_1 := K_r.out.cell 1
    simp at cK_r_0 cK_r_1
    have zK_r := K_r.out.lt
    have fK_r_0 := K_r.out.frozen 0
    have fK_r_1 := K_r.out.frozen 1
    have e1 : (p1 == 0) = false := by rw [beq_eq_false_iff_ne]; exact hp1
    obtain ⟨q0, q1⟩ := K_r.out.put2 (.int .i64 p1) (.int .i64 p2)
    have Q0 := Lib.hid q0
    have Q1 := Lib.hid q1
    have BF := Lib.hid (below_put2 HB.out (g := w.heap.size + 1) (by omega) (.int .i64 p1) (.int .i64 p2))
    clear q0 q1
    go_wp2_with fail
    exact bodyPost_ret (v := .agg #[.int .i64 p1, .int .i64 p2]) (by simp [results, Try.results14, go_sem, Q0.out, Q1.out, zK_r]) rfl ⟨rfl, below_alloc BF.out _⟩
end Go.Proofs.Ytabjbpkojbdgaaa
