/- Contract of prop.Falls. -/
import Derived.Test.YtabjbpkojbdgaaaUnitRun
import Derived.Test.YtabjbpkojbdgaaaBoth
import Derived.Test.YtabjbpkojbdgaaaBoxes
namespace Go.Proofs.Ytabjbpkojbdgaaa
open Go.RowKit

set_option maxHeartbeats 1000000 in
theorem propFalls_wrong (A B : Option Addr) (n c m d : Nat) (xss : List (List Int)) (l : List Int) (vars : Int) (w : World) (h : Grid w A n c xss) (hv : I64 vars) (h' : Ints w B m d l) (r1 r2 : Int) (hr : Hid (besideR vars xss l = (r1, r2))) (h0 : r1 ≠ 0) :
    Calls Try.prog 26 #[.agg #[.int .i64 vars, .slice A n c], .slice B m d] w (RetV (.tuple #[.bool false, .agg #[.int .i64 r1, .int .i64 r2]]) w) := by
  have d1 : (r1 != 0) = true := by simpa using h0
  have hbW : Below w.heap.size w ((w.alloc (.cells #[.int .i64 vars, .slice A n c] 24)).alloc (.cells #[.int .i64 0, .int .i64 0] 28)) := (below_alloc (below_new _ _) _)
  have g := h.keep hbW
  have g' := h'.keep hbW
  have HBW := Lib.hid hbW
  clear hbW
  go_enter Try.func26, Try.ntmps26
  go_wp2_with fail
  refine (both_any _ _ _ _ _ _ _ _ _ _ g hv g' _ _ hr).mono ?_
  rintro e w1 ⟨rfl, hb1⟩
  obtain ⟨k3, k4, _, l1⟩ := two_blks hb1
  have t0 := k4.cell 0
  have t1 := k4.cell 1
  have tf0 := k4.frozen 0
  have tf1 := k4.frozen 1
  simp at t0 t1
  have HB := Lib.hid (below_next HBW.out hb1)
  have l3 : w.heap.size + 1 < w1.heap.size := by omega
  clear hb1 k3 k4 g g'
  go_wp2_with fail
  go_region
  go_wp2_with fail
  refine bodyPost_ret (v := .tuple #[.bool false, .agg #[.int .i64 r1, .int .i64 r2]]) (by simp [results, Try.results26, go_sem, t0, t1, l3]) rfl ⟨rfl, ?_⟩
  exact ((below_put2 HB.out (g := w.heap.size + 1) (by omega) _ _).alloc (by simp; omega) _).drew


set_option maxHeartbeats 2000000 in
theorem propFalls_own (A B : Option Addr) (n c m d : Nat) (xss : List (List Int)) (l : List Int) (vars : Int) (w : World) (h : Grid w A n c xss) (hv : I64 vars) (h' : Ints w B m d l) (hr : Hid (besideR vars xss l = (0, 0))) (r : Bool) (ha : Hid (fallsF vars xss l = r)) :
    Calls Try.prog 26 #[.agg #[.int .i64 vars, .slice A n c], .slice B m d] w (RetV (.tuple #[.bool r, .agg #[.int .i64 0, .int .i64 0]]) w) := by
  obtain ⟨_, hc0, hll⟩ := besideR_ok (vars := vars) (xss := xss) (l := l) (by rw [hr.out])
  obtain ⟨_, v0, v1, hn400, hrows⟩ := checkC_ok hc0
  have v6 : vars ≤ 1000000 := by omega
  have HC : Hid (∀ x ∈ xss, Lits vars x) := fun x hx => (hrows x hx).2
  have HLL := Lib.hid hll
  have HN : Hid (xss.length ≤ 1000000) := by show _ ≤ _; omega
  have G := Lib.hid h
  have I := Lib.hid h'
  clear hrows hc0 hll hn400 h h'
  go_enter Try.func26, Try.ntmps26
  go_wp2_with fail
  refine (both_any _ _ _ _ _ _ _ _ _ _ (G.out.keep (below_alloc (below_new _ _) _)) hv (I.out.keep (below_alloc (below_new _ _) _)) _ _ hr).mono ?_
  rintro e w1 ⟨rfl, hb1⟩
  obtain ⟨K_c0, K_r0, B_w1, l_w1⟩ := two_blks hb1
  replace G := Lib.hid (G.out.keep B_w1)
  replace I := Lib.hid (I.out.keep B_w1)
  have HB := Lib.hid B_w1
  have K_c := Lib.hid K_c0
  have K_r := Lib.hid K_r0
  clear hb1 B_w1 K_c0 K_r0
  have cK_c_0 := K_c.out.cell 0
  have cK_c_1 := K_c.out.cell 1
  simp at cK_c_0 cK_c_1
  have zK_c := K_c.out.lt
  have cK_r_0 := K_r.out.cell 0
  have cK_r_1 := K_r.out.cell 1
  simp at cK_r_0 cK_r_1
  have zK_r := K_r.out.lt
  go_wp2_with fail
  refine (falls_any _ _ _ _ _ _ xss l vars _ (G.out.keep (below_new _ _)) (I.out.keep (below_new _ _)) v0 v6 HC.out HLL.out r ha).mono ?_
  rintro e w2 ⟨rfl, hb2⟩
  obtain ⟨K_f0, B_w2, l_w2⟩ := blk1 hb2
  replace G := Lib.hid (G.out.keep B_w2)
  replace I := Lib.hid (I.out.keep B_w2)
  replace K_c := Lib.hid (K_c.out.keep B_w2)
  replace K_r := Lib.hid (K_r.out.keep B_w2)
  replace HB := Lib.hid (below_next HB.out B_w2)
  have K_f := Lib.hid K_f0
  clear hb2 B_w2 K_f0
  clear cK_c_0 cK_c_1 zK_c cK_r_0 cK_r_1 zK_r
  have cK_c_0 := K_c.out.cell 0
  have cK_c_1 := K_c.out.cell 1
  simp at cK_c_0 cK_c_1
  have zK_c := K_c.out.lt
  have cK_r_0 := K_r.out.cell 0
  have cK_r_1 := K_r.out.cell 1
  simp at cK_r_0 cK_r_1
  have zK_r := K_r.out.lt
  have cK_f_0 := K_f.out.cell 0
  have cK_f_1 := K_f.out.cell 1
  simp at cK_f_0 cK_f_1
  have zK_f := K_f.out.lt
  have fK_r_0 := K_r.out.frozen 0
  have fK_r_1 := K_r.out.frozen 1
  obtain ⟨q0, q1⟩ := K_r.out.put2 (.int .i64 0) (.int .i64 0)
  have Q0 := Lib.hid q0
  have Q1 := Lib.hid q1
  have BF := Lib.hid (below_put2 HB.out (g := w.heap.size + 1) (by omega) (.int .i64 0) (.int .i64 0))
  clear q0 q1
  go_wp2_with fail
  exact bodyPost_ret (v := .tuple #[.bool r, .agg #[.int .i64 0, .int .i64 0]]) (by simp [results, Try.results26, go_sem, Q0.out, Q1.out]) rfl ⟨rfl, BF.out⟩

end Go.Proofs.Ytabjbpkojbdgaaa
