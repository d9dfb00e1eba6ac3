/- Contracts of package prop (Do, Why, Falls, Probe), and of the law's heavy. (Printed by wip/tools/prop.py.) -/
import Derived.Test.YtghebbkpdldjfaaUnitRun
import Derived.Test.YtghebbkpdldjfaaBoth
import Derived.Test.YtghebbkpdldjfaaBoxes
namespace Go.Proofs.Ytghebbkpdldjfaa
open Go.RowKit

theorem heavy_any (A : Option Addr) (n c : Nat) (vars : Int) (w : World) (hn : n ≤ 9223372036854775807) (r : Bool) (hr : Hid ((decide (40 < vars) || decide (60 < (n : Int))) = r)) :
    Calls Try.prog 17 #[.agg #[.int .i64 vars, .slice A n c]] w (RetV (.bool r) w) := by
  by_cases h1 : 40 < vars
  · have d1 : decide (40 < vars) = true := decide_eq_true h1
    have : true = r := by rw [← hr.out, d1]; rfl
    subst this
    go_enter Try.func17, Try.ntmps17
    go_wp2_with fail
    go_ret
    exact ⟨rfl, below_new _ _⟩
  · have d1 : decide (40 < vars) = false := decide_eq_false h1
    by_cases h2 : 60 < (n : Int)
    · have d2 : decide (60 < (n : Int)) = true := decide_eq_true h2
      have : true = r := by rw [← hr.out, d1, d2]; rfl
      subst this
      have h3 : 60 < n := by omega
      go_enter Try.func17, Try.ntmps17
      go_wp2_with fail
      go_ret
      exact ⟨rfl, below_new _ _⟩
    · have d2 : decide (60 < (n : Int)) = false := decide_eq_false h2
      have : false = r := by rw [← hr.out, d1, d2]; rfl
      subst this
      have h3 : ¬ 60 < n := by omega
      go_enter Try.func17, Try.ntmps17
      go_wp2_with fail
      go_ret
      exact ⟨rfl, below_new _ _⟩

/-- Rows and a number, and no fault. -/
def RetDo (t : List Int) (a : Int) (w : World) (e : Ending) (w' : World) : Prop :=
  ∃ L nl cl, e = .returned (.tuple #[.slice L nl cl, .int .i64 a, .agg #[.int .i64 0, .int .i64 0]]) ∧ Ints w' L nl cl t ∧ Below w.heap.size w w'
def RetRow (t : List Int) (w : World) (e : Ending) (w' : World) : Prop :=
  ∃ L nl cl, e = .returned (.tuple #[.slice L nl cl, .agg #[.int .i64 0, .int .i64 0]]) ∧ Ints w' L nl cl t ∧ Below w.heap.size w w'
theorem ask_i64 {vars : Int} {xss : List (List Int)} {q t y : List Int} {a : Int} (v0 : 0 ≤ vars) (v1 : vars ≤ 1000000) (hc : ∀ x ∈ xss, Lits vars x) (hl : Lits vars q) (hn : xss.length ≤ 1000000) (hr : askF vars xss q = (t, y, a)) : (∀ x ∈ t, I64 x) ∧ ∀ x ∈ y, I64 x := by
  have h := runF_ok v0 hc (vars.toNat + 1) q (q.map fun _ => -1) hl (by omega)
  unfold askF at hr
  rw [hr] at h
  refine ⟨fun x hx => ?_, fun x hx => ?_⟩
  · have := h.lits.1 x hx
    unfold I64; omega
  · have := h.why (fun k hk => by obtain ⟨_, _, rfl⟩ := List.mem_map.1 hk; omega) x hx
    unfold I64; omega

set_option maxHeartbeats 1000000 in
theorem propDo_wrong (A B : Option Addr) (n c m d : Nat) (xss : List (List Int)) (l : List Int) (vars : Int) (w : World) (h : Grid w A n c xss) (hv : I64 vars) (h' : Ints w B m d l) (r1 r2 : Int) (hr : Hid (besideR vars xss l = (r1, r2))) (h0 : r1 ≠ 0) :
    Calls Try.prog 18 #[.agg #[.int .i64 vars, .slice A n c], .slice B m d] w (RetV (.tuple #[.slice none 0 0, .int .i64 0, .agg #[.int .i64 r1, .int .i64 r2]]) w) := by
  have d1 : (r1 != 0) = true := by simpa using h0
  have hbW : Below w.heap.size w ((w.alloc (.cells #[.int .i64 vars, .slice A n c] 24)).alloc (.cells #[.int .i64 0, .int .i64 0] 28)) := (below_alloc (below_new _ _) _)
  have g := h.keep hbW
  have g' := h'.keep hbW
  have HBW := Lib.hid hbW
  clear hbW
  go_enter Try.func18, Try.ntmps18
  go_wp2_with fail
  refine (both_any _ _ _ _ _ _ _ _ _ _ g hv g' _ _ hr).mono ?_
  rintro e w1 ⟨rfl, hb1⟩
  obtain ⟨k3, k4, _, l1⟩ := two_blks hb1
  have t0 := k4.cell 0
  have t1 := k4.cell 1
  have tf0 := k4.frozen 0
  have tf1 := k4.frozen 1
  simp at t0 t1
  have HB := Lib.hid (below_next HBW.out hb1)
  have l3 : w.heap.size + 1 < w1.heap.size := by omega
  clear hb1 k3 k4 g g'
  go_wp2_with fail
  go_region
  go_wp2_with fail
  refine bodyPost_ret (v := .tuple #[.slice none 0 0, .int .i64 0, .agg #[.int .i64 r1, .int .i64 r2]]) (by simp [results, Try.results18, go_sem, t0, t1, l3]) rfl ⟨rfl, ?_⟩
  exact ((below_put2 HB.out (g := w.heap.size + 1) (by omega) _ _).alloc (by simp; omega) _).drew

set_option maxHeartbeats 1000000 in
theorem propWhy_wrong (A B : Option Addr) (n c m d : Nat) (xss : List (List Int)) (l : List Int) (vars : Int) (w : World) (h : Grid w A n c xss) (hv : I64 vars) (h' : Ints w B m d l) (r1 r2 : Int) (hr : Hid (besideR vars xss l = (r1, r2))) (h0 : r1 ≠ 0) :
    Calls Try.prog 22 #[.agg #[.int .i64 vars, .slice A n c], .slice B m d] w (RetV (.tuple #[.slice none 0 0, .agg #[.int .i64 r1, .int .i64 r2]]) w) := by
  have d1 : (r1 != 0) = true := by simpa using h0
  have hbW : Below w.heap.size w ((w.alloc (.cells #[.int .i64 vars, .slice A n c] 24)).alloc (.cells #[.int .i64 0, .int .i64 0] 28)) := (below_alloc (below_new _ _) _)
  have g := h.keep hbW
  have g' := h'.keep hbW
  have HBW := Lib.hid hbW
  clear hbW
  go_enter Try.func22, Try.ntmps22
  go_wp2_with fail
  refine (both_any _ _ _ _ _ _ _ _ _ _ g hv g' _ _ hr).mono ?_
  rintro e w1 ⟨rfl, hb1⟩
  obtain ⟨k3, k4, _, l1⟩ := two_blks hb1
  have t0 := k4.cell 0
  have t1 := k4.cell 1
  have tf0 := k4.frozen 0
  have tf1 := k4.frozen 1
  simp at t0 t1
  have HB := Lib.hid (below_next HBW.out hb1)
  have l3 : w.heap.size + 1 < w1.heap.size := by omega
  clear hb1 k3 k4 g g'
  go_wp2_with fail
  go_region
  go_wp2_with fail
  refine bodyPost_ret (v := .tuple #[.slice none 0 0, .agg #[.int .i64 r1, .int .i64 r2]]) (by simp [results, Try.results22, go_sem, t0, t1, l3]) rfl ⟨rfl, ?_⟩
  exact ((below_put2 HB.out (g := w.heap.size + 1) (by omega) _ _).alloc (by simp; omega) _).drew

set_option maxHeartbeats 1000000 in
theorem propFalls_wrong (A B : Option Addr) (n c m d : Nat) (xss : List (List Int)) (l : List Int) (vars : Int) (w : World) (h : Grid w A n c xss) (hv : I64 vars) (h' : Ints w B m d l) (r1 r2 : Int) (hr : Hid (besideR vars xss l = (r1, r2))) (h0 : r1 ≠ 0) :
    Calls Try.prog 28 #[.agg #[.int .i64 vars, .slice A n c], .slice B m d] w (RetV (.tuple #[.bool false, .agg #[.int .i64 r1, .int .i64 r2]]) w) := by
  have d1 : (r1 != 0) = true := by simpa using h0
  have hbW : Below w.heap.size w ((w.alloc (.cells #[.int .i64 vars, .slice A n c] 24)).alloc (.cells #[.int .i64 0, .int .i64 0] 28)) := (below_alloc (below_new _ _) _)
  have g := h.keep hbW
  have g' := h'.keep hbW
  have HBW := Lib.hid hbW
  clear hbW
  go_enter Try.func28, Try.ntmps28
  go_wp2_with fail
  refine (both_any _ _ _ _ _ _ _ _ _ _ g hv g' _ _ hr).mono ?_
  rintro e w1 ⟨rfl, hb1⟩
  obtain ⟨k3, k4, _, l1⟩ := two_blks hb1
  have t0 := k4.cell 0
  have t1 := k4.cell 1
  have tf0 := k4.frozen 0
  have tf1 := k4.frozen 1
  simp at t0 t1
  have HB := Lib.hid (below_next HBW.out hb1)
  have l3 : w.heap.size + 1 < w1.heap.size := by omega
  clear hb1 k3 k4 g g'
  go_wp2_with fail
  go_region
  go_wp2_with fail
  refine bodyPost_ret (v := .tuple #[.bool false, .agg #[.int .i64 r1, .int .i64 r2]]) (by simp [results, Try.results28, go_sem, t0, t1, l3]) rfl ⟨rfl, ?_⟩
  exact ((below_put2 HB.out (g := w.heap.size + 1) (by omega) _ _).alloc (by simp; omega) _).drew

set_option maxHeartbeats 2000000 in
theorem propDo_own (A B : Option Addr) (n c m d : Nat) (xss : List (List Int)) (l : List Int) (vars : Int) (w : World) (h : Grid w A n c xss) (hv : I64 vars) (h' : Ints w B m d l) (hr : Hid (besideR vars xss l = (0, 0))) (t y : List Int) (a : Int) (ha : Hid (askF vars xss l = (t, y, a))) :
    Calls Try.prog 18 #[.agg #[.int .i64 vars, .slice A n c], .slice B m d] w (RetDo t a w) := by
  obtain ⟨_, hc0, hll⟩ := besideR_ok (vars := vars) (xss := xss) (l := l) (by rw [hr.out])
  obtain ⟨_, v0, v1, hn400, hrows⟩ := checkC_ok hc0
  have v6 : vars ≤ 1000000 := by omega
  have HC : Hid (∀ x ∈ xss, Lits vars x) := fun x hx => (hrows x hx).2
  have HLL := Lib.hid hll
  have HN : Hid (xss.length ≤ 1000000) := by show _ ≤ _; omega
  have G := Lib.hid h
  have I := Lib.hid h'
  clear hrows hc0 hll hn400 h h'
  go_enter Try.func18, Try.ntmps18
  go_wp2_with fail
  refine (both_any _ _ _ _ _ _ _ _ _ _ (G.out.keep (below_alloc (below_new _ _) _)) hv (I.out.keep (below_alloc (below_new _ _) _)) _ _ hr).mono ?_
  rintro e w1 ⟨rfl, hb1⟩
  obtain ⟨K_c0, K_r0, B_w1, l_w1⟩ := two_blks hb1
  replace G := Lib.hid (G.out.keep B_w1)
  replace I := Lib.hid (I.out.keep B_w1)
  have HB := Lib.hid B_w1
  have K_c := Lib.hid K_c0
  have K_r := Lib.hid K_r0
  clear hb1 B_w1 K_c0 K_r0
  have cK_c_0 := K_c.out.cell 0
  have cK_c_1 := K_c.out.cell 1
  simp at cK_c_0 cK_c_1
  have zK_c := K_c.out.lt
  have cK_r_0 := K_r.out.cell 0
  have cK_r_1 := K_r.out.cell 1
  simp at cK_r_0 cK_r_1
  have zK_r := K_r.out.lt
  go_wp2_with fail
  refine (assume_any _ _ _ _ _ _ xss l vars _ (G.out.keep (below_new _ _)) (I.out.keep (below_new _ _)) v0 v6 HC.out HLL.out t y a ha).mono ?_
  rintro e w2 ⟨g, gm, L, cl, Y, cy, D, rfl, hst⟩
  have HST := Lib.hid hst
  have hb2 := hst.bl
  clear hst
  obtain ⟨K_f0, B_w2, l_w2⟩ := blk1 hb2
  replace G := Lib.hid (G.out.keep B_w2)
  replace I := Lib.hid (I.out.keep B_w2)
  replace K_c := Lib.hid (K_c.out.keep B_w2)
  replace K_r := Lib.hid (K_r.out.keep B_w2)
  replace HB := Lib.hid (below_next HB.out B_w2)
  have K_f := Lib.hid K_f0
  clear hb2 B_w2 K_f0
  clear cK_c_0 cK_c_1 zK_c cK_r_0 cK_r_1 zK_r
  have cK_c_0 := K_c.out.cell 0
  have cK_c_1 := K_c.out.cell 1
  simp at cK_c_0 cK_c_1
  have zK_c := K_c.out.lt
  have cK_r_0 := K_r.out.cell 0
  have cK_r_1 := K_r.out.cell 1
  simp at cK_r_0 cK_r_1
  have zK_r := K_r.out.lt
  have cK_f_0 := K_f.out.cell 0
  have cK_f_1 := K_f.out.cell 1
  simp at cK_f_0 cK_f_1
  have zK_f := K_f.out.lt
  have tc := HST.out.tb.cell 1
  simp at tc
  have hii := HST.out.lits.ints (ask_i64 v0 v6 HC.out HLL.out HN.out ha.out).1
  have fK_r_0 := K_r.out.frozen 0
  have fK_r_1 := K_r.out.frozen 1
  obtain ⟨q0, q1⟩ := K_r.out.put2 (.int .i64 0) (.int .i64 0)
  have Q0 := Lib.hid q0
  have Q1 := Lib.hid q1
  have BF := Lib.hid (below_put2 HB.out (g := w.heap.size + 1) (by omega) (.int .i64 0) (.int .i64 0))
  clear q0 q1
  have HII : Hid (Ints ((w2.setCell ⟨w.heap.size + 1, 0, none⟩ (.int .i64 0)).setCell ⟨w.heap.size + 1, 1, none⟩ (.int .i64 0)) L t.length cl t) := by
    have ne := HST.out.lits.geb (k := w.heap.size + 1) (by simp; omega)
    exact (hii.kept (grown_setCell _ ⟨w.heap.size + 1, 0, none⟩ _) ne).kept (grown_setCell _ ⟨w.heap.size + 1, 1, none⟩ _) ne
  clear hii
  go_wp2_with fail
  exact bodyPost_ret (v := .tuple #[.slice L t.length cl, .int .i64 a, .agg #[.int .i64 0, .int .i64 0]]) (by simp [results, Try.results18, go_sem, Q0.out, Q1.out]) rfl ⟨L, t.length, cl, rfl, HII.out, BF.out⟩

set_option maxHeartbeats 2000000 in
theorem propWhy_own (A B : Option Addr) (n c m d : Nat) (xss : List (List Int)) (l : List Int) (vars : Int) (w : World) (h : Grid w A n c xss) (hv : I64 vars) (h' : Ints w B m d l) (hr : Hid (besideR vars xss l = (0, 0))) (t y : List Int) (a : Int) (ha : Hid (askF vars xss l = (t, y, a))) :
    Calls Try.prog 22 #[.agg #[.int .i64 vars, .slice A n c], .slice B m d] w (RetRow y w) := by
  obtain ⟨_, hc0, hll⟩ := besideR_ok (vars := vars) (xss := xss) (l := l) (by rw [hr.out])
  obtain ⟨_, v0, v1, hn400, hrows⟩ := checkC_ok hc0
  have v6 : vars ≤ 1000000 := by omega
  have HC : Hid (∀ x ∈ xss, Lits vars x) := fun x hx => (hrows x hx).2
  have HLL := Lib.hid hll
  have HN : Hid (xss.length ≤ 1000000) := by show _ ≤ _; omega
  have G := Lib.hid h
  have I := Lib.hid h'
  clear hrows hc0 hll hn400 h h'
  go_enter Try.func22, Try.ntmps22
  go_wp2_with fail
  refine (both_any _ _ _ _ _ _ _ _ _ _ (G.out.keep (below_alloc (below_new _ _) _)) hv (I.out.keep (below_alloc (below_new _ _) _)) _ _ hr).mono ?_
  rintro e w1 ⟨rfl, hb1⟩
  obtain ⟨K_c0, K_r0, B_w1, l_w1⟩ := two_blks hb1
  replace G := Lib.hid (G.out.keep B_w1)
  replace I := Lib.hid (I.out.keep B_w1)
  have HB := Lib.hid B_w1
  have K_c := Lib.hid K_c0
  have K_r := Lib.hid K_r0
  clear hb1 B_w1 K_c0 K_r0
  have cK_c_0 := K_c.out.cell 0
  have cK_c_1 := K_c.out.cell 1
  simp at cK_c_0 cK_c_1
  have zK_c := K_c.out.lt
  have cK_r_0 := K_r.out.cell 0
  have cK_r_1 := K_r.out.cell 1
  simp at cK_r_0 cK_r_1
  have zK_r := K_r.out.lt
  go_wp2_with fail
  refine (assume_any _ _ _ _ _ _ xss l vars _ (G.out.keep (below_new _ _)) (I.out.keep (below_new _ _)) v0 v6 HC.out HLL.out t y a ha).mono ?_
  rintro e w2 ⟨g, gm, L, cl, Y, cy, D, rfl, hst⟩
  have HST := Lib.hid hst
  have hb2 := hst.bl
  clear hst
  obtain ⟨K_f0, B_w2, l_w2⟩ := blk1 hb2
  replace G := Lib.hid (G.out.keep B_w2)
  replace I := Lib.hid (I.out.keep B_w2)
  replace K_c := Lib.hid (K_c.out.keep B_w2)
  replace K_r := Lib.hid (K_r.out.keep B_w2)
  replace HB := Lib.hid (below_next HB.out B_w2)
  have K_f := Lib.hid K_f0
  clear hb2 B_w2 K_f0
  clear cK_c_0 cK_c_1 zK_c cK_r_0 cK_r_1 zK_r
  have cK_c_0 := K_c.out.cell 0
  have cK_c_1 := K_c.out.cell 1
  simp at cK_c_0 cK_c_1
  have zK_c := K_c.out.lt
  have cK_r_0 := K_r.out.cell 0
  have cK_r_1 := K_r.out.cell 1
  simp at cK_r_0 cK_r_1
  have zK_r := K_r.out.lt
  have cK_f_0 := K_f.out.cell 0
  have cK_f_1 := K_f.out.cell 1
  simp at cK_f_0 cK_f_1
  have zK_f := K_f.out.lt
  have tc := HST.out.tb.cell 2
  simp at tc
  have hii := HST.out.why.ints (ask_i64 v0 v6 HC.out HLL.out HN.out ha.out).2
  have fK_r_0 := K_r.out.frozen 0
  have fK_r_1 := K_r.out.frozen 1
  obtain ⟨q0, q1⟩ := K_r.out.put2 (.int .i64 0) (.int .i64 0)
  have Q0 := Lib.hid q0
  have Q1 := Lib.hid q1
  have BF := Lib.hid (below_put2 HB.out (g := w.heap.size + 1) (by omega) (.int .i64 0) (.int .i64 0))
  clear q0 q1
  have HII : Hid (Ints ((w2.setCell ⟨w.heap.size + 1, 0, none⟩ (.int .i64 0)).setCell ⟨w.heap.size + 1, 1, none⟩ (.int .i64 0)) Y y.length cy y) := by
    have ne := HST.out.why.geb (k := w.heap.size + 1) (by simp; omega)
    exact (hii.kept (grown_setCell _ ⟨w.heap.size + 1, 0, none⟩ _) ne).kept (grown_setCell _ ⟨w.heap.size + 1, 1, none⟩ _) ne
  clear hii
  go_wp2_with fail
  exact bodyPost_ret (v := .tuple #[.slice Y y.length cy, .agg #[.int .i64 0, .int .i64 0]]) (by simp [results, Try.results22, go_sem, Q0.out, Q1.out]) rfl ⟨Y, y.length, cy, rfl, HII.out, BF.out⟩

set_option maxHeartbeats 2000000 in
theorem propFalls_own (A B : Option Addr) (n c m d : Nat) (xss : List (List Int)) (l : List Int) (vars : Int) (w : World) (h : Grid w A n c xss) (hv : I64 vars) (h' : Ints w B m d l) (hr : Hid (besideR vars xss l = (0, 0))) (r : Bool) (ha : Hid (fallsF vars xss l = r)) :
    Calls Try.prog 28 #[.agg #[.int .i64 vars, .slice A n c], .slice B m d] w (RetV (.tuple #[.bool r, .agg #[.int .i64 0, .int .i64 0]]) w) := by
  obtain ⟨_, hc0, hll⟩ := besideR_ok (vars := vars) (xss := xss) (l := l) (by rw [hr.out])
  obtain ⟨_, v0, v1, hn400, hrows⟩ := checkC_ok hc0
  have v6 : vars ≤ 1000000 := by omega
  have HC : Hid (∀ x ∈ xss, Lits vars x) := fun x hx => (hrows x hx).2
  have HLL := Lib.hid hll
  have HN : Hid (xss.length ≤ 1000000) := by show _ ≤ _; omega
  have G := Lib.hid h
  have I := Lib.hid h'
  clear hrows hc0 hll hn400 h h'
  go_enter Try.func28, Try.ntmps28
  go_wp2_with fail
  refine (both_any _ _ _ _ _ _ _ _ _ _ (G.out.keep (below_alloc (below_new _ _) _)) hv (I.out.keep (below_alloc (below_new _ _) _)) _ _ hr).mono ?_
  rintro e w1 ⟨rfl, hb1⟩
  obtain ⟨K_c0, K_r0, B_w1, l_w1⟩ := two_blks hb1
  replace G := Lib.hid (G.out.keep B_w1)
  replace I := Lib.hid (I.out.keep B_w1)
  have HB := Lib.hid B_w1
  have K_c := Lib.hid K_c0
  have K_r := Lib.hid K_r0
  clear hb1 B_w1 K_c0 K_r0
  have cK_c_0 := K_c.out.cell 0
  have cK_c_1 := K_c.out.cell 1
  simp at cK_c_0 cK_c_1
  have zK_c := K_c.out.lt
  have cK_r_0 := K_r.out.cell 0
  have cK_r_1 := K_r.out.cell 1
  simp at cK_r_0 cK_r_1
  have zK_r := K_r.out.lt
  go_wp2_with fail
  refine (falls_any _ _ _ _ _ _ xss l vars _ (G.out.keep (below_new _ _)) (I.out.keep (below_new _ _)) v0 v6 HC.out HLL.out r ha).mono ?_
  rintro e w2 ⟨rfl, hb2⟩
  obtain ⟨K_f0, B_w2, l_w2⟩ := blk1 hb2
  replace G := Lib.hid (G.out.keep B_w2)
  replace I := Lib.hid (I.out.keep B_w2)
  replace K_c := Lib.hid (K_c.out.keep B_w2)
  replace K_r := Lib.hid (K_r.out.keep B_w2)
  replace HB := Lib.hid (below_next HB.out B_w2)
  have K_f := Lib.hid K_f0
  clear hb2 B_w2 K_f0
  clear cK_c_0 cK_c_1 zK_c cK_r_0 cK_r_1 zK_r
  have cK_c_0 := K_c.out.cell 0
  have cK_c_1 := K_c.out.cell 1
  simp at cK_c_0 cK_c_1
  have zK_c := K_c.out.lt
  have cK_r_0 := K_r.out.cell 0
  have cK_r_1 := K_r.out.cell 1
  simp at cK_r_0 cK_r_1
  have zK_r := K_r.out.lt
  have cK_f_0 := K_f.out.cell 0
  have cK_f_1 := K_f.out.cell 1
  simp at cK_f_0 cK_f_1
  have zK_f := K_f.out.lt
  have fK_r_0 := K_r.out.frozen 0
  have fK_r_1 := K_r.out.frozen 1
  obtain ⟨q0, q1⟩ := K_r.out.put2 (.int .i64 0) (.int .i64 0)
  have Q0 := Lib.hid q0
  have Q1 := Lib.hid q1
  have BF := Lib.hid (below_put2 HB.out (g := w.heap.size + 1) (by omega) (.int .i64 0) (.int .i64 0))
  clear q0 q1
  go_wp2_with fail
  exact bodyPost_ret (v := .tuple #[.bool r, .agg #[.int .i64 0, .int .i64 0]]) (by simp [results, Try.results28, go_sem, Q0.out, Q1.out]) rfl ⟨rfl, BF.out⟩

end Go.Proofs.Ytghebbkpdldjfaa
