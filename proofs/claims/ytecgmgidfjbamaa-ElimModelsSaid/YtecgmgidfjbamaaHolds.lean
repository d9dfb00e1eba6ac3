/- Contracts of cnf.Holds, of the reference's With, and of the law's pair. -/
import Derived.Test.YtecgmgidfjbamaaCnfB
import Derived.Test.YtecgmgidfjbamaaSat
namespace Go.Proofs.Ytecgmgidfjbamaa
open Go.RowKit

def withR (vars : Int) (xss : List (List Int)) (m : Nat) : Int × Int :=
  if (checkC vars xss).1 ≠ 0 then checkC vars xss else if (m : Int) ≠ vars then (9, -1) else (0, 0)

set_option maxHeartbeats 400000 in
theorem pair_any (w : World) : Calls Try.prog 18 #[] w (RetCnf 2 [[1, 2], [-1]] w) := by
  go_enter Try.func18, Try.ntmps18
  go_wp2_with fail
  have h1 := ints_made (w.alloc (.cells #[.int .i64 2, .slice (some ⟨w.heap.size + 1 + 1 + 1, 0, none⟩) 2 2] 24)) 3 [1, 2] (b := w.heap.size + 1) (by simp) (by simp [I64]) (by decide)
  have h2 := ints_made ((w.alloc (.cells #[.int .i64 2, .slice (some ⟨w.heap.size + 1 + 1 + 1, 0, none⟩) 2 2] 24)).alloc (.cells #[.int .i64 1, .int .i64 2] 3)) 3 [-1] (b := w.heap.size + 1 + 1) (by simp) (by simp [I64]) (by decide)
  exact bodyPost_ret (v := .agg #[.int .i64 2, .slice (some ⟨w.heap.size + 1 + 1 + 1, 0, none⟩) 2 2]) (by simp [results, Try.results18, go_sem]) rfl
    ⟨_, _, _, rfl, grid2 26 (by simp) (h1.keep (below_new _ _)) h2, below_alloc (below_alloc (below_alloc (below_new _ _) _) _) _⟩

set_option maxHeartbeats 1000000 in
theorem holds_any (A B : Option Addr) (n c m d : Nat) (xss : List (List Int)) (a : List Bool) (vars : Int) (w : World) (h : Grid w A n c xss) (hv : I64 vars) (h' : Bools w B m d a) (r1 r2 : Int) (hr : Hid (withR vars xss m = (r1, r2))) (q : Bool) (hq : Hid (q = (decide (r1 = 0) && allB xss a))) :
    Calls Try.prog 30 #[.agg #[.int .i64 vars, .slice A n c], .slice B m d] w (RetV (.tuple #[.bool q, .agg #[.int .i64 r1, .int .i64 r2]]) w) := by
  have hbd := h.bd
  have hbd' := h'.bd
  obtain ⟨p1, p2, hp⟩ : ∃ p1 p2, Hid (checkC vars xss = (p1, p2)) := ⟨_, _, rfl⟩
  have hk := h.keep (below_alloc (below_new w (.cells #[.int .i64 vars, .slice A n c] 24)) (.cells #[.int .i64 0, .int .i64 0] 28))
  have hk' := h'.keep (below_alloc (below_new w (.cells #[.int .i64 vars, .slice A n c] 24)) (.cells #[.int .i64 0, .int .i64 0] 28))
  go_enter Try.func30, Try.ntmps30
  go_wp2_with fail
  refine (check_own _ _ _ _ _ _ hk hv _ _ hp).mono ?_
  rintro e w1 ⟨rfl, hb1⟩
  obtain ⟨hK1, hK2, B1, l1⟩ := two_blks hb1
  have c0 := hK1.cell 0
  have c1 := hK1.cell 1
  have e0 := hK2.cell 0
  have e1 := hK2.cell 1
  have f0 := hK2.frozen 0
  have f1 := hK2.frozen 1
  simp at c0 c1 e0 e1
  have l2 : w.heap.size < w1.heap.size := by omega
  have l3 : w.heap.size + 1 < w1.heap.size := by omega
  have HB := Lib.hid B1
  have HK2 := Lib.hid hK2
  have g1 := hk.keep hb1
  have g1' := hk'.keep hb1
  clear hb1 B1 hK1 hK2
  by_cases hp1 : p1 = 0
  · subst hp1
    have hok := checkC_ok (vars := vars) (xss := xss) (by rw [hp.out])
    obtain ⟨hok0, v0, v1, _, hok2⟩ := hok
    have hr2 : Hid ((if (m : Int) ≠ vars then ((9 : Int), (-1 : Int)) else (0, 0)) = (r1, r2)) := by
      have := hr.out
      rw [withR, hp.out, if_neg (by simp)] at this
      exact this
    clear hok0 hr
    by_cases hmv : (m : Int) = vars
    · have : (0, 0) = (r1, r2) := by rw [← hr2.out, if_neg (by simpa using hmv)]
      obtain ⟨e1', e2'⟩ : (0 : Int) = r1 ∧ (0 : Int) = r2 := by simpa using this
      subst e1' e2'
      have hq2 : Hid (allB xss a = q) := by rw [hq.out]; simp [Hid]
      have HI : Hid (∀ xs ∈ xss, InLits m xs) := fun xs hx => (hok2 xs hx).2.inLits hmv
      have d1 : ((m : Int) != vars) = false := by simpa using hmv
      have G1 := g1.keep (below_new w1 (.cells #[.int .i64 0, .int .i64 p2] 28))
      have G1' := g1'.keep (below_new w1 (.cells #[.int .i64 0, .int .i64 p2] 28))
      have HMV := Lib.hid hmv
      clear hok2 this hmv hr2
      go_wp2_with fail
      refine (all_own _ _ _ _ _ _ _ _ _ G1 G1' HI.out _ hq2).mono ?_
      rintro e w2 ⟨rfl, hb2⟩
      have B2 := (below_box hb2).1
      have HK3 := Lib.hid (HK2.out.keep B2)
      have HB3 := Lib.hid (below_next HB.out B2)
      have t0 := HK3.out.cell 0
      have t1 := HK3.out.cell 1
      have t2 := HK3.out.frozen 0
      have t3 := HK3.out.frozen 1
      simp at t0 t1
      obtain ⟨q0, q1⟩ := HK3.out.put2 (.int .i64 0) (.int .i64 0)
      have Q0 := Lib.hid q0
      have Q1 := Lib.hid q1
      have BF := Lib.hid (below_put2 HB3.out (g := w.heap.size + 1) (by omega) (.int .i64 0) (.int .i64 0))
      clear q0 q1 hb2 B2
      go_wp2_with fail
      exact bodyPost_ret (v := .tuple #[.bool q, .agg #[.int .i64 0, .int .i64 0]]) (by simp [results, Try.results30, go_sem, Q0.out, Q1.out]) rfl ⟨rfl, BF.out⟩
    · have : ((9 : Int), (-1 : Int)) = (r1, r2) := by rw [← hr2.out, if_pos hmv]
      obtain ⟨e1', e2'⟩ : (9 : Int) = r1 ∧ (-1 : Int) = r2 := by simpa using this
      subst e1' e2'
      obtain rfl : q = false := by rw [hq.out]; simp
      have d1 : ((m : Int) != vars) = true := by simpa using hmv
      clear hok2 this hmv hr2
      go_wp2_with fail
      refine bodyPost_ret (v := .tuple #[.bool false, .agg #[.int .i64 9, .int .i64 (-1)]]) (by simp [results, Try.results30, go_sem, e0, e1, l3]) rfl ⟨rfl, ?_⟩
      exact (below_put2 HB.out (g := w.heap.size + 1) (by omega) _ _).alloc (by simp; omega) _
  · have : (p1, p2) = (r1, r2) := by rw [← hr.out, withR, hp.out, if_pos hp1]
    obtain ⟨e1', e2'⟩ : p1 = r1 ∧ p2 = r2 := by simpa using this
    subst e1' e2'
    obtain rfl : q = false := by rw [hq.out]; simp [hp1]
    have d1 : (p1 != 0) = true := by simpa using hp1
    clear this
    go_wp2_with fail
    go_region
    go_wp2_with fail
    refine bodyPost_ret (v := .tuple #[.bool false, .agg #[.int .i64 p1, .int .i64 p2]]) (by simp [results, Try.results30, go_sem, e0, e1, l3]) rfl ⟨rfl, ?_⟩
    exact ((below_put2 HB.out (g := w.heap.size + 1) (by omega) _ _).alloc (by simp; omega) _).drew

end Go.Proofs.Ytecgmgidfjbamaa
