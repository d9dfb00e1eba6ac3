/- Contracts of cnf.List, cnf.Both; of the reference's Beside, Rows, Cnfs; of the law's none. -/
import Derived.Test.YtlfgcblijfflfaaGreatCnfB
import Derived.Test.YtlfgcblijfflfaaGreatClean
import Derived.Test.YtlfgcblijfflfaaGreatSatPlain
import Derived.Test.YtlfgcblijfflfaaGreatClone
namespace Go.Proofs.YtlfgcblijfflfaaGreat
open Go.RowKit

def listR (vars : Int) (l : List Int) : Int × Int := if (badF vars [] l).2 ≠ 0 then ((badF vars [] l).2, -1 - (badF vars [] l).1) else (0, 0)
/-- What is wrong with clauses and literals beside them. -/
def besideR (vars : Int) (xss : List (List Int)) (l : List Int) : Int × Int := if (checkC vars xss).1 ≠ 0 then checkC vars xss else listR vars l
theorem besideR_ok {vars : Int} {xss : List (List Int)} {l : List Int} (h : (besideR vars xss l).1 = 0) : besideR vars xss l = (0, 0) ∧ (checkC vars xss).1 = 0 ∧ Lits vars l := by
  unfold besideR at h ⊢
  by_cases h1 : (checkC vars xss).1 ≠ 0
  · rw [if_pos h1] at h; exact absurd h h1
  · rw [if_neg h1] at h ⊢
    unfold listR at h ⊢
    by_cases h2 : (badF vars [] l).2 ≠ 0
    · rw [if_pos h2] at h; exact absurd h h2
    · rw [if_neg h2]
      exact ⟨rfl, by simpa using h1, (badF_lits (by simpa using h2)).2⟩

set_option maxHeartbeats 400000 in
theorem list_any (A : Option Addr) (n c : Nat) (xs : List Int) (vars : Int) (w : World) (h : Ints w A n c xs) (v0 : 0 ≤ vars) (v1 : vars ≤ 1000000) (r1 r2 : Int) (hr : Hid (listR vars xs = (r1, r2))) :
    Calls Tryz.prog 71 #[.slice A n c, .int .i64 vars] w (RetV (.agg #[.int .i64 r1, .int .i64 r2]) w) := by
  have hbd := h.bd
  have hl := Lib.hid h.len
  obtain ⟨p1, p2, hp⟩ : ∃ p1 p2, Hid (badF vars [] xs = (p1, p2)) := ⟨_, _, rfl⟩
  have hr2 : Hid ((if p2 ≠ 0 then (p2, -1 - p1) else (0, 0)) = (r1, r2)) := by
    have := hr.out
    rw [listR, hp.out] at this
    exact this
  have hp1 : 0 ≤ p1 ∧ p1 ≤ n := by
    have := badF_pos vars xs []
    rw [hp.out, hl.out] at this
    simpa using this
  clear hr
  go_enter Tryz.func71, Tryz.ntmps71
  go_wp2_with fail
  refine (bad_any _ _ _ _ _ _ (h.keep (below_new _ _)) v0 v1 _ _ hp).mono ?_
  rintro e w1 ⟨rfl, hb1⟩
  have hK := (Blk.new w 28 #[.int .i64 0, .int .i64 0]).keep hb1
  have e0 := hK.cell 0
  have e1 := hK.cell 1
  have f0 := hK.frozen 0
  have f1 := hK.frozen 1
  simp at e0 e1
  have HB := Lib.hid (below_box hb1).1
  have HK := Lib.hid hK
  clear hb1 hK
  by_cases hp2 : p2 = 0
  · subst hp2
    have : ((0 : Int), (0 : Int)) = (r1, r2) := by rw [← hr2.out, if_neg (by simp)]
    obtain ⟨h1, h2⟩ : (0 : Int) = r1 ∧ (0 : Int) = r2 := by simpa using this
    subst h1 h2
    obtain ⟨q0, q1⟩ := HK.out.put2 (.int .i64 0) (.int .i64 0)
    have Q0 := Lib.hid q0
    have Q1 := Lib.hid q1
    have BF := Lib.hid (below_put2 HB.out (g := w.heap.size) (by omega) (.int .i64 0) (.int .i64 0))
    clear q0 q1 this
    go_wp2_with fail
    exact bodyPost_ret (v := .agg #[.int .i64 0, .int .i64 0]) (by simp [results, Tryz.results71, go_sem, Q0.out, Q1.out]) rfl ⟨rfl, BF.out⟩
  · have : (p2, -1 - p1) = (r1, r2) := by rw [← hr2.out, if_pos hp2]
    obtain ⟨h1, h2⟩ : p2 = r1 ∧ -1 - p1 = r2 := by simpa using this
    subst h1 h2
    have d3 : (p2 != 0) = true := by simpa using hp2
    obtain ⟨q0, q1⟩ := HK.out.put2 (.int .i64 p2) (.int .i64 (-1 - p1))
    have Q0 := Lib.hid q0
    have Q1 := Lib.hid q1
    have BF := Lib.hid (below_put2 HB.out (g := w.heap.size) (by omega) (.int .i64 p2) (.int .i64 (-1 - p1)))
    clear q0 q1 this
    go_wp2_with fail
    exact bodyPost_ret (v := .agg #[.int .i64 p2, .int .i64 (-1 - p1)]) (by simp [results, Tryz.results71, go_sem, Q0.out, Q1.out]) rfl ⟨rfl, BF.out⟩

set_option maxHeartbeats 1000000 in
theorem both_any (A B : Option Addr) (n c m d : Nat) (xss : List (List Int)) (l : List Int) (vars : Int) (w : World) (h : Grid w A n c xss) (hv : I64 vars) (h' : Ints w B m d l) (r1 r2 : Int) (hr : Hid (besideR vars xss l = (r1, r2))) :
    Calls Tryz.prog 38 #[.agg #[.int .i64 vars, .slice A n c], .slice B m d] w (RetV (.agg #[.int .i64 r1, .int .i64 r2]) w) := by
  have hbd := h.bd
  obtain ⟨p1, p2, hp⟩ : ∃ p1 p2, Hid (checkC vars xss = (p1, p2)) := ⟨_, _, rfl⟩
  have hk := h.keep (below_alloc (below_new w (.cells #[.int .i64 vars, .slice A n c] 25)) (.cells #[.int .i64 0, .int .i64 0] 28))
  have hk' := h'.keep (below_alloc (below_new w (.cells #[.int .i64 vars, .slice A n c] 25)) (.cells #[.int .i64 0, .int .i64 0] 28))
  go_enter Tryz.func38, Tryz.ntmps38
  go_wp2_with fail
  refine (check_own _ _ _ _ _ _ hk hv _ _ hp).mono ?_
  rintro e w1 ⟨rfl, hb1⟩
  obtain ⟨hK1, hK2, B1, l1⟩ := two_blks hb1
  have c0 := hK1.cell 0
  have c1 := hK1.cell 1
  have e0 := hK2.cell 0
  have e1 := hK2.cell 1
  have f0 := hK2.frozen 0
  have f1 := hK2.frozen 1
  simp at c0 c1 e0 e1
  have l2 : w.heap.size < w1.heap.size := by omega
  have l3 : w.heap.size + 1 < w1.heap.size := by omega
  have HB := Lib.hid B1
  have HK2 := Lib.hid hK2
  have g1' := (hk'.keep hb1).keep (below_new w1 (.cells #[.int .i64 p1, .int .i64 p2] 28))
  clear hb1 B1 hK1 hK2
  by_cases hp1 : p1 = 0
  · subst hp1
    obtain ⟨_, v0, v1, _, _⟩ := checkC_ok (vars := vars) (xss := xss) (by rw [hp.out])
    have hr2 : Hid (listR vars l = (r1, r2)) := by
      have := hr.out
      rw [besideR, hp.out, if_neg (by simp)] at this
      exact this
    clear hr
    go_wp2_with fail
    refine (list_any _ _ _ _ _ _ g1' (by omega) (by omega) _ _ hr2).mono ?_
    rintro e w2 ⟨rfl, hb2⟩
    have B2 := (below_box hb2).1
    have HK3 := Lib.hid (HK2.out.keep B2)
    have HB3 := Lib.hid (below_next HB.out B2)
    have t0 := HK3.out.cell 0
    have t1 := HK3.out.cell 1
    have t2 := HK3.out.frozen 0
    have t3 := HK3.out.frozen 1
    simp at t0 t1
    obtain ⟨q0, q1⟩ := HK3.out.put2 (.int .i64 r1) (.int .i64 r2)
    have Q0 := Lib.hid q0
    have Q1 := Lib.hid q1
    have BF := Lib.hid (below_put2 HB3.out (g := w.heap.size + 1) (by omega) (.int .i64 r1) (.int .i64 r2))
    clear q0 q1 hb2 B2
    go_wp2_with fail
    exact bodyPost_ret (v := .agg #[.int .i64 r1, .int .i64 r2]) (by simp [results, Tryz.results38, go_sem, Q0.out, Q1.out]) rfl ⟨rfl, BF.out⟩
  · have : (p1, p2) = (r1, r2) := by rw [← hr.out, besideR, hp.out, if_pos hp1]
    obtain ⟨h1, h2⟩ : p1 = r1 ∧ p2 = r2 := by simpa using this
    subst h1 h2
    have d1 : (p1 != 0) = true := by simpa using hp1
    clear this
    go_wp2_with fail
    refine bodyPost_ret (v := .agg #[.int .i64 p1, .int .i64 p2]) (by simp [results, Tryz.results38, go_sem, e0, e1, l3]) rfl ⟨rfl, ?_⟩
    exact (below_put2 HB.out (g := w.heap.size + 1) (by omega) _ _).alloc (by simp; omega) _

end Go.Proofs.YtlfgcblijfflfaaGreat
