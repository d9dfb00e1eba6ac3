/- The walk of the law CnfTexts: it returns true. -/
import Derived.Test.YtabjbpkojbdgaaaDoorTextOwn
import Derived.Test.YtabjbpkojbdgaaaDoorTextRef
namespace Go.Proofs.YtabjbpkojbdgaaaDoor
open Go.RowKit

set_option maxHeartbeats 2000000 in
set_option maxRecDepth 100000 in
theorem cnfTexts_walk {vars : Int} {A : Option Addr} {n c : Nat} {xss : List (List Int)} (w : World) (htab : Lib.TabIs Tryd.prog w "internal/strconv.uint64pow10" .u64 Lib.pow10Tab) (hv : I64 vars) (h : Grid w A n c xss) :
    Calls Tryd.prog 3 #[.agg #[.int .i64 vars, .slice A n c]] w fun e w' => e = .returned (.bool true) ∧ Below w.heap.size w w' := by
  have hbd := h.bd
  obtain ⟨r1, r2, hr⟩ : ∃ r1 r2, Hid (checkC vars xss = (r1, r2)) := ⟨_, _, rfl⟩
  go_enter Tryd.func3, Tryd.ntmps3
  go_wp2_with fail
  obtain ⟨W, hW⟩ : ∃ q : World, q = w.alloc (.cells #[.int .i64 vars, .slice A n c] 24) := ⟨_, rfl⟩
  have hb : Below w.heap.size w W := by rw [hW]; exact below_new _ _
  have K : Hid (Blk W w.heap.size 24 #[.int .i64 vars, .slice A n c]) := by rw [hW]; exact Blk.new _ _ _
  have H := Lib.hid (h.keep hb)
  have HB := Lib.hid hb
  have HT := Lib.hid (Lib.tabBelow_of_tabIs htab W hb)
  rw [← hW]
  obtain ⟨b0, hb0⟩ : ∃ q : Nat, w.heap.size = q := ⟨_, rfl⟩
  rw [hb0] at K ⊢
  have HB0 := Lib.hid hb0
  clear hW hb h hb0 htab
  by_cases h0 : r1 = 0
  · subst h0
    have hok := checkC_ok (vars := vars) (xss := xss) (by rw [hr.out])
    have hck := Lib.hid hok.1
    obtain ⟨hv0, hv1, hn, hx⟩ := checkC_text hok.1
    have hn2 : n ≤ 400 := by have := H.out.len; omega
    have HX := Lib.hid hx
    obtain ⟨R, hR⟩ : ∃ R, Hid (bsOf (textF vars xss) = R) := ⟨_, rfl⟩
    clear hok hr hx hn
    refine (text_ok _ _ _ _ _ W H.out hv hck HT.out R hR).mono ?_
    rintro e w1 ⟨rfl, hb1⟩
    have K1 := Lib.hid (K.out.keep hb1)
    have H1 := Lib.hid (H.out.keep hb1)
    have HB1 := Lib.hid (below_next HB.out hb1)
    have c0 := K1.out.cell 0
    have c1 := K1.out.cell 1
    have z1 := K1.out.lt
    simp at c0 c1
    clear hb1 K H HB
    go_wp2_with fail
    obtain ⟨W2, hW2⟩ : ∃ q : World, q = w1.alloc (.cells #[.int .i64 0, .int .i64 0] 26) := ⟨_, rfl⟩
    have hb2 : Below w1.heap.size w1 W2 := by rw [hW2]; exact below_new _ _
    have F2 : Hid (Blk W2 w1.heap.size 26 #[.int .i64 0, .int .i64 0]) := by rw [hW2]; exact Blk.new _ _ _
    have K2 := Lib.hid (K1.out.keep hb2)
    have H2 := Lib.hid (H1.out.keep hb2)
    have HB2 := Lib.hid (below_next HB1.out hb2)
    rw [← hW2]
    obtain ⟨b1, hb1e⟩ : ∃ q : Nat, w1.heap.size = q := ⟨_, rfl⟩
    rw [hb1e] at F2 ⊢
    clear hW2 hb2 hb1e K1 H1 HB1 c0 c1 z1
    refine (check_ref _ _ _ _ _ W2 H2.out hv _ _ hck).mono ?_
    rintro e w3 ⟨rfl, hb3⟩
    have K3 := Lib.hid (K2.out.keep hb3)
    have F3 := Lib.hid (F2.out.keep hb3)
    have H3 := Lib.hid (H2.out.keep hb3)
    have HB3 := Lib.hid (below_next HB2.out hb3)
    have c0 := K3.out.cell 0
    have c1 := K3.out.cell 1
    have e0 := F3.out.cell 0
    have e1 := F3.out.cell 1
    have z1 := K3.out.lt
    have z2 := F3.out.lt
    simp at c0 c1 e0 e1
    clear hb3 K2 F2 H2 HB2
    go_wp2_with fail
    have hb4 : Below w3.heap.size w3 (w3.alloc (.cells #[.int .i64 0, .int .i64 0] 26)) := below_new _ _
    refine (text_ref _ _ _ _ _ _ (H3.out.keep hb4) hv0 hv1 HX.out hn2 R hR).mono ?_
    rintro e w5 ⟨rfl, hb5⟩
    have HB5 := Lib.hid (below_next HB3.out (below_box hb5).1)
    clear hb5 hb4
    go_wp2_with fail
    go_ret
    exact ⟨rfl, HB5.out⟩
  · refine (text_no _ _ _ _ _ W H.out hv _ _ hr h0).mono ?_
    rintro e w1 ⟨rfl, hb1⟩
    have K1 := Lib.hid (K.out.keep hb1)
    have H1 := Lib.hid (H.out.keep hb1)
    have HB1 := Lib.hid (below_next HB.out hb1)
    have c0 := K1.out.cell 0
    have c1 := K1.out.cell 1
    have z1 := K1.out.lt
    simp at c0 c1
    have d1 : (r1 != 0) = true := by simpa using h0
    clear hb1 K H HB h0
    go_wp2_with fail
    obtain ⟨W2, hW2⟩ : ∃ q : World, q = w1.alloc (.cells #[.int .i64 r1, .int .i64 r2] 26) := ⟨_, rfl⟩
    have hb2 : Below w1.heap.size w1 W2 := by rw [hW2]; exact below_new _ _
    have F2 : Hid (Blk W2 w1.heap.size 26 #[.int .i64 r1, .int .i64 r2]) := by rw [hW2]; exact Blk.new _ _ _
    have K2 := Lib.hid (K1.out.keep hb2)
    have H2 := Lib.hid (H1.out.keep hb2)
    have HB2 := Lib.hid (below_next HB1.out hb2)
    rw [← hW2]
    obtain ⟨b1, hb1e⟩ : ∃ q : Nat, w1.heap.size = q := ⟨_, rfl⟩
    rw [hb1e] at F2 ⊢
    clear hW2 hb2 hb1e K1 H1 HB1 c0 c1 z1
    refine (check_ref _ _ _ _ _ W2 H2.out hv _ _ hr).mono ?_
    rintro e w3 ⟨rfl, hb3⟩
    have K3 := Lib.hid (K2.out.keep hb3)
    have F3 := Lib.hid (F2.out.keep hb3)
    have H3 := Lib.hid (H2.out.keep hb3)
    have HB3 := Lib.hid (below_next HB2.out hb3)
    have c0 := K3.out.cell 0
    have c1 := K3.out.cell 1
    have e0 := F3.out.cell 0
    have e1 := F3.out.cell 1
    have z1 := K3.out.lt
    have z2 := F3.out.lt
    simp at c0 c1 e0 e1
    clear hb3 K2 F2 H2 HB2
    go_wp2_with fail
    go_ret
    exact ⟨rfl, below_next HB3.out (below_new _ _)⟩
end Go.Proofs.YtabjbpkojbdgaaaDoor
