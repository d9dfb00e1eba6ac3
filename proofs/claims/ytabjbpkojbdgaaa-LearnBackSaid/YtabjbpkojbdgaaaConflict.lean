/- Contracts of learn's conflict. -/
import Derived.Test.YtabjbpkojbdgaaaLearnClause
import Derived.Test.YtabjbpkojbdgaaaBoth
namespace Go.Proofs.Ytabjbpkojbdgaaa
open Go.RowKit
set_option linter.unusedSimpArgs false

theorem lvlF_ok {vars : Int} {xss : List (List Int)} (v0 : 0 ≤ vars) (hc : ∀ c ∈ xss, Lits vars c) : ∀ (q t y v : List Int) (z : Nat) (a : Int) (t' y' v' : List Int) (z' : Nat) (a' : Int), (∀ l ∈ q, l ≠ 0 ∧ -vars ≤ l ∧ l ≤ vars) → Lits vars t → (∀ x ∈ v, 0 ≤ x ∧ x ≤ (z : Int)) → lvlF vars xss q t y v z a = (t', y', v', z', a') → Lits vars t' ∧ (∀ x ∈ v', 0 ≤ x ∧ x ≤ (z' : Int)) ∧ z' ≤ z + q.length
  | [], t, y, v, z, a, t', y', v', z', a', _, ht, hv, h => by
    rw [lvlF] at h
    cases h
    exact ⟨ht, hv, by simp⟩
  | l :: r, t, y, v, z, a, t', y', v', z', a', hq, ht, hv, h => by
    rw [lvlF] at h
    by_cases ha : 0 ≤ a
    · rw [if_pos ha] at h
      cases h
      exact ⟨ht, hv, by omega⟩
    · rw [if_neg ha] at h
      by_cases hh : (hasB t l || hasB t (-l)) = true
      · rw [if_pos hh] at h
        have := lvlF_ok v0 hc r t y v z a t' y' v' z' a' (fun x hx => hq x (by simp [hx])) ht hv h
        exact ⟨this.1, this.2.1, by simp; omega⟩
      · rw [if_neg hh] at h
        simp only [Bool.not_eq_true, Bool.or_eq_false_iff] at hh
        have hl := hq l (by simp)
        have hL1 : Lits vars [l] := ⟨fun x hx => by simp at hx; subst hx; exact hl, by simp⟩
        have hLt := lits_app ht hL1 (by simp) hh.1 hh.2
        have ok := runF_ok v0 hc (vars.toNat + 1) (t ++ [l]) (y ++ [-1]) hLt (by simp; omega)
        have := lvlF_ok v0 hc r _ _ _ (z + 1) _ t' y' v' z' a' (fun x hx => hq x (by simp [hx])) ok.lits (fun x hx => by
          rcases List.mem_append.1 hx with hx | hx
          · have := hv x hx; omega
          · rw [List.mem_replicate] at hx; rw [hx.2]; omega) h
        exact ⟨this.1, this.2.1, by simp; omega⟩
theorem startF_ok {vars : Int} {xss : List (List Int)} {q t y v : List Int} {z : Nat} {a : Int} (v0 : 0 ≤ vars) (v1 : vars ≤ 1000) (hc : ∀ c ∈ xss, Lits vars c) (hq : Lits vars q) (h : startF vars xss q = (t, y, v, z, a)) : (∀ x ∈ t, I64 x) ∧ (∀ x ∈ v, I64 x) ∧ Lits vars t := by
  have ok := runF_ok v0 hc (vars.toNat + 1) [] [] ⟨by simp, List.Pairwise.nil⟩ (by simp; omega)
  have := lvlF_ok v0 hc q _ _ _ 0 _ t y v z a hq.1 ok.lits (fun x hx => by rw [List.mem_replicate] at hx; rw [hx.2]; simp) h
  have hl := hq.len_le v0
  refine ⟨fun x hx => ?_, fun x hx => ?_, this.1⟩
  · have := this.1.1 x hx; unfold I64; omega
  · have h1 := this.2.1 x hx
    have h2 := this.2.2
    unfold I64; omega


theorem told_why {vars : Int} {xss : List (List Int)} {t y v : List Int} {z : Nat} {a : Int} (h : Told vars xss t y v z a) : ∀ k ∈ y, -1 ≤ k ∧ k < xss.length := fun k hk => by
  obtain ⟨i, hi⟩ := List.getElem?_of_mem hk
  by_cases h0 : 0 ≤ k
  · have hit : i < t.length := by rw [← h.hist.1]; exact (List.getElem?_eq_some_iff.1 hi).1
    obtain ⟨c, hc, _⟩ := h.hist.2 i k _ hi (List.getElem?_eq_getElem hit) h0
    have := (List.getElem?_eq_some_iff.1 hc).1
    omega
  · have := (h.lev.new i k hi (by omega)).1
    omega
/-- A run that came to a false clause. -/
def RetConf (A : Option Addr) (n c : Nat) (t y v : List Int) (z : Nat) (a : Int) (w : World) (e : Ending) (w' : World) : Prop :=
  ∃ gr, e = .returned (.tuple #[.pointer (some ⟨gr, 0, none⟩), .agg #[.int .i64 0, .int .i64 0]]) ∧ RunLook w' gr A n c t y v z a ∧ Below w.heap.size w w'

def RetCf (A : Option Addr) (n c : Nat) (t y v : List Int) (z : Nat) (a : Int) (w : World) (e : Ending) (w' : World) : Prop :=
  (a < 0 → RetV (.tuple #[.pointer none, .agg #[.int .i64 6, .int .i64 0]]) w e w') ∧ (0 ≤ a → RetConf A n c t y v z a w e w')
theorem RunSt.looks_far {w wr : World} {gr g : Nat} {A : Option Addr} {n c : Nat} {L : Option Addr} {cl : Nat} {Y : Option Addr} {cy gm : Nat} {D : DataW Unit} {t y : List Int} {V : Option Addr} {nv cv : Nat} {v : List Int} {z a : Int} (h : RunSt w wr gr g A n c L cl Y cy gm D t y V nv cv v z a) (ht : ∀ x ∈ t, I64 x) (hy : ∀ x ∈ y, I64 x) (hv : ∀ x ∈ v, I64 x) (hl : v.length = t.length) (hl' : y.length = t.length) {k : Nat} (hk : k < w.heap.size) (u0 u1 : Value) : RunLook ((wr.setCell ⟨k, 0, none⟩ u0).setCell ⟨k, 1, none⟩ u1) gr A n c t y v z a := by
  have n1 : gr ≠ k := by have := h.lo; omega
  have n2 : g ≠ k := by have := h.tr.lo; omega
  have rb := (h.rb.far (p := ⟨k, 0, none⟩) n1 u0).far (p := ⟨k, 1, none⟩) n1 u1
  have tb := (h.tr.tb.far (p := ⟨k, 0, none⟩) n2 u0).far (p := ⟨k, 1, none⟩) n2 u1
  have c0 := rb.cell 0
  have c1 := rb.cell 1
  have c2 := rb.cell 2
  have c3 := rb.cell 3
  have d0 := tb.cell 0
  have d1 := tb.cell 1
  have d2 := tb.cell 2
  simp at c0 c1 c2 c3 d0 d1 d2
  exact ⟨⟨g, L, cl, Y, cy, V, nv, cv, c0, d0, d1, d2, c1, ((h.tr.lits.kept (grown_setCell _ ⟨k, 0, none⟩ u0) (h.tr.lits.geb hk)).kept (grown_setCell _ ⟨k, 1, none⟩ u1) (h.tr.lits.geb hk)).ints ht, ((h.tr.why.kept (grown_setCell _ ⟨k, 0, none⟩ u0) (h.tr.why.geb hk)).kept (grown_setCell _ ⟨k, 1, none⟩ u1) (h.tr.why.geb hk)).ints hy, ((h.vo.kept (grown_setCell _ ⟨k, 0, none⟩ u0) (h.vo.geb hk)).kept (grown_setCell _ ⟨k, 1, none⟩ u1) (h.vo.geb hk)).ints hv, c2, c3⟩, hl, hl'⟩

set_option maxHeartbeats 1000000 in
theorem conflict_wrong (A B : Option Addr) (n c m d : Nat) (xss : List (List Int)) (l : List Int) (vars : Int) (w : World) (h : Grid w A n c xss) (hv : I64 vars) (h' : Ints w B m d l) (r1 r2 : Int) (hr : Hid (besideR vars xss l = (r1, r2))) (h0 : r1 ≠ 0) :
    Calls Try.prog 45 #[.agg #[.int .i64 vars, .slice A n c], .slice B m d] w (RetV (.tuple #[.pointer none, .agg #[.int .i64 r1, .int .i64 r2]]) w) := by
  have d1 : (r1 != 0) = true := by simpa using h0
  have hbW : Below w.heap.size w ((w.alloc (.cells #[.int .i64 vars, .slice A n c] 24)).alloc (.cells #[.int .i64 0, .int .i64 0] 28)) := (below_alloc (below_new _ _) _)
  have g := h.keep hbW
  have g' := h'.keep hbW
  have HBW := Lib.hid hbW
  clear hbW
  go_enter Try.func45, Try.ntmps45
  go_wp2_with fail
  refine (both_any _ _ _ _ _ _ _ _ _ _ g hv g' _ _ hr).mono ?_
  rintro e w1 ⟨rfl, hb1⟩
  obtain ⟨k3, k4, _, l1⟩ := two_blks hb1
  have t0 := k4.cell 0
  have t1 := k4.cell 1
  have tf0 := k4.frozen 0
  have tf1 := k4.frozen 1
  simp at t0 t1
  have HB := Lib.hid (below_next HBW.out hb1)
  have l3 : w.heap.size + 1 < w1.heap.size := by omega
  clear hb1 k3 k4 g g'
  go_wp2_with fail
  go_region
  go_wp2_with fail
  refine bodyPost_ret (v := .tuple #[.pointer none, .agg #[.int .i64 r1, .int .i64 r2]]) (by simp [results, Try.results45, go_sem, t0, t1, l3]) rfl ⟨rfl, ?_⟩
  exact ((below_put2 HB.out (g := w.heap.size + 1) (by omega) _ _).alloc (by simp; omega) _).drew

set_option maxHeartbeats 4000000 in
theorem conflict_own (A B : Option Addr) (n c m d : Nat) (xss : List (List Int)) (l : List Int) (vars : Int) (w : World) (h : Grid w A n c xss) (hv : I64 vars) (h' : Ints w B m d l) (hr : Hid (besideR vars xss l = (0, 0))) (t y v : List Int) (z : Nat) (a : Int) (ha : Hid (startF vars xss l = (t, y, v, z, a))) :
    Calls Try.prog 45 #[.agg #[.int .i64 vars, .slice A n c], .slice B m d] w (RetCf A n c t y v z a w) := by
  obtain ⟨_, hc0, hll⟩ := besideR_ok (vars := vars) (xss := xss) (l := l) (by rw [hr.out])
  obtain ⟨_, v0, v1, hn400, hrows⟩ := checkC_ok hc0
  have v6 : vars ≤ 1000000 := by omega
  have HC : Hid (∀ x ∈ xss, Lits vars x) := fun x hx => (hrows x hx).2
  have HLL := Lib.hid hll
  have HLN : Hid (xss.length ≤ 400) := by first | exact hn400 | (rw [h.len]; exact hn400)
  have HOK := Lib.hid (startF_ok v0 (by omega) HC.out hll ha.out)
  have G := Lib.hid h
  have I := Lib.hid h'
  clear hrows hc0 hll hn400 h h'
  go_enter Try.func45, Try.ntmps45
  go_wp2_with fail
  refine (both_any _ _ _ _ _ _ _ _ _ _ (G.out.keep (below_alloc (below_new _ _) _)) hv (I.out.keep (below_alloc (below_new _ _) _)) _ _ hr).mono ?_
  rintro e w1 ⟨rfl, hb1⟩
  obtain ⟨K_c0, K_r0, B_w1, l_w1⟩ := two_blks hb1
  replace G := Lib.hid (G.out.keep B_w1)
  replace I := Lib.hid (I.out.keep B_w1)
  have HB := Lib.hid B_w1
  have K_c := Lib.hid K_c0
  have K_r := Lib.hid K_r0
  clear hb1 B_w1 K_c0 K_r0
  have cK_c_0 := K_c.out.cell 0
  have cK_c_1 := K_c.out.cell 1
  simp at cK_c_0 cK_c_1
  have zK_c := K_c.out.lt
  have cK_r_0 := K_r.out.cell 0
  have cK_r_1 := K_r.out.cell 1
  simp at cK_r_0 cK_r_1
  have zK_r := K_r.out.lt
  go_wp2_with fail
  refine (start_any _ _ _ _ _ _ xss l vars _ (G.out.keep (below_new _ _)) (I.out.keep (below_new _ _)) v0 v6 HC.out HLL.out t y v z a ha).mono ?_
  rintro e w2 ⟨W, gr, g, gm, L, cl, Y, cy, D, V, nv, cv, rfl, hbW, hst⟩
  have HST := Lib.hid hst
  have hb2 := below_next hbW hst.tr.bl
  have hWz := hbW.size
  simp at hWz
  clear hst hbW
  obtain ⟨K_f0, B_w2, l_w2⟩ := blk1 hb2
  replace G := Lib.hid (G.out.keep B_w2)
  replace I := Lib.hid (I.out.keep B_w2)
  replace K_c := Lib.hid (K_c.out.keep B_w2)
  replace K_r := Lib.hid (K_r.out.keep B_w2)
  replace HB := Lib.hid (below_next HB.out B_w2)
  have K_f := Lib.hid K_f0
  clear hb2 B_w2 K_f0
  clear cK_c_0 cK_c_1 zK_c cK_r_0 cK_r_1 zK_r
  have cK_c_0 := K_c.out.cell 0
  have cK_c_1 := K_c.out.cell 1
  simp at cK_c_0 cK_c_1
  have zK_c := K_c.out.lt
  have cK_r_0 := K_r.out.cell 0
  have cK_r_1 := K_r.out.cell 1
  simp at cK_r_0 cK_r_1
  have zK_r := K_r.out.lt
  have cK_f_0 := K_f.out.cell 0
  have cK_f_1 := K_f.out.cell 1
  simp at cK_f_0 cK_f_1
  have zK_f := K_f.out.lt
  have HTd : Hid (Told vars xss t y v z a) := by have := startF_told (q := l) v0 HC.out HLL.out.1; rw [ha.out] at this; exact this
  have hlen : xss.length ≤ 400 := HLN.out
  have HLK : ∀ u0 u1, RunLook ((w2.setCell ⟨w.heap.size + 1, 0, none⟩ u0).setCell ⟨w.heap.size + 1, 1, none⟩ u1) gr A n c t y v z a := HST.out.looks_far HOK.out.1 (fun x hx => by have := told_why HTd.out x hx; unfold I64; omega) HOK.out.2.1 (by rw [HTd.out.lev.len, HTd.out.hist.1]) HTd.out.hist.1 (by omega)
  replace HLK := Lib.hid HLK
  have s3 := HST.out.rb.cell 3
  simp at s3
  have zr := HST.out.rb.lt
  have fK_r_0 := K_r.out.frozen 0
  have fK_r_1 := K_r.out.frozen 1
  obtain ⟨q0, q1⟩ := K_r.out.put2 (.int .i64 0) (.int .i64 0)
  obtain ⟨q2, q3⟩ := K_r.out.put2 (.int .i64 6) (.int .i64 0)
  have Q0 := Lib.hid q0
  have Q1 := Lib.hid q1
  have Q2 := Lib.hid q2
  have Q3 := Lib.hid q3
  clear q0 q1 q2 q3
  by_cases hneg : a < 0
  · go_wp2_with fail
    refine bodyPost_ret (v := .tuple #[.pointer none, .agg #[.int .i64 6, .int .i64 0]]) (by simp [results, Try.results45, go_sem, Q2.out, Q3.out]) rfl ⟨fun _ => ⟨rfl, ?_⟩, fun h => by omega⟩
    exact below_put2 HB.out (g := w.heap.size + 1) (by omega) _ _
  · go_wp2_with fail
    exact bodyPost_ret (v := .tuple #[.pointer (some ⟨gr, 0, none⟩), .agg #[.int .i64 0, .int .i64 0]]) (by simp [results, Try.results45, go_sem, Q0.out, Q1.out]) rfl ⟨fun h => by omega, fun _ => ⟨gr, rfl, HLK.out _ _, below_put2 HB.out (g := w.heap.size + 1) (by omega) _ _⟩⟩
end Go.Proofs.Ytabjbpkojbdgaaa
