/- Contract of learn.Clause. -/
import Derived.Test.YtabjbpkojbdgaaaConflict
namespace Go.Proofs.Ytabjbpkojbdgaaa
open Go.RowKit
set_option linter.unusedSimpArgs false

/-- The level to which the search returns. -/
def backF (t v : List Int) (z : Int) : List Int → Int → Int
  | [], b => b
  | l :: r, b => backF t v z r (if lvF t v l < z then max b (lvF t v l) else b)
theorem startF_z {vars : Int} {xss : List (List Int)} {q t y v : List Int} {z : Nat} {a : Int} (v0 : 0 ≤ vars) (hc : ∀ c ∈ xss, Lits vars c) (hq : Lits vars q) (h : startF vars xss q = (t, y, v, z, a)) : z ≤ q.length := by
  have ok := runF_ok v0 hc (vars.toNat + 1) [] [] ⟨by simp, List.Pairwise.nil⟩ (by simp; omega)
  have := lvlF_ok v0 hc q _ _ _ 0 _ t y v z a hq.1 ok.lits (fun x hx => by rw [List.mem_replicate] at hx; rw [hx.2]; simp) h
  have := this.2.2
  omega
theorem lv_range {vars : Int} {xss : List (List Int)} {t y v : List Int} {z : Nat} {a : Int} (h : Told vars xss t y v z a) (hz : z ≤ 1000000) {x lv : Int} (hx : -x ∈ t) (hl : lvF t v x = lv) : 0 ≤ lv ∧ lv ≤ 1000000 := by
  obtain ⟨p0, p1, _⟩ := plc_mem hx
  have hi : (plcF t x).toNat < v.length := by rw [h.lev.len, h.hist.1]; omega
  have := h.lev.low (plcF t x).toNat lv (by rw [← hl, lvF, List.getD_eq_getElem?_getD, List.getElem?_eq_getElem hi]; rfl)
  omega
def RetTaught (R : List Int) (bk : Int) (w : World) (e : Ending) (w' : World) : Prop :=
  ∃ A n c, e = .returned (.tuple #[.slice A n c, .int .i64 bk, .agg #[.int .i64 0, .int .i64 0]]) ∧ Ints w' A n c R ∧ Below w.heap.size w w'
theorem cloR_neg {vars : Int} {xss : List (List Int)} {t y v : List Int} {z : Nat} {a : Int} (h : Told vars xss t y v z a) {c : List Int} (hc : Lits vars c) (hn : ∀ l ∈ c, -l ∈ t) : ∀ x ∈ cloR xss t y v z c, -x ∈ t := by
  unfold cloR
  split
  · exact hn
  · exact (cloF_con h t.length c (con_first hc hn)).1.neg
theorem taught_len {vars : Int} {xss : List (List Int)} {t y v : List Int} {z : Nat} {a : Int} {R : List Int} (h : Told vars xss t y v z a) (hc : ∀ c ∈ xss, Lits vars c) (ha : 0 ≤ a) (hR : taughtF xss t y v z a = R) : R.length ≤ t.length := by
  obtain ⟨c, h1, h2, h3⟩ := h.fals ha
  rw [← hR, taughtF, sortF_len, List.getD_eq_getElem?_getD, h1]
  have e1 := List.length_filter_le (fun l => !(lvF t v l == 0)) (cloR xss t y v z c)
  have nd : (cloR xss t y v z c).Nodup := by
    unfold cloR
    split
    · exact (hc c h2).nodup
    · exact (cloF_con h t.length c (con_first (hc c h2) h3)).1.nd
  have e2 := length_le_of_sub (cloR xss t y v z c) (t.map (fun x => -x)) nd (fun x hx => List.mem_map.2 ⟨-x, cloR_neg h (hc c h2) h3 x hx, by omega⟩)
  rw [List.length_map] at e2
  exact Nat.le_trans e1 e2
theorem taught_neg {vars : Int} {xss : List (List Int)} {t y v : List Int} {z : Nat} {a : Int} {R : List Int} (h : Told vars xss t y v z a) (hc : ∀ c ∈ xss, Lits vars c) (ha : 0 ≤ a) (hR : taughtF xss t y v z a = R) : ∀ x ∈ R, -x ∈ t := fun x hx => by
  obtain ⟨c, h1, h2, h3⟩ := h.fals ha
  rw [← hR, taughtF, sortF_mem, List.getD_eq_getElem?_getD, h1] at hx
  exact cloR_neg h (hc c h2) h3 x (List.mem_filter.1 hx).1

set_option maxHeartbeats 1000000 in
theorem learnClause_wrong (A B : Option Addr) (n c m d : Nat) (xss : List (List Int)) (l : List Int) (vars : Int) (w : World) (h : Grid w A n c xss) (hv : I64 vars) (h' : Ints w B m d l) (r1 r2 : Int) (hr : Hid (besideR vars xss l = (r1, r2))) (h0 : r1 ≠ 0) :
    Calls Try.prog 13 #[.agg #[.int .i64 vars, .slice A n c], .slice B m d] w (RetV (.tuple #[.slice none 0 0, .int .i64 0, .agg #[.int .i64 r1, .int .i64 r2]]) w) := by
  have d1 : (r1 != 0) = true := by simpa using h0
  have hbW : Below w.heap.size w ((w.alloc (.cells #[.int .i64 vars, .slice A n c] 24)).alloc (.cells #[.int .i64 0, .int .i64 0] 28)) := (below_alloc (below_new _ _) _)
  have g := h.keep hbW
  have g' := h'.keep hbW
  have HBW := Lib.hid hbW
  clear hbW
  go_enter Try.func13, Try.ntmps13
  go_wp2_with fail
  refine (conflict_wrong _ _ _ _ _ _ _ _ _ _ g hv g' _ _ hr h0).mono ?_
  rintro e w1 ⟨rfl, hb1⟩
  obtain ⟨k3, k4, _, l1⟩ := two_blks hb1
  have t0 := k4.cell 0
  have t1 := k4.cell 1
  have tf0 := k4.frozen 0
  have tf1 := k4.frozen 1
  simp at t0 t1
  have HB := Lib.hid (below_next HBW.out hb1)
  have l3 : w.heap.size + 1 < w1.heap.size := by omega
  clear hb1 k3 k4 g g'
  go_wp2_with fail
  go_region
  go_wp2_with fail
  refine bodyPost_ret (v := .tuple #[.slice none 0 0, .int .i64 0, .agg #[.int .i64 r1, .int .i64 r2]]) (by simp [results, Try.results13, go_sem, t0, t1, l3]) rfl ⟨rfl, ?_⟩
  exact ((below_put2 HB.out (g := w.heap.size + 1) (by omega) _ _).alloc (by simp; omega) _).drew

set_option maxHeartbeats 1000000 in
theorem learnClause_none (A B : Option Addr) (n c m d : Nat) (xss : List (List Int)) (l : List Int) (vars : Int) (w : World) (h : Grid w A n c xss) (hv : I64 vars) (h' : Ints w B m d l) (hr : Hid (besideR vars xss l = (0, 0))) (t y v : List Int) (z : Nat) (a : Int) (ha : Hid (startF vars xss l = (t, y, v, z, a))) (hneg : a < 0) :
    Calls Try.prog 13 #[.agg #[.int .i64 vars, .slice A n c], .slice B m d] w (RetV (.tuple #[.slice none 0 0, .int .i64 0, .agg #[.int .i64 6, .int .i64 0]]) w) := by
  have hbW : Below w.heap.size w ((w.alloc (.cells #[.int .i64 vars, .slice A n c] 24)).alloc (.cells #[.int .i64 0, .int .i64 0] 28)) := (below_alloc (below_new _ _) _)
  have g := h.keep hbW
  have g' := h'.keep hbW
  have HBW := Lib.hid hbW
  clear hbW
  go_enter Try.func13, Try.ntmps13
  go_wp2_with fail
  refine (conflict_own _ _ _ _ _ _ xss l vars _ g hv g' hr t y v z a ha).mono ?_
  rintro e w1 ⟨hcf, _⟩
  obtain ⟨rfl, hb1⟩ := hcf hneg
  obtain ⟨k3, k4, _, l1⟩ := two_blks hb1
  have t0 := k4.cell 0
  have t1 := k4.cell 1
  have tf0 := k4.frozen 0
  have tf1 := k4.frozen 1
  simp at t0 t1
  have HB := Lib.hid (below_next HBW.out hb1)
  have l3 : w.heap.size + 1 < w1.heap.size := by omega
  clear hb1 k3 k4 g g'
  go_wp2_with fail
  go_region
  go_wp2_with fail
  refine bodyPost_ret (v := .tuple #[.slice none 0 0, .int .i64 0, .agg #[.int .i64 6, .int .i64 0]]) (by simp [results, Try.results13, go_sem, t0, t1, l3]) rfl ⟨rfl, ?_⟩
  exact ((below_put2 HB.out (g := w.heap.size + 1) (by omega) _ _).alloc (by simp; omega) _).drew

set_option maxHeartbeats 4000000 in
theorem learnClause_own (A B : Option Addr) (n c m d : Nat) (xss : List (List Int)) (l : List Int) (vars : Int) (w : World) (h : Grid w A n c xss) (hv : I64 vars) (h' : Ints w B m d l) (hr : Hid (besideR vars xss l = (0, 0))) (t y v : List Int) (z : Nat) (a : Int) (ha : Hid (startF vars xss l = (t, y, v, z, a))) (hneg : 0 ≤ a) :
    Calls Try.prog 13 #[.agg #[.int .i64 vars, .slice A n c], .slice B m d] w (RetTaught (taughtF xss t y v z a) (backF t v z (taughtF xss t y v z a) 0) w) := by
  obtain ⟨_, hc0, hll⟩ := besideR_ok (vars := vars) (xss := xss) (l := l) (by rw [hr.out])
  obtain ⟨_, v0, v1, hn400, hrows⟩ := checkC_ok hc0
  have v6 : vars ≤ 1000000 := by omega
  have HC : Hid (∀ x ∈ xss, Lits vars x) := fun x hx => (hrows x hx).2
  have HLL := Lib.hid hll
  have HLN : Hid (xss.length ≤ 400) := by first | exact hn400 | (rw [h.len]; exact hn400)
  have HOK := Lib.hid (startF_ok v0 (by omega) HC.out hll ha.out)
  have G := Lib.hid h
  have I := Lib.hid h'
  clear hrows hc0 hll hn400 h h'
  go_enter Try.func13, Try.ntmps13
  go_wp2_with fail
  refine (conflict_own _ _ _ _ _ _ xss l vars _ (G.out.keep (below_alloc (below_new _ _) _)) hv (I.out.keep (below_alloc (below_new _ _) _)) hr t y v z a ha).mono ?_
  rintro e w1 ⟨_, hcf⟩
  obtain ⟨gr, rfl, hlk, hb1⟩ := hcf hneg
  obtain ⟨K_c0, K_r0, B_w1, l_w1⟩ := two_blks hb1
  replace G := Lib.hid (G.out.keep B_w1)
  have HB := Lib.hid B_w1
  have K_r := Lib.hid K_r0
  have HLK := Lib.hid (hlk.keep (below_new w1 (.cells #[.int .i64 0, .int .i64 0] 28)))
  have HTd : Hid (Told vars xss t y v z a) := by have := startF_told (q := l) v0 HC.out HLL.out.1; rw [ha.out] at this; exact this
  have HZ : Hid (z ≤ 1000000) := by have h1 := startF_z v0 HC.out HLL.out ha.out; have h2 := HLL.out.len_le v0; show _ ≤ _; omega
  obtain ⟨R, hR⟩ : ∃ R, Hid (taughtF xss t y v z a = R) := ⟨_, rfl⟩
  obtain ⟨bk, hbk⟩ : ∃ bk, Hid (backF t v z R 0 = bk) := ⟨_, rfl⟩
  clear hb1 B_w1 K_c0 K_r0 hlk hcf I
  go_wp2_with fail
  refine (clause_any _ gr A n c xss t y v z a vars HLK.out (G.out.keep (below_new _ _)) v0 (by omega) HTd.out hneg HC.out HZ.out R hR).mono ?_
  rintro e w2 ⟨A2, n2, c2, rfl, hown, hb2⟩
  obtain ⟨K_f0, B_w2, l_w2⟩ := blk1 hb2
  have HLK2 := Lib.hid (HLK.out.keep hb2)
  replace K_r := Lib.hid (K_r.out.keep B_w2)
  replace HB := Lib.hid (below_next HB.out B_w2)
  have O2 := Lib.hid hown
  have HRM : Hid (∀ x ∈ R, -x ∈ t) := taught_neg HTd.out HC.out hneg hR.out
  clear hb2 B_w2 K_f0 HLK G hown
  go_wp2_with fail
  have HRB : Hid (∀ x ∈ R, -1000000 ≤ x ∧ x ≤ 1000000) := fun x hx => by have := HTd.out.lits.1 _ (HRM.out x hx); omega
  have HRI : Hid (∀ x ∈ R, I64 x) := fun x hx => by have := HRB.out x hx; unfold I64; omega
  have hn2 : n2 ≤ 1000 := by
    have e1 := O2.out.len
    rw [List.length_map] at e1
    have e2 := taught_len HTd.out HC.out hneg hR.out
    have e3 := HTd.out.lits.len_le v0
    omega
  go_loopw [10, 28] (fun s10 s28 wr => ∃ (k : Nat) (b : Int), k ≤ n2 ∧ s10 = .int .i64 b ∧ s28 = .int .i64 k ∧ 0 ≤ b ∧ b ≤ 1000000 ∧ Hid (backF t v z (R.drop k) b = bk) ∧ Hid (Below w2.heap.size w2 wr)) (fun _ i _ => n2 - (intOf i).toNat)
  case atStart => exact ⟨0, 0, Nat.zero_le _, rfl, rfl, by omega, by omega, hbk, Below.refl _ _⟩
  case round =>
    obtain ⟨k, bb, hk, rfl, rfl, hb0, hb1, hbf, hB⟩ := hrel
    have HL := Lib.hid (HLK2.out.keep hB.out)
    by_cases hkn : k < n2
    · obtain ⟨b, off, x, hAe, hbb, hcell, x1, x2, hxk⟩ := ((O2.out.ints HRI.out).keep hB.out).round hkn
      have hxm := List.mem_of_getElem? hxk.out
      have hxb := HRB.out x hxm
      have hxt : Hid (-x ∈ t) := HRM.out x hxm
      obtain ⟨lv, hlv⟩ : ∃ lv, Hid (lvF t v x = lv) := ⟨_, rfl⟩
      have hlv0 : 0 ≤ lv ∧ lv ≤ 1000000 := lv_range HTd.out HZ.out hxt.out hlv.out
      have hst : Hid (backF t v z (R.drop (k + 1)) (if lv < z then max bb lv else bb) = bk) := by have := hbf.out; rw [drop_cons_of hxk.out, backF, hlv.out] at this; exact this
      clear hbf hxm
      subst hAe
      go_wp2_with fail
      refine (level_any _ gr _ n c t y v z a HL.out x hxb hxt.out lv hlv).mono ?_
      rintro e w3 ⟨rfl, m3, rfl⟩
      obtain ⟨wq, hwq⟩ : ∃ wq : World, wq = wr.drewN m3 := ⟨_, rfl⟩
      have hbq : Below wr.heap.size wr wq := by rw [hwq]; exact below_drewN _ _
      (try rw [← hwq])
      have BQ := Lib.hid (below_next hB.out hbq)
      obtain ⟨g, L, cl, Y, cy, V, nv, cv, h1, h0, h2, hyy, h3, h4, hY, h5, h6, h7⟩ := (HL.out.keep hbq).ex
      have zr := (cell_lt h1).1
      clear h1 h0 h2 hyy h3 h4 hY h5 h7 hbq hwq HL
      by_cases hlz : lv < (z : Int)
      · by_cases hmx : bb < lv
        · have hst2 : Hid (backF t v z (R.drop (k + 1)) lv = bk) := by have := hst.out; rw [if_pos hlz, Int.max_eq_right (by omega)] at this; exact this
          clear hst
          go_wp2_with fail
          go_roundw
          case rel => exact ⟨k + 1, lv, by omega, by first | rfl | go_num, by go_num, by omega, by omega, hst2, BQ⟩
          case measure => simp [intOf]; omega
        · have hst2 : Hid (backF t v z (R.drop (k + 1)) bb = bk) := by have := hst.out; rw [if_pos hlz, Int.max_eq_left (by omega)] at this; exact this
          clear hst
          go_wp2_with fail
          go_roundw
          case rel => exact ⟨k + 1, bb, by omega, by first | rfl | go_num, by go_num, by omega, by omega, hst2, BQ⟩
          case measure => simp [intOf]; omega
      · have hst2 : Hid (backF t v z (R.drop (k + 1)) bb = bk) := by have := hst.out; rw [if_neg hlz] at this; exact this
        clear hst
        go_wp2_with fail
        go_roundw
        case rel => exact ⟨k + 1, bb, by omega, rfl, by go_num, by omega, by omega, hst2, BQ⟩
        case measure => simp [intOf]; omega
    · have hfin : bb = bk := by have := hbf.out; rw [List.drop_of_length_le (by have := O2.out.len; rw [List.length_map] at this; omega), backF] at this; exact this
      subst hfin
      clear hbf HL
      have KR := K_r.out.keep hB.out
      have BR := Lib.hid (below_next HB.out hB.out)
      have hsz2 : w.heap.size + 1 < wr.heap.size := KR.lt
      have cK_r_0 := KR.cell 0
      have cK_r_1 := KR.cell 1
      simp at cK_r_0 cK_r_1
      obtain ⟨q0, q1⟩ := KR.put2 (.int .i64 0) (.int .i64 0)
      have Q0 := Lib.hid q0
      have Q1 := Lib.hid q1
      have fK_r_0 := KR.frozen 0
      have fK_r_1 := KR.frozen 1
      have OR := Lib.hid (O2.out.keep hB.out)
      have hne : blockOf A2 = none ∨ blockOf A2 ≠ some (w.heap.size + 1) := OR.out.geb (by simp; omega)
      have IR := Lib.hid (((OR.out.kept (grown_setCell _ ⟨w.heap.size + 1, 0, none⟩ (.int .i64 0)) hne).kept (grown_setCell _ ⟨w.heap.size + 1, 1, none⟩ (.int .i64 0)) hne).ints HRI.out)
      clear q0 q1 KR hne
      go_wp2_with fail
      exact bodyPost_ret (v := .tuple #[.slice A2 n2 c2, .int .i64 bb, .agg #[.int .i64 0, .int .i64 0]]) (by simp [results, Try.results13, go_sem, Q0.out, Q1.out]) rfl ⟨A2, n2, c2, by rw [hR.out, hbk.out], by rw [hR.out]; exact IR.out, below_put2 BR.out (g := w.heap.size + 1) (by omega) _ _⟩
end Go.Proofs.Ytabjbpkojbdgaaa
