/- Contract of learn.Short. -/
import Derived.Test.YtabjbpkojbdgaaaTaughtTrue
namespace Go.Proofs.Ytabjbpkojbdgaaa
open Go.RowKit
set_option linter.unusedSimpArgs false

theorem enters_short1 : Enters Try.prog 50 := enters_of Try.func50 (by kernel_rfl) rfl

theorem Blk.new' (w : World) (t : TypeId) (cs : Array Value) {b : Nat} (hb : b = w.heap.size) : Blk (w.alloc (.cells cs t)) b t cs := by subst hb; exact Blk.new _ _ _

set_option maxHeartbeats 2000000 in
theorem short1_any (W : World) (gr b6 b8 : Nat) (A : Option Addr) (n c : Nat) (xss : List (List Int)) (t y v : List Int) (z : Nat) (a vars : Int) (h : RunLook W gr A n c t y v z a) (hg : Grid W A n c xss) (hT : Told vars xss t y v z a) (v0 : 0 ≤ vars) (v1 : vars ≤ 1000) (hc : ∀ c ∈ xss, Lits vars c)
    (h6 : W.cell? ⟨b6, 0, none⟩ = some (.pointer (some ⟨gr, 0, none⟩))) (B : Option Addr) (m d : Nat) (R : List Int) (hR : Ints W B m d R) (h8 : W.cell? ⟨b8, 0, none⟩ = some (.slice B m d)) (x : Int) (hx : -x ∈ t) (p : Bool) (hp : Hid (redB xss t y v R x = p)) :
    Calls Try.prog 50 #[.int .i64 x, .pointer (some ⟨b6, 0, none⟩), .pointer (some ⟨b8, 0, none⟩)] W (RetQ (.bool p) W) := by
  have HH := Lib.hid h
  have HG := Lib.hid hg
  have HT := Lib.hid hT
  have HR := Lib.hid hR
  have hxb : -1000000 ≤ x ∧ x ≤ 1000000 := by have := hT.lits.1 _ hx; omega
  have HXT : Hid (-x ∈ t) := hx
  obtain ⟨p0, p1, p2⟩ := plc_mem hx
  obtain ⟨P, hP⟩ : ∃ P : Nat, plcF t x = (P : Int) := ⟨(plcF t x).toNat, by omega⟩
  have HP : Hid (plcF t x = (P : Int)) := hP
  obtain ⟨g, L, cl, Y, cy, V, nv, cv, h1, h0, h2, hyy, h3, h4, hY, h5, h6', h7⟩ := h.ex
  have hPy : P < y.length := by rw [h.leny]; omega
  obtain ⟨bY, offY, q, hYe, hbY, hcellY, q1, q2, hyk⟩ := hY.round hPy
  have hq : Hid (y.getD P 0 = q) := by rw [List.getD_eq_getElem?_getD, hyk.out]; rfl
  have zg := (cell_lt h0).1
  have zr := (cell_lt h1).1
  have z6 := (cell_lt h6).1
  have z8 := (cell_lt h8).1
  subst hYe
  have u1 : (0 : Int) ≤ (P : Int) := by omega
  have u2 : (P : Int) < (y.length : Int) := by omega
  clear h hg hT hR hx p0 p1 p2 hP h2 h3 h4 hY h5 h6' h7 hyk
  by_cases hq0 : q < 0
  · have hpf : p = false := by
      have := hp.out
      rw [redB, HP.out, Int.toNat_natCast, hq.out] at this
      rw [← this]
      simp; intro h; omega
    subst hpf
    clear hp hq
    go_enter Try.func50, Try.ntmps50
    go_wp2_with fail
    go_quiet ((go_at_call 51; exact RetQ.quiet (at_any _ gr _ n c t y v z a (HH.out.keep (below_drewN _ _)) x hxb _ HP)))
    go_wp2_with fail
    go_ret
    exact ⟨rfl, nq, rfl⟩
  · obtain ⟨Q, rfl⟩ : ∃ Q : Nat, q = (Q : Int) := ⟨q.toNat, by omega⟩
    obtain ⟨br, hbr⟩ : ∃ q, Hid (bringF xss t y x = q) := ⟨_, rfl⟩
    have hsp := bring_spec HT.out HXT.out (by rw [HP.out, Int.toNat_natCast, hq.out]; omega)
    rw [HP.out, Int.toNat_natCast, hq.out, Int.toNat_natCast, hbr.out] at hsp
    obtain ⟨s1, s2, s3⟩ := hsp
    have hQn : Q < n := by rw [← HG.out.len]; exact (List.getElem?_eq_some_iff.1 s1).1
    obtain ⟨b3, off3, A3, n3, c3, xs3, hA3, hb3, hcell3, hx3, hxk3⟩ := HG.out.round hQn
    obtain rfl : br = xs3 := by have := hxk3.out; rw [s1] at this; injection this
    have hlb := hc _ (List.mem_of_getElem? s1)
    have hn3 : n3 ≤ 1000 := by have := hlb.len_le v0; rw [hx3.len] at this; omega
    have HBL : Hid (∀ u ∈ br, -1000000 ≤ u ∧ u ≤ 1000000) := fun u hu => by have := hlb.1 u hu; omega
    have HS3 : Hid (∀ l ∈ br, l ≠ -x → -l ∈ t) := fun l hl hne => (s3 l hl hne).1
    have HX3 := Lib.hid hx3
    have hall : Hid (br.all (fun u => u == -x || hasB R u || lvF t v u == 0) = p) := by
      have := hp.out
      rw [redB, HP.out, Int.toNat_natCast, hq.out, hbr.out] at this
      simpa [Hid] using this
    subst hA3
    have u3 : (0 : Int) ≤ (Q : Int) := by omega
    have u4 : (Q : Int) < (n : Int) := by omega
    have z3 := (cell_lt hcell3).1
    clear hp hq s1 s2 s3 hxk3 hx3 hlb hc
    go_enter Try.func50, Try.ntmps50
    go_wp2_with fail
    go_quiet ((go_at_call 51; exact RetQ.quiet (at_any _ gr _ n c t y v z a (HH.out.keep (below_drewN _ _)) x hxb _ HP)))
    go_wp2_with fail
    go_loopw [33] (fun i wr => ∃ (k m' : Nat), k ≤ n3 ∧ i = .int .i64 k ∧ wr = W.drewN m' ∧ Hid ((br.drop k).all (fun u => u == -x || hasB R u || lvF t v u == 0) = p)) (fun i _ => n3 - (intOf i).toNat)
    case atStart => exact ⟨0, nq, Nat.zero_le _, rfl, rfl, hall⟩
    case round =>
      clear hall
      obtain ⟨k, m', hk, rfl, rfl, hall⟩ := hrel
      have HXR := Lib.hid (HX3.out.keep (below_drewN W m'))
      have hbw : Below W.heap.size W (W.drewN m') := below_drewN W m'
      have HRR := Lib.hid (HR.out.keep hbw)
      have HHR := Lib.hid (HH.out.keep hbw)
      by_cases hkn : k < n3
      · obtain ⟨b5, off5, u, hAe, hbb, hcell5, x1, x2, hxk⟩ := HXR.out.round hkn
        have hub := HBL.out u (List.mem_of_getElem? hxk.out)
        have hut := HS3.out u (List.mem_of_getElem? hxk.out)
        have hst : Hid (((u == -x || hasB R u || lvF t v u == 0) && (br.drop (k + 1)).all (fun u => u == -x || hasB R u || lvF t v u == 0)) = p) := by have := hall.out; rw [drop_cons_of hxk.out, List.all_cons] at this; exact this
        subst hAe
        clear hall hxk
        by_cases hux : u = -x
        · have dx : (u == -x) = true := by rw [beq_iff_eq]; exact hux
          have hst2 : Hid ((br.drop (k + 1)).all (fun u => u == -x || hasB R u || lvF t v u == 0) = p) := by have := hst.out; rw [dx] at this; simpa [Hid] using this
          clear hst
          go_wp2_with fail
          go_roundw
          case rel => exact ⟨k + 1, m', by omega, by go_num, rfl, hst2⟩
          case measure => simp [intOf] <;> omega
        · have dx : (u == -x) = false := by rw [beq_eq_false_iff_ne]; exact hux
          have hut2 : Hid (-u ∈ t) := hut hux
          obtain ⟨r, hr⟩ : ∃ q, Hid (hasB R u = q) := ⟨_, rfl⟩
          have hst2 : Hid (((r || lvF t v u == 0) && (br.drop (k + 1)).all (fun u => u == -x || hasB R u || lvF t v u == 0)) = p) := by have := hst.out; rw [dx, hr.out] at this; simpa [Hid] using this
          clear hst hut
          go_wp2_with fail
          refine (contains_ints B m d R u _ HRR.out r hr).mono ?_
          rintro e w8 ⟨rfl, m8, rfl⟩
          cases r
          · obtain ⟨lv, hlv⟩ : ∃ lv, Hid (lvF t v u = lv) := ⟨_, rfl⟩
            go_wp2_with fail
            refine (level_any _ gr _ n c t y v z a (HH.out.keep (below_drewN _ _)) u hub hut2.out lv hlv).mono ?_
            rintro e w9 ⟨rfl, m9, rfl⟩
            by_cases hl0 : lv = 0
            · have hst3 : Hid ((br.drop (k + 1)).all (fun u => u == -x || hasB R u || lvF t v u == 0) = p) := by have := hst2.out; rw [hlv.out, hl0] at this; simpa [Hid] using this
              clear hst2
              go_wp2_with fail
              go_roundw
              case rel => exact ⟨k + 1, m' + m8 + m9, by omega, by go_num, by first | rfl | rw [World.drewN_drewN], hst3⟩
              case measure => simp [intOf] <;> omega
            · have hpf : p = false := by
                have := hst2.out
                rw [hlv.out] at this
                rw [← this]
                simp [hl0]
              subst hpf
              have dl : (lv != 0) = true := by simpa using hl0
              have dx2 : (u != -x) = true := by simpa using hux
              clear hst2
              go_wp2_with fail
              go_ret
              exact ⟨rfl, m' + m8 + m9, by first | rfl | rw [World.drewN_drewN]⟩
          · have hst3 : Hid ((br.drop (k + 1)).all (fun u => u == -x || hasB R u || lvF t v u == 0) = p) := by have := hst2.out; simpa [Hid] using this
            clear hst2
            go_wp2_with fail
            go_roundw
            case rel => exact ⟨k + 1, m' + m8, by omega, by go_num, by first | rfl | rw [World.drewN_drewN], hst3⟩
            case measure => simp [intOf] <;> omega
      · have hpt : p = true := by have := hall.out; rw [List.drop_of_length_le (by rw [HXR.out.len]; omega)] at this; simpa using this.symm
        subst hpt
        clear hall
        go_wp2_with fail
        go_ret
        exact ⟨rfl, m', rfl⟩
set_option maxHeartbeats 1000000 in
theorem learnShort_wrong (A B : Option Addr) (n c m d : Nat) (xss : List (List Int)) (l : List Int) (vars : Int) (w : World) (h : Grid w A n c xss) (hv : I64 vars) (h' : Ints w B m d l) (r1 r2 : Int) (hr : Hid (besideR vars xss l = (r1, r2))) (h0 : r1 ≠ 0) :
    Calls Try.prog 19 #[.agg #[.int .i64 vars, .slice A n c], .slice B m d] w (RetV (.tuple #[.slice none 0 0, .agg #[.int .i64 r1, .int .i64 r2]]) w) := by
  have d1 : (r1 != 0) = true := by simpa using h0
  have hbW : Below w.heap.size w ((w.alloc (.cells #[.int .i64 vars, .slice A n c] 24)).alloc (.cells #[.int .i64 0, .int .i64 0] 28)) := (below_alloc (below_new _ _) _)
  have g := h.keep hbW
  have g' := h'.keep hbW
  have HBW := Lib.hid hbW
  clear hbW
  go_enter Try.func19, Try.ntmps19
  go_wp2_with fail
  refine (conflict_wrong _ _ _ _ _ _ _ _ _ _ g hv g' _ _ hr h0).mono ?_
  rintro e w1 ⟨rfl, hb1⟩
  obtain ⟨k3, k4, _, l1⟩ := two_blks hb1
  have KR := Lib.hid k4
  have HB := Lib.hid (below_next HBW.out hb1)
  clear hb1 k3 k4 g g'
  go_wp2_with fail
  obtain ⟨w2, hw2⟩ : ∃ w2 : World, w2 = (w1.alloc (.cells #[.pointer none] 79)).alloc (.cells #[.int .i64 r1, .int .i64 r2] 28) := ⟨_, rfl⟩
  have K5 : Blk w2 (w.heap.size + 1) 28 #[.int .i64 0, .int .i64 0] := by rw [hw2]; exact (KR.out.alloc _).alloc _
  have K7 : Blk w2 (w1.heap.size + 1) 28 #[.int .i64 r1, .int .i64 r2] := by rw [hw2]; exact Blk.new' _ _ _ (by simp)
  have HB2 : Hid (Below w.heap.size w w2) := by rw [hw2]; exact below_alloc (below_alloc HB.out _) _
  try rw [← hw2]
  have t0 := K5.cell 0
  have t1 := K5.cell 1
  have tf0 := K5.frozen 0
  have tf1 := K5.frozen 1
  have q0 := K7.cell 0
  have q1 := K7.cell 1
  simp at t0 t1 q0 q1
  have l3 := K5.lt
  clear hw2 K5 K7
  go_region
  go_wp2_with fail
  refine bodyPost_ret (v := .tuple #[.slice none 0 0, .agg #[.int .i64 r1, .int .i64 r2]]) (by simp [results, Try.results19, go_sem, t0, t1, l3]) rfl ⟨rfl, ?_⟩
  exact (below_put2 HB2.out (g := w.heap.size + 1) (by omega) _ _).drew

set_option maxHeartbeats 1000000 in
theorem learnShort_none (A B : Option Addr) (n c m d : Nat) (xss : List (List Int)) (l : List Int) (vars : Int) (w : World) (h : Grid w A n c xss) (hv : I64 vars) (h' : Ints w B m d l) (hr : Hid (besideR vars xss l = (0, 0))) (t y v : List Int) (z : Nat) (a : Int) (ha : Hid (startF vars xss l = (t, y, v, z, a))) (hneg : a < 0) :
    Calls Try.prog 19 #[.agg #[.int .i64 vars, .slice A n c], .slice B m d] w (RetV (.tuple #[.slice none 0 0, .agg #[.int .i64 6, .int .i64 0]]) w) := by
  have hbW : Below w.heap.size w ((w.alloc (.cells #[.int .i64 vars, .slice A n c] 24)).alloc (.cells #[.int .i64 0, .int .i64 0] 28)) := (below_alloc (below_new _ _) _)
  have g := h.keep hbW
  have g' := h'.keep hbW
  have HBW := Lib.hid hbW
  clear hbW
  go_enter Try.func19, Try.ntmps19
  go_wp2_with fail
  refine (conflict_own _ _ _ _ _ _ xss l vars _ g hv g' hr t y v z a ha).mono ?_
  rintro e w1 ⟨hcf, _⟩
  obtain ⟨rfl, hb1⟩ := hcf hneg
  obtain ⟨k3, k4, _, l1⟩ := two_blks hb1
  have KR := Lib.hid k4
  have HB := Lib.hid (below_next HBW.out hb1)
  clear hb1 k3 k4 g g'
  go_wp2_with fail
  obtain ⟨w2, hw2⟩ : ∃ w2 : World, w2 = (w1.alloc (.cells #[.pointer none] 79)).alloc (.cells #[.int .i64 6, .int .i64 0] 28) := ⟨_, rfl⟩
  have K5 : Blk w2 (w.heap.size + 1) 28 #[.int .i64 0, .int .i64 0] := by rw [hw2]; exact (KR.out.alloc _).alloc _
  have K7 : Blk w2 (w1.heap.size + 1) 28 #[.int .i64 6, .int .i64 0] := by rw [hw2]; exact Blk.new' _ _ _ (by simp)
  have HB2 : Hid (Below w.heap.size w w2) := by rw [hw2]; exact below_alloc (below_alloc HB.out _) _
  try rw [← hw2]
  have t0 := K5.cell 0
  have t1 := K5.cell 1
  have tf0 := K5.frozen 0
  have tf1 := K5.frozen 1
  have q0 := K7.cell 0
  have q1 := K7.cell 1
  simp at t0 t1 q0 q1
  have l3 := K5.lt
  clear hw2 K5 K7
  go_region
  go_wp2_with fail
  refine bodyPost_ret (v := .tuple #[.slice none 0 0, .agg #[.int .i64 6, .int .i64 0]]) (by simp [results, Try.results19, go_sem, t0, t1, l3]) rfl ⟨rfl, ?_⟩
  exact (below_put2 HB2.out (g := w.heap.size + 1) (by omega) _ _).drew

def RetShort (R : List Int) (w : World) (e : Ending) (w' : World) : Prop :=
  ∃ A n c, e = .returned (.tuple #[.slice A n c, .agg #[.int .i64 0, .int .i64 0]]) ∧ Ints w' A n c R ∧ Below w.heap.size w w'

set_option maxHeartbeats 4000000 in
theorem learnShort_own (A B : Option Addr) (n c m d : Nat) (xss : List (List Int)) (l : List Int) (vars : Int) (w : World) (h : Grid w A n c xss) (hv : I64 vars) (h' : Ints w B m d l) (hr : Hid (besideR vars xss l = (0, 0))) (t y v : List Int) (z : Nat) (a : Int) (ha : Hid (startF vars xss l = (t, y, v, z, a))) (hneg : 0 ≤ a) :
    Calls Try.prog 19 #[.agg #[.int .i64 vars, .slice A n c], .slice B m d] w (RetShort (shortF xss t y v (taughtF xss t y v z a)) w) := by
  obtain ⟨_, hc0, hll⟩ := besideR_ok (vars := vars) (xss := xss) (l := l) (by rw [hr.out])
  obtain ⟨_, v0, v1, hn400, hrows⟩ := checkC_ok hc0
  have v6 : vars ≤ 1000000 := by omega
  have v3 : vars ≤ 1000 := by omega
  have HC : Hid (∀ x ∈ xss, Lits vars x) := fun x hx => (hrows x hx).2
  have HLL := Lib.hid hll
  have HLN : Hid (xss.length ≤ 400) := by first | exact hn400 | (rw [h.len]; exact hn400)
  have HOK := Lib.hid (startF_ok v0 (by omega) HC.out hll ha.out)
  have G := Lib.hid h
  have I := Lib.hid h'
  clear hrows hc0 hll hn400 h h'
  go_enter Try.func19, Try.ntmps19
  go_wp2_with fail
  refine (conflict_own _ _ _ _ _ _ xss l vars _ (G.out.keep (below_alloc (below_new _ _) _)) hv (I.out.keep (below_alloc (below_new _ _) _)) hr t y v z a ha).mono ?_
  rintro e w1 ⟨_, hcf⟩
  obtain ⟨gr, rfl, hlk, hb1⟩ := hcf hneg
  obtain ⟨K_c0, K_r0, B_w1, l_w1⟩ := two_blks hb1
  replace G := Lib.hid (G.out.keep B_w1)
  have HB := Lib.hid B_w1
  have K_r := Lib.hid K_r0
  have HLK := Lib.hid hlk
  have HTd : Hid (Told vars xss t y v z a) := by have := startF_told (q := l) v0 HC.out HLL.out.1; rw [ha.out] at this; exact this
  have HZ : Hid (z ≤ 1000000) := by have h1 := startF_z v0 HC.out HLL.out ha.out; have h2 := HLL.out.len_le v0; show _ ≤ _; omega
  obtain ⟨R, hR⟩ : ∃ R, Hid (taughtF xss t y v z a = R) := ⟨_, rfl⟩
  obtain ⟨S, hS⟩ : ∃ S, Hid (shortF xss t y v R = S) := ⟨_, rfl⟩
  clear hb1 B_w1 K_c0 K_r0 hlk hcf I
  go_wp2_with fail
  obtain ⟨w2, hw2⟩ : ∃ w2 : World, w2 = (w1.alloc (.cells #[.pointer (some ⟨gr, 0, none⟩)] 79)).alloc (.cells #[.int .i64 0, .int .i64 0] 28) := ⟨_, rfl⟩
  have hb12 : Below w1.heap.size w1 w2 := by rw [hw2]; exact below_alloc (below_new _ _) _
  have K_6 : Hid (Blk w2 w1.heap.size 79 #[.pointer (some ⟨gr, 0, none⟩)]) := by rw [hw2]; exact (Blk.new _ _ _).alloc _
  have K_7 : Hid (Blk w2 (w1.heap.size + 1) 28 #[.int .i64 0, .int .i64 0]) := by rw [hw2]; exact Blk.new' _ _ _ (by simp)
  try rw [← hw2]
  replace G := Lib.hid (G.out.keep hb12)
  replace K_r := Lib.hid (K_r.out.keep hb12)
  replace HLK := Lib.hid (HLK.out.keep hb12)
  replace HB := Lib.hid (below_next HB.out hb12)
  clear hw2 hb12
  refine (clause_any _ gr A n c xss t y v z a vars HLK.out G.out v0 (by omega) HTd.out hneg HC.out HZ.out R hR).mono ?_
  rintro e w3 ⟨A2, n2, c2, rfl, hown, hb3⟩
  replace G := Lib.hid (G.out.keep hb3)
  replace K_r := Lib.hid (K_r.out.keep hb3)
  replace K_6 := Lib.hid (K_6.out.keep hb3)
  replace K_7 := Lib.hid (K_7.out.keep hb3)
  replace HLK := Lib.hid (HLK.out.keep hb3)
  replace HB := Lib.hid (below_next HB.out hb3)
  have O2 := Lib.hid hown
  have HRM : Hid (∀ x ∈ R, -x ∈ t) := taught_neg HTd.out HC.out hneg hR.out
  have HRB : Hid (∀ x ∈ R, -1000000 ≤ x ∧ x ≤ 1000000) := fun x hx => by have := HTd.out.lits.1 _ (HRM.out x hx); omega
  have HRI : Hid (∀ x ∈ R, I64 x) := fun x hx => by have := HRB.out x hx; unfold I64; omega
  have hn2 : n2 ≤ 1000 := by
    have e1 := O2.out.len
    rw [List.length_map] at e1
    have e2 := taught_len HTd.out HC.out hneg hR.out
    have e3 := HTd.out.lits.len_le v0
    omega
  clear hb3 hown
  go_wp2_with fail
  obtain ⟨w4, hw4⟩ : ∃ w4 : World, w4 = w3.alloc (.cells #[.slice A2 n2 c2] 25) := ⟨_, rfl⟩
  have hb34 : Below w3.heap.size w3 w4 := by rw [hw4]; exact below_new _ _
  have K_8 : Hid (Blk w4 w3.heap.size 25 #[.slice A2 n2 c2]) := by rw [hw4]; exact Blk.new _ _ _
  try rw [← hw4]
  replace G := Lib.hid (G.out.keep hb34)
  replace K_r := Lib.hid (K_r.out.keep hb34)
  replace K_6 := Lib.hid (K_6.out.keep hb34)
  replace HLK := Lib.hid (HLK.out.keep hb34)
  replace HB := Lib.hid (below_next HB.out hb34)
  replace O2 := Lib.hid (O2.out.keep hb34)
  obtain ⟨b6, hb6⟩ : ∃ q, q = w1.heap.size := ⟨_, rfl⟩
  obtain ⟨b8, hb8⟩ : ∃ q, q = w3.heap.size := ⟨_, rfl⟩
  rw [← hb6] at K_6 ⊢
  rw [← hb8] at K_8 ⊢
  have c8 := K_8.out.cell 0
  simp at c8
  have z8 := (cell_lt c8).1
  obtain ⟨i0, hi0, hz0, hz1, hz2⟩ := info_parts int_info
  have hFL : Hid ([] ++ (R.drop 0).filter (fun x => !redB xss t y v R x) = S) := hS
  have hsz4 : w.heap.size + 1 < w4.heap.size := K_r.out.lt
  have HSK := hS
  clear hw4 hb34 hb6 hb8 K_7 hS
  go_loopw [10, 28] (fun s10 s28 wr => ∃ (k : Nat) (A9 : Option Addr) (n9 c9 : Nat) (nn : List Int), k ≤ n2 ∧ n9 ≤ k ∧ s10 = .slice A9 n9 c9 ∧ s28 = .int .i64 k ∧ Hid (Own 3 wr w4.heap.size A9 n9 c9 (nn.map (Value.int .i64))) ∧ Hid (∀ x ∈ nn, -1000000 ≤ x ∧ x ≤ 1000000) ∧ Hid (nn ++ (R.drop k).filter (fun x => !redB xss t y v R x) = S) ∧ Hid (Below w4.heap.size w4 wr)) (fun _ i _ => n2 - (intOf i).toNat)
  case atStart => exact ⟨0, none, 0, 0, [], Nat.zero_le _, Nat.le_refl _, rfl, rfl, Own.nil _ _ _, by simp [Hid], hFL, Below.refl _ _⟩
  case round =>
    clear hFL c8 z8
    obtain ⟨k, A9, n9, c9, nn, hk, hn9, rfl, rfl, HO, hN, hfl, hB⟩ := hrel
    by_cases hkn : k < n2
    · obtain ⟨b1, off1, x, hAe, hbb, hcell1, x1, x2, hxk⟩ := ((O2.out.ints HRI.out).keep hB.out).round hkn
      have hxm := List.mem_of_getElem? hxk.out
      have hxb := HRB.out x hxm
      have hxt : Hid (-x ∈ t) := HRM.out x hxm
      obtain ⟨p, hp⟩ : ∃ p, Hid (redB xss t y v R x = p) := ⟨_, rfl⟩
      have hst : Hid (nn ++ (if p then (R.drop (k + 1)).filter (fun x => !redB xss t y v R x) else x :: (R.drop (k + 1)).filter (fun x => !redB xss t y v R x)) = S) := by
        have := hfl.out
        rw [drop_cons_of hxk.out, List.filter_cons, hp.out] at this
        cases p <;> simpa [Hid] using this
      clear hfl hxk hxm
      have K6 := (K_6.out.keep hB.out).cell 0
      have K8 := (K_8.out.keep hB.out).cell 0
      simp at K6 K8
      have H6 := Lib.hid K6
      have H8 := Lib.hid K8
      clear K6 K8
      have HAe : Hid (A2 = some ⟨b1, off1, none⟩) := hAe
      have hcell1' := hcell1
      subst hAe
      go_wp2_with fail
      refine (short1_any wr gr b6 b8 A n c xss t y v z a vars (HLK.out.keep hB.out) (G.out.keep hB.out) HTd.out v0 v3 HC.out H6.out _ n2 c2 R ((O2.out.ints HRI.out).keep hB.out) H8.out x hxt.out p hp).mono ?_
      rintro e w5 ⟨rfl, m5, rfl⟩
      obtain ⟨wq, hwq⟩ : ∃ wq : World, wq = wr.drewN m5 := ⟨_, rfl⟩
      have hbq : Below wr.heap.size wr wq := by rw [hwq]; exact below_drewN _ _
      (try rw [← hwq])
      have HOQ := Lib.hid (HO.out.keep hbq)
      have BQ := Lib.hid (below_next hB.out hbq)
      have hqz := BQ.out.size
      clear hwq hbq hcell1 hcell1' hbb
      cases p
      · have hst2 : Hid (nn ++ x :: (R.drop (k + 1)).filter (fun x => !redB xss t y v R x) = S) := by simpa [Hid] using hst.out
        have hS := ints_made wq 3 [x] rfl (by simp [I64]; omega) (by simp [maxLen])
        clear hst
        go_wp2_with (first
          | (at_builtin
             refine wpList_append_sl _ rfl (.tmp 36) (.tmp 38) _ rfl w4.heap.size 3 i0 _ 8 Try.underlying25 hi0 hz0 hz1 hz2 rfl A9 n9 c9 _ rfl (HOQ.out.keep (below_new _ _)) (some ⟨wq.heap.size, 0, none⟩) 1 1 _ rfl hS.sl (ints_one _) (by simp only [maxLen]; omega) (by omega) (by simp; omega) ?_
             intro L1 cL1 w9 hL1 hg1 hat1
             have HL1 := Lib.hid hL1
             have HB9 : Hid (Below w4.heap.size w4 w9) := below_grown (below_alloc BQ.out (.cells #[.int .i64 x] 3)) (HOQ.out.keep (below_new wq (.cells #[.int .i64 x] 3))) (Nat.le_refl _) hg1
             clear hL1 hg1 hat1))
        go_roundw
        case rel =>
          refine ⟨k + 1, L1, n9 + 1, cL1, nn ++ [x], by omega, by omega, rfl, by go_num, by rw [Hid, List.map_append]; exact HL1.out, ?_, by have := hst2.out; simpa [Hid] using this, HB9⟩
          intro q hq
          rcases List.mem_append.1 hq with hq | hq
          · exact hN.out q hq
          · simp at hq; subst hq; exact hxb
        case measure => simp [intOf] <;> omega
      · have hst2 : Hid (nn ++ (R.drop (k + 1)).filter (fun x => !redB xss t y v R x) = S) := by simpa [Hid] using hst.out
        clear hst
        go_wp2_with fail
        go_roundw
        case rel => exact ⟨k + 1, A9, n9, c9, nn, by omega, by omega, rfl, by go_num, HOQ, hN, hst2, BQ⟩
        case measure => simp [intOf] <;> omega
    · have hfin : nn = S := by have := hfl.out; rw [List.drop_of_length_le (by have := O2.out.len; rw [List.length_map] at this; omega)] at this; simpa using this
      subst hfin
      clear hfl
      have KR := K_r.out.keep hB.out
      have BR := Lib.hid (below_next HB.out hB.out)
      have hsz2 : w.heap.size + 1 < wr.heap.size := KR.lt
      have cK_r_0 := KR.cell 0
      have cK_r_1 := KR.cell 1
      simp at cK_r_0 cK_r_1
      obtain ⟨q0, q1⟩ := KR.put2 (.int .i64 0) (.int .i64 0)
      have Q0 := Lib.hid q0
      have Q1 := Lib.hid q1
      have fK_r_0 := KR.frozen 0
      have fK_r_1 := KR.frozen 1
      have hne : blockOf A9 = none ∨ blockOf A9 ≠ some (w.heap.size + 1) := HO.out.geb (by omega)
      have HNI : ∀ x ∈ nn, I64 x := fun x hx => by have := hN.out x hx; unfold I64; omega
      have IR := Lib.hid (((HO.out.kept (grown_setCell _ ⟨w.heap.size + 1, 0, none⟩ (.int .i64 0)) hne).kept (grown_setCell _ ⟨w.heap.size + 1, 1, none⟩ (.int .i64 0)) hne).ints HNI)
      clear q0 q1 KR hne
      go_wp2_with fail
      exact bodyPost_ret (v := .tuple #[.slice A9 n9 c9, .agg #[.int .i64 0, .int .i64 0]]) (by simp [results, Try.results19, go_sem, Q0.out, Q1.out]) rfl ⟨A9, n9, c9, rfl, by rw [hR.out, HSK.out]; exact IR.out, below_put2 BR.out (g := w.heap.size + 1) (by omega) _ _⟩
end Go.Proofs.Ytabjbpkojbdgaaa
