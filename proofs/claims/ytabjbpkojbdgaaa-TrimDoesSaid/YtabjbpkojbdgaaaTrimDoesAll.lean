/- TrimDoesAll: the texts TrimCore, StepOwn, TrimDo, LearntRef, WantedRef, ProofLaw, SameSteps, TrimDoesWalk, TrimDoesLaw in one. -/
import Derived.Test.YtabjbpkojbdgaaaTrimReq
import Derived.Test.YtabjbpkojbdgaaaProg
import Derived.Test.YtabjbpkojbdgaaaSteps
import Derived.Test.YtabjbpkojbdgaaaOwn
import Derived.Test.YtabjbpkojbdgaaaPool
import Derived.Test.YtabjbpkojbdgaaaSorted
import Derived.Test.YtabjbpkojbdgaaaTrimPlain
import Derived.Test.YtabjbpkojbdgaaaCloneR
import Derived.Test.YtabjbpkojbdgaaaCompact
import Derived.Test.YtabjbpkojbdgaaaNeeded
import Derived.Test.YtabjbpkojbdgaaaStepsWrong
import Derived.Test.YtabjbpkojbdgaaaRefused
import Derived.Test.YtabjbpkojbdgaaaClone
import Derived.Test.YtabjbpkojbdgaaaBoxes
import Derived.Test.YtabjbpkojbdgaaaRefSort
import Derived.Test.YtabjbpkojbdgaaaAgainst
import Derived.Test.YtabjbpkojbdgaaaHeavy
import Derived.Test.YtabjbpkojbdgaaaRows
import Derived.Test.YtabjbpkojbdgaaaOpen
/- Contract of trim.Core. (Printed by wip/tools/trimcore.py.) -/
namespace Go.Proofs.Ytabjbpkojbdgaaa
open Go.RowKit
set_option linter.unusedSimpArgs false

/-- The places that are wanted, f of them from i on. -/
def coreI (W : List Bool) : Nat → Nat → List Int
  | 0, _ => []
  | f + 1, i => if W.getD i false = true then (i : Int) :: coreI W f (i + 1) else coreI W f (i + 1)
theorem wantedF_len {vars : Int} {xss : List (List Int)} {rs : List (Int × List Int)} : (wantedF vars xss rs).length = (xss ++ learntF rs).length := by
  unfold wantedF
  rw [wantF_len, List.length_set, List.length_replicate]
def RetCore (R : List Int) (w : World) (e : Ending) (w' : World) : Prop :=
  ∃ A n c, e = .returned (.tuple #[.slice A n c, .agg #[.int .i64 0, .int .i64 0]]) ∧ Ints w' A n c R ∧ Below w.heap.size w w'
set_option maxHeartbeats 1000000 in
theorem trimCore_wrong (A B : Option Addr) (n c m d : Nat) (xss : List (List Int)) (rs : List (Int × List Int)) (vars : Int) (w : World) (h : Grid w A n c xss) (hv : I64 vars) (h' : Steps w B m d rs) (r1 r2 : Int) (hr : Hid (proofR vars xss rs = (r1, r2))) (h0 : r1 ≠ 0) :
    Calls Try.prog 38 #[.agg #[.int .i64 vars, .slice A n c], .slice B m d] w (RetV (.tuple #[.slice none 0 0, .agg #[.int .i64 r1, .int .i64 r2]]) w) := by
  have d1 : (r1 != 0) = true := by simpa using h0
  have hbW : Below w.heap.size w ((w.alloc (.cells #[.int .i64 vars, .slice A n c] 24)).alloc (.cells #[.int .i64 0, .int .i64 0] 28)) := (below_alloc (below_new _ _) _)
  have g := h.keep hbW
  have g' := h'.keep hbW
  have HBW := Lib.hid hbW
  clear hbW
  go_enter Try.func38, Try.ntmps38
  go_wp2_with fail
  refine (required_wrong _ _ _ _ _ _ xss rs _ _ g hv g' _ _ hr h0).mono ?_
  rintro e w1 ⟨rfl, hb1⟩
  obtain ⟨k3, k4, _, l1⟩ := two_blks hb1
  have t0 := k4.cell 0
  have t1 := k4.cell 1
  have tf0 := k4.frozen 0
  have tf1 := k4.frozen 1
  simp at t0 t1
  have HB := Lib.hid (below_next HBW.out hb1)
  have l3 : w.heap.size + 1 < w1.heap.size := by omega
  clear hb1 k3 k4 g g'
  go_wp2_with fail
  go_region
  go_wp2_with fail
  refine bodyPost_ret (v := .tuple #[.slice none 0 0, .agg #[.int .i64 r1, .int .i64 r2]]) (by simp [results, Try.results38, go_sem, t0, t1, l3]) rfl ⟨rfl, ?_⟩
  exact ((below_put2 HB.out (g := w.heap.size + 1) (by omega) _ _).alloc (by simp; omega) _).drew

set_option maxHeartbeats 4000000 in
set_option maxRecDepth 100000 in
theorem trimCore_own (A B : Option Addr) (n c m d : Nat) (xss : List (List Int)) (rs : List (Int × List Int)) (vars : Int) (w : World) (h : Grid w A n c xss) (hv : I64 vars) (h' : Steps w B m d rs) (hr : Hid (proofR vars xss rs = (0, 0))) (o : List Bool) (ho : Hid (wantedF vars xss rs = o)) (C : List Int) (hC : Hid (coreI o n 0 = C)) :
    Calls Try.prog 38 #[.agg #[.int .i64 vars, .slice A n c], .slice B m d] w (RetCore C w) := by
  have hbd := h.bd
  obtain ⟨_, hst0, _⟩ := proofR_parts hr.out
  obtain ⟨_, hck, _, _⟩ := stepsR_ok hst0
  obtain ⟨_, _, _, hn400, _⟩ := checkC_ok hck
  have hn4 : n ≤ 400 := by have := h.len; omega
  have hol : Hid (n ≤ o.length) := by show _ ≤ _; rw [← ho.out, wantedF_len, List.length_append, h.len]; omega
  have G := Lib.hid h
  have V := Lib.hid h'
  obtain ⟨i0, hi0, hz0, hz1, hz2⟩ := info_parts int_info
  clear h h' hst0 hck hn400
  go_enter Try.func38, Try.ntmps38
  go_wp2_with fail
  refine (required_own _ _ _ _ _ _ xss rs vars _ (G.out.keep (below_alloc (below_new _ _) _)) hv (V.out.keep (below_alloc (below_new _ _) _)) hr o ho).mono ?_
  rintro e w1 ⟨L, nl, cl, gb, rfl, hO, hbo, hb1⟩
  obtain ⟨K_c0, K_r0, B_w1, l_w1⟩ := two_blks hb1
  have HB := Lib.hid B_w1
  have K_c := Lib.hid K_c0
  have K_r := Lib.hid K_r0
  have HBO := Lib.hid hbo
  have hnl : Hid (nl = o.length) := hbo.len.symm
  have c0 := K_c.out.cell 0
  have c1 := K_c.out.cell 1
  simp at c0 c1
  have zc := K_c.out.lt
  obtain ⟨w2, hw2⟩ : ∃ w2 : World, w2 = w1.alloc (.cells #[.int .i64 0, .int .i64 0] 28) := ⟨_, rfl⟩
  have hb12 : Hid (Below w1.heap.size w1 w2) := by rw [hw2]; exact below_new _ _
  have hsz2 : Hid (w.heap.size + 2 ≤ w2.heap.size) := by have := hb12.out.size; show _ ≤ _; omega
  have hC0 : Hid ([] ++ coreI o (n - 0) 0 = C) := hC
  clear hb1 K_c0 K_r0 B_w1 hbo hO hC
  go_wp2_with fail
  rw [← hw2]
  clear hw2 c0 c1 zc
  go_loopw [9, 25] (fun s9 s25 wr => ∃ (k : Nat) (A9 : Option Addr) (n9 c9 : Nat) (nn : List Int), k ≤ n ∧ n9 ≤ k ∧ s9 = .slice A9 n9 c9 ∧ s25 = .int .i64 k ∧ Hid (Own 3 wr w2.heap.size A9 n9 c9 (nn.map (Value.int .i64))) ∧ Hid (∀ x ∈ nn, 0 ≤ x ∧ x ≤ 1000000) ∧ Hid (nn ++ coreI o (n - k) k = C) ∧ Hid (Below w2.heap.size w2 wr)) (fun _ i _ => n - (intOf i).toNat)
  case atStart => exact ⟨0, none, 0, 0, [], Nat.zero_le _, Nat.le_refl _, rfl, rfl, Own.nil _ _ _, by simp [Hid], hC0, Below.refl _ _⟩
  case round =>
    clear hC0
    obtain ⟨k, A9, n9, c9, nn, hk, hn9, rfl, rfl, HO, hN, hfl, hB⟩ := hrel
    by_cases hkn : k < n
    · have hkl : k < nl := by have := hol.out; have := hnl.out; omega
      obtain ⟨b1, off1, q, hAe, hbb, hcell1, hqk⟩ := ((HBO.out.keep hb12.out).keep hB.out).round hkl
      have hst : Hid (nn ++ (if q = true then (k : Int) :: coreI o (n - (k + 1)) (k + 1) else coreI o (n - (k + 1)) (k + 1)) = C) := by
        have := hfl.out
        rw [show n - k = (n - (k + 1)) + 1 by omega, coreI, List.getD_eq_getElem?_getD, hqk.out] at this
        exact this
      have z3 : (0 : Int) ≤ (k : Int) := by omega
      have z4 : (k : Int) < (nl : Int) := by omega
      have hwr := hB.out.size
      cases hAe
      rw [Nat.zero_add] at hcell1
      clear hfl hqk
      cases q
      · have hst2 : Hid (nn ++ coreI o (n - (k + 1)) (k + 1) = C) := by simpa [Hid] using hst.out
        clear hst
        go_wp2_with fail
        go_roundw
        case rel => exact ⟨k + 1, A9, n9, c9, nn, by omega, by omega, rfl, by go_num, HO, hN, hst2, hB⟩
        case measure => simp [intOf] <;> omega
      · have hst2 : Hid (nn ++ (k : Int) :: coreI o (n - (k + 1)) (k + 1) = C) := by simpa [Hid] using hst.out
        have hS := ints_made wr 3 [(k : Int)] rfl (by simp [I64]; omega) (by simp [maxLen])
        clear hst
        go_wp2_with (first
          | (at_builtin
             refine wpList_append_sl _ rfl (.tmp 32) (.tmp 34) _ rfl w2.heap.size 3 i0 _ 8 Try.underlying25 hi0 hz0 hz1 hz2 rfl A9 n9 c9 _ rfl (HO.out.keep (below_new _ _)) (some ⟨wr.heap.size, 0, none⟩) 1 1 _ rfl hS.sl (ints_one _) (by simp only [maxLen]; omega) (by omega) (by simp; omega) ?_
             intro L1 cL1 w9 hL1 hg1 hat1
             have HL1 := Lib.hid hL1
             have HB9 : Hid (Below w2.heap.size w2 w9) := below_grown (below_alloc hB.out (.cells #[.int .i64 (k : Int)] 3)) (HO.out.keep (below_new wr (.cells #[.int .i64 (k : Int)] 3))) (Nat.le_refl _) hg1
             clear hL1 hg1 hat1))
        go_roundw
        case rel =>
          refine ⟨k + 1, L1, n9 + 1, cL1, nn ++ [(k : Int)], by omega, by omega, rfl, by go_num, by rw [Hid, List.map_append]; exact HL1.out, ?_, by have := hst2.out; simpa [Hid] using this, HB9⟩
          intro q hq
          rcases List.mem_append.1 hq with hq | hq
          · exact hN.out q hq
          · simp at hq; subst hq; omega
        case measure => simp [intOf] <;> omega
    · obtain rfl : nn = C := by have := hfl.out; rw [show n - k = 0 by omega, coreI] at this; simpa using this
      clear hfl
      have KR := K_r.out.keep (below_next hb12.out hB.out)
      have BR := Lib.hid (below_next HB.out (below_next hb12.out hB.out))
      have hsz3 : w.heap.size + 1 < wr.heap.size := KR.lt
      have cK_r_0 := KR.cell 0
      have cK_r_1 := KR.cell 1
      simp at cK_r_0 cK_r_1
      obtain ⟨q0, q1⟩ := KR.put2 (.int .i64 0) (.int .i64 0)
      have Q0 := Lib.hid q0
      have Q1 := Lib.hid q1
      have fK_r_0 := KR.frozen 0
      have fK_r_1 := KR.frozen 1
      have hne : blockOf A9 = none ∨ blockOf A9 ≠ some (w.heap.size + 1) := HO.out.geb (by have := hsz2.out; omega)
      have HNI : ∀ x ∈ nn, I64 x := fun x hx => by have := hN.out x hx; unfold I64; omega
      have IR := Lib.hid (((HO.out.kept (grown_setCell _ ⟨w.heap.size + 1, 0, none⟩ (.int .i64 0)) hne).kept (grown_setCell _ ⟨w.heap.size + 1, 1, none⟩ (.int .i64 0)) hne).ints HNI)
      clear q0 q1 KR hne
      go_wp2_with fail
      exact bodyPost_ret (v := .tuple #[.slice A9 n9 c9, .agg #[.int .i64 0, .int .i64 0]]) (by simp [results, Try.results38, go_sem, Q0.out, Q1.out]) rfl ⟨A9, n9, c9, rfl, IR.out, below_put2 BR.out (g := w.heap.size + 1) (by omega) _ _⟩
end Go.Proofs.Ytabjbpkojbdgaaa

/- A slice of steps of the call's own, each of which learns a clause: made, grown, read. -/
namespace Go.Proofs.Ytabjbpkojbdgaaa
open Go.RowKit
set_option linter.unusedSimpArgs false

def stepZ : Value := .agg #[.int .i64 0, .slice none 0 0, .slice none 0 0, .int .i64 0, .int .i64 0, .int .i64 0, .slice none 0 0, .int .i64 0, .int .i64 0]
theorem step_info : (Try.prog.info? 102).map (fun i => (i.zero, i.size, i.bytes)) = some (some stepZ, 9, 120) := by kernel_rfl
/-- The cells of a step that learns. -/
def cells9 (s : Option Addr × Nat × Nat) : List Value := [.int .i64 1, .slice s.1 s.2.1 s.2.2, .slice none 0 0, .int .i64 0, .int .i64 0, .int .i64 0, .slice none 0 0, .int .i64 0, .int .i64 0]
theorem cells9_len (s : Option Addr × Nat × Nat) : (cells9 s).length = 9 := rfl
def OwnC (w : World) (base : Nat) (B : Option Addr) (n d : Nat) (xs : List Value) : Prop := w.ownsRow base 102 9 (.slice B n d) n xs
def OwnS (w : World) (base low : Nat) (B : Option Addr) (n d : Nat) (l : List (List Int)) : Prop :=
  ∃ ss : List (Option Addr × Nat × Nat), OwnC w base B n d (ss.flatMap cells9) ∧ ss.length = l.length ∧ ∀ (k : Nat) (s : Option Addr × Nat × Nat) (xs : List Int), ss[k]? = some s → l[k]? = some xs → Ints w s.1 s.2.1 s.2.2 xs ∧ Away 3 w low s.1 s.2.1
theorem OwnC.form {w : World} {base n d : Nat} {B : Option Addr} {xs : List Value} (h : OwnC w base B n d xs) : (B = none ∧ n = 0 ∧ d = 0 ∧ xs = []) ∨ ∃ g cur, B = some ⟨g, 0, none⟩ ∧ base ≤ g ∧ w.heap[g]? = some (.cells cur 102 (0, 0)) ∧ n ≤ d ∧ d ≤ maxLen ∧ cur.size = d * 9 := by
  rcases h.2 with ⟨h2, h3⟩ | ⟨g, cap, cur, h2, h3, h4, h5, h6, h7, h8⟩
  · left
    injection h2 with a1 a2 a3
    have := h.1
    subst h3
    simp at this
    exact ⟨a1, rfl, a3, this⟩
  · right
    injection h2 with a1 a2 a3
    subst a3
    exact ⟨g, cur, a1, h3, h4, h5, h6, h7⟩
theorem OwnC.keep {w w' : World} {base n d : Nat} {B : Option Addr} {xs : List Value} (h : OwnC w base B n d xs) (hb : Below w.heap.size w w') : OwnC w' base B n d xs := by
  refine ⟨h.1, ?_⟩
  rcases h.2 with h2 | ⟨g, cap, cur, hv, hg, hh, r⟩
  · exact .inl h2
  · have hlt : g < w.heap.size := by
      rcases Nat.lt_or_ge g w.heap.size with hlt | hge
      · exact hlt
      · rw [Array.getElem?_eq_none hge] at hh; cases hh
    exact .inr ⟨g, cap, cur, hv, hg, (hb.block g hlt).trans hh, r⟩
theorem OwnC.kept {w w' : World} {base n d : Nat} {B : Option Addr} {xs : List Value} {row : Option Nat} (h : OwnC w base B n d xs) (hg : w.grownBy w' row) (hne : blockOf B = none ∨ blockOf B ≠ row) : OwnC w' base B n d xs :=
  World.ownsRow.kept h hg (by rw [blockOf_own]; exact hne)
theorem OwnC.ne_typed {w : World} {base n d g : Nat} {t : TypeId} {B : Option Addr} {xs : List Value} (h : OwnC w base B n d xs) (hT : Typed t w g) (hne : 102 ≠ t) : blockOf B = none ∨ blockOf B ≠ some g := by
  rcases h.form with ⟨rfl, _⟩ | ⟨g', cur, rfl, _, hh, _⟩
  · exact .inl rfl
  · right
    intro e
    simp [blockOf] at e
    subst e
    obtain ⟨cs, fz, hcs⟩ := hT
    rw [hh] at hcs
    injection hcs with hcs
    injection hcs with _ ht
    exact hne ht
theorem OwnC.geb {w : World} {base n d k : Nat} {B : Option Addr} {xs : List Value} (h : OwnC w base B n d xs) (hk : k < base) : blockOf B = none ∨ blockOf B ≠ some k := by
  rcases h.form with ⟨rfl, _⟩ | ⟨g', cur, rfl, hg, _⟩
  · exact .inl rfl
  · right
    intro e
    simp [blockOf] at e
    omega
theorem OwnC.base {w : World} {base n d k : Nat} {B : Option Addr} {xs : List Value} (h : OwnC w base B n d xs) (hk : blockOf B = some k) : base ≤ k ∧ Typed 102 w k := by
  rcases h.form with ⟨rfl, _⟩ | ⟨g', cur, rfl, hg, hh, _⟩
  · cases hk
  · cases hk; exact ⟨hg, ⟨_, _, hh⟩⟩
section
variable {P : Program} (w : World)
theorem wpList_append_step {ops : Array Oper} {rest : List Oper} {o : Oper} {a : Act} {Q : Exit → Act → World → Prop} (hgd : o.guard = none) (s x : Operand) (t : TypeId)
    (ho : o.op = .call { callee := .builtin .append, args := #[s, x], argTypes := #[t, t] })
    (base : Nat) (e : TypeId) (i : TypeInfo) (z : Value) (ht : P.underlying t = some (.slice e)) (hi : P.info? e = some i) (hz : i.zero = some z)
    (hsize : i.size = 9) (hby : i.bytes = 120) (hzs : z.cells.size = 9)
    (B : Option Addr) (n d : Nat) (xs : List Value) (hs : a.eval s = .slice B n d) (hown : w.ownsRow base e 9 (.slice B n d) n xs)
    (b : Nat) (news : List Value) (hx : a.eval x = .slice (some ⟨b, 0, none⟩) 1 1) (hl : news.length = 9) (hc : ∀ j u, news[j]? = some u → w.cell? ⟨b, j, none⟩ = some u) (h1 : ∀ u ∈ news, u.oneCell' = true)
    (h63 : n + 1 ≤ maxLen) (hbytes : (n + 1) * 120 ≤ 140737488355328) (hbase : base ≤ w.heap.size)
    (h : ∀ B' d' w', w'.ownsRow base e 9 (.slice B' (n + 1) d') (n + 1) (xs ++ news) → w.grownBy w' (blockOf B) → wpList P ops Q rest (a.put o.dst (.slice B' (n + 1) d')) w') : wpList P ops Q (o :: rest) a w := by
  refine wpList_plain hgd fun _ hK => ?_
  have form : ∀ (v' : Value) (w' : World), w'.ownsRow base e 9 v' (n + 1) (xs ++ news) → ∃ B' d', v' = Value.slice B' (n + 1) d' := fun v' w' h => by
    rcases h.2 with ⟨hv, hn⟩ | ⟨g, cap, cur, hv, _⟩
    · omega
    · exact ⟨_, _, hv⟩
  obtain ⟨v', w', hrun, h2, h3, _, h5⟩ := run_append_own_at (P := P) w base t o.type e i z 9 120 ht hi hz hsize hby hzs (by omega) (.slice B n d) n xs hown ⟨b, 0, none⟩ 1 1 news (by rw [hl]) (fun j u hj => by
    have := hc j u hj
    unfold Addr.add
    by_cases h0 : j = 0
    · subst h0; simpa using this
    · simpa [h0] using this) h1 h63 hbytes hbase
  obtain ⟨B', d', rfl⟩ := form v' w' h2
  rw [blockOf_own] at h3
  unfold Oper.wp execOp
  simp only [ho, resolve, invoke, builtin, Sem.run_bind, Sem.run_pure, Result.andThen_ok, List.map_toArray, List.map_cons, List.map_nil, hs, hx, hrun]
  exact hK _ _ (h B' d' w' h2 h3)
end
theorem OwnS.nil (w : World) (base low : Nat) : OwnS w base low none 0 0 [] := ⟨[], World.ownsRow_nil _ _ _ _, rfl, by simp⟩
theorem OwnS.keep {w w' : World} {base low n d : Nat} {B : Option Addr} {l : List (List Int)} (h : OwnS w base low B n d l) (hb : Below w.heap.size w w') : OwnS w' base low B n d l := by
  obtain ⟨ss, h1, h2, h3⟩ := h
  exact ⟨ss, h1.keep hb, h2, fun k s xs hs hx => ⟨(h3 k s xs hs hx).1.keep hb, (h3 k s xs hs hx).2.keep hb⟩⟩
theorem OwnS.kept {w w' : World} {base low n d : Nat} {B : Option Addr} {l : List (List Int)} {row : Option Nat} {t : TypeId} (h : OwnS w base low B n d l) (hg : w.grownBy w' row) (hr : ∀ g, row = some g → low ≤ g ∧ Typed t w g) (ne : 102 ≠ t) (nt : (3 : TypeId) ≠ t) : OwnS w' base low B n d l := by
  obtain ⟨ss, h1, h2, h3⟩ := h
  refine ⟨ss, h1.kept hg ?_, h2, fun k s xs hs hx => ?_⟩
  · cases row with
    | none =>
      by_cases h0 : blockOf B = none
      · exact .inl h0
      · exact .inr h0
    | some g => exact h1.ne_typed (hr g rfl).2 ne
  · have one := h3 k s xs hs hx
    have hrow : RowsP 3 w low [Value.slice s.1 s.2.1 s.2.2] [xs] := ⟨rfl, fun k' v hv => by
      match k', hv with
      | 0, hv => simp at hv; subst hv; exact ⟨_, _, _, xs, rfl, rfl, one.1, one.2⟩
      | k' + 1, hv => simp at hv⟩
    obtain ⟨A', n', c', ys, e1, e2, e3, e4⟩ := (hrow.kept hg hr nt).2 0 _ rfl
    cases e1
    simp at e2
    subst e2
    exact ⟨e3, e4⟩
theorem OwnS.len {w : World} {base low n d : Nat} {B : Option Addr} {l : List (List Int)} (h : OwnS w base low B n d l) : l.length = n := by
  obtain ⟨ss, h1, h2, h3⟩ := h
  have := h1.1
  rw [List.length_flatMap] at this
  have e : (ss.map (fun a => (cells9 a).length)).sum = ss.length * 9 := by
    clear h1 h2 h3 this
    induction ss with
    | nil => rfl
    | cons a r ih => rw [List.map_cons, List.sum_cons, ih, cells9_len, List.length_cons]; omega
  rw [e] at this
  omega
/-- One step more. -/
theorem OwnS.push1 {ss : List (Option Addr × Nat × Nat)} {w w' : World} {base low n d d2 n' c' : Nat} {B B2 A' : Option Addr} {l : List (List Int)} {xs : List Int} (_ : OwnS w base low B n d l) (h1 : OwnC w base B n d (ss.flatMap cells9)) (h2 : ss.length = l.length) (h3 : ∀ (k : Nat) (s : Option Addr × Nat × Nat) (xs : List Int), ss[k]? = some s → l[k]? = some xs → Ints w s.1 s.2.1 s.2.2 xs ∧ Away 3 w low s.1 s.2.1) (hbl : low ≤ base) (hi : Ints w A' n' c' xs) (ha : Away 3 w low A' n')
    (ho : OwnC w' base B2 (n + 1) d2 (ss.flatMap cells9 ++ cells9 (A', n', c'))) (hg : w.grownBy w' (blockOf B)) : OwnS w' base low B2 (n + 1) d2 (l ++ [xs]) := by
  have hrow : RowsP 3 w low ((ss ++ [(A', n', c')]).map fun s => Value.slice s.1 s.2.1 s.2.2) (l ++ [xs]) := ⟨by simp [h2], fun k v hv => by
    rw [List.getElem?_map, Option.map_eq_some_iff] at hv
    obtain ⟨s, hs, rfl⟩ := hv
    rcases Nat.lt_or_ge k ss.length with hk | hk
    · rw [List.getElem?_append_left hk] at hs
      have hlk : k < l.length := by omega
      have := h3 k s _ hs (List.getElem?_eq_getElem hlk)
      exact ⟨_, _, _, _, rfl, by rw [List.getElem?_append_left hlk]; exact List.getElem?_eq_getElem hlk, this.1, this.2⟩
    · have hk0 : k = ss.length := by
        have := (List.getElem?_eq_some_iff.1 hs).1
        simp at this
        omega
      subst hk0
      rw [List.getElem?_concat_length] at hs
      injection hs with hs
      subst hs
      exact ⟨_, _, _, xs, rfl, by rw [h2, List.getElem?_concat_length], hi, ha⟩⟩
  have hkept := hrow.kept hg (fun g hg' => ⟨Nat.le_trans hbl (h1.base hg').1, (h1.base hg').2⟩) (show (3 : TypeId) ≠ 102 by decide)
  refine ⟨ss ++ [(A', n', c')], ?_, by simp [h2], fun k s ys hs hy => ?_⟩
  · rw [List.flatMap_append]
    simpa using ho
  · obtain ⟨A2, n2, c2, zs, e1, e2, e3, e4⟩ := hkept.2 k (Value.slice s.1 s.2.1 s.2.2) (by rw [List.getElem?_map, hs]; rfl)
    cases e1
    rw [hy] at e2
    injection e2 with e2
    subst e2
    exact ⟨e3, e4⟩
theorem flat9 (ss : List (Option Addr × Nat × Nat)) (k j : Nat) (s : Option Addr × Nat × Nat) (hs : ss[k]? = some s) (hj : j < 9) : (ss.flatMap cells9)[k * 9 + j]? = (cells9 s)[j]? := by
  induction ss generalizing k with
  | nil => simp at hs
  | cons a r ih =>
    rw [List.flatMap_cons]
    cases k with
    | zero =>
      simp at hs
      subst hs
      rw [List.getElem?_append_left (by rw [cells9_len]; omega), Nat.zero_mul, Nat.zero_add]
    | succ k =>
      rw [List.getElem?_append_right (by rw [cells9_len]; omega), cells9_len, show (k + 1) * 9 + j - 9 = k * 9 + j by omega]
      exact ih k (by simpa using hs)
/-- A slice of steps that learn, each with no numbers. -/
structure Learnts (w : World) (A : Option Addr) (n c : Nat) (l : List (List Int)) : Prop where
  len : l.length = n
  le : n ≤ c
  cap : c ≤ maxLen
  at_ : 0 < n → ∃ b, A = some ⟨b, 0, none⟩ ∧ b < w.heap.size ∧ ∀ k xs, l[k]? = some xs → ∃ X nx cx, (∀ j u, (cells9 (X, nx, cx))[j]? = some u → w.cell? ⟨b, k * 9 + j, none⟩ = some u) ∧ Ints w X nx cx xs
theorem OwnS.learnts {w : World} {base low n d : Nat} {B : Option Addr} {l : List (List Int)} (h : OwnS w base low B n d l) : Learnts w B n d l := by
  have hl := h.len
  obtain ⟨ss, h1, h2, h3⟩ := h
  rcases h1.form with ⟨rfl, rfl, rfl, _⟩ | ⟨g, cur, rfl, hg, hh, hnd, hdm, _⟩
  · exact ⟨hl, Nat.le_refl _, Nat.zero_le _, fun h => by omega⟩
  · refine ⟨hl, hnd, hdm, fun _ => ⟨g, rfl, ?_, fun k xs hx => ?_⟩⟩
    · rcases Nat.lt_or_ge g w.heap.size with hlt | hge
      · exact hlt
      · rw [Array.getElem?_eq_none hge] at hh; cases hh
    · have hk : k < ss.length := by have := (List.getElem?_eq_some_iff.1 hx).1; omega
      obtain ⟨s, hs⟩ : ∃ s, ss[k]? = some s := ⟨_, List.getElem?_eq_getElem hk⟩
      refine ⟨s.1, s.2.1, s.2.2, fun j u hu => ?_, (h3 k s xs hs hx).1⟩
      have hj : j < 9 := by have := (List.getElem?_eq_some_iff.1 hu).1; rw [cells9_len] at this; exact this
      rw [World.ownsRow.cellAt h1 (k * 9 + j) (by omega), flat9 ss k j s hs hj]
      exact hu
theorem Learnts.keep {w w' : World} {A : Option Addr} {n c : Nat} {l : List (List Int)} (h : Learnts w A n c l) (hb : Below w.heap.size w w') : Learnts w' A n c l :=
  ⟨h.len, h.le, h.cap, fun hn => by
    obtain ⟨b, e, hlt, hc⟩ := h.at_ hn
    refine ⟨b, e, Nat.lt_of_lt_of_le hlt hb.size, fun k xs hx => ?_⟩
    obtain ⟨X, nx, cx, h1, h2⟩ := hc k xs hx
    exact ⟨X, nx, cx, fun j u hu => keepBox hb (h1 j u hu), h2.keep hb⟩⟩
theorem Learnts.steps {w : World} {A : Option Addr} {n c : Nat} {l : List (List Int)} (h : Learnts w A n c l) : Steps w A n c (l.map (fun x => (1, x))) :=
  ⟨by simp [h.len], h.le, h.cap, fun hn => by
    obtain ⟨b, e, hlt, hc⟩ := h.at_ hn
    refine ⟨b, 0, e, hlt, fun k r hr => ?_⟩
    rw [List.getElem?_map, Option.map_eq_some_iff] at hr
    obtain ⟨xs, hx, rfl⟩ := hr
    obtain ⟨X, nx, cx, h1, h2⟩ := hc k xs hx
    refine ⟨X, nx, cx, none, 0, 0, 0, 0, 0, none, 0, 0, 0, 0, ?_, ?_, ?_, ?_, ?_, ?_, ?_, ?_, ?_, h2⟩
    · rw [Nat.zero_add]; exact h1 0 _ rfl
    all_goals (rw [Nat.zero_add]; first | exact h1 1 _ rfl | exact h1 2 _ rfl | exact h1 3 _ rfl | exact h1 4 _ rfl | exact h1 5 _ rfl | exact h1 6 _ rfl | exact h1 7 _ rfl | exact h1 8 _ rfl), fun r hr => by
    obtain ⟨xs, _, rfl⟩ := List.mem_map.1 hr
    simp [I64]⟩
end Go.Proofs.Ytabjbpkojbdgaaa

/- Contract of trim.Do. (Printed by wip/tools/trimdo.py.) -/
namespace Go.Proofs.Ytabjbpkojbdgaaa
open Go.RowKit
set_option linter.unusedSimpArgs false

def RetTrim (l : List (List Int)) (w : World) (e : Ending) (w' : World) : Prop :=
  ∃ A n c, e = .returned (.tuple #[.slice A n c, .agg #[.int .i64 0, .int .i64 0]]) ∧ Learnts w' A n c l ∧ Below w.heap.size w w'
theorem cells9_one (s : Option Addr × Nat × Nat) : ∀ u ∈ cells9 s, u.oneCell' = true := by
  intro u hu
  simp only [cells9, List.mem_cons, List.not_mem_nil, or_false] at hu
  rcases hu with h | h | h | h | h | h | h | h | h <;> (rw [h]; rfl)
set_option maxHeartbeats 1000000 in
theorem trimDo_wrong (A B : Option Addr) (n c m d : Nat) (xss : List (List Int)) (rs : List (Int × List Int)) (vars : Int) (w : World) (h : Grid w A n c xss) (hv : I64 vars) (h' : Steps w B m d rs) (r1 r2 : Int) (hr : Hid (proofR vars xss rs = (r1, r2))) (h0 : r1 ≠ 0) :
    Calls Try.prog 30 #[.agg #[.int .i64 vars, .slice A n c], .slice B m d] w (RetV (.tuple #[.slice none 0 0, .agg #[.int .i64 r1, .int .i64 r2]]) w) := by
  have d1 : (r1 != 0) = true := by simpa using h0
  have hbW : Below w.heap.size w ((w.alloc (.cells #[.int .i64 vars, .slice A n c] 24)).alloc (.cells #[.int .i64 0, .int .i64 0] 28)) := (below_alloc (below_new _ _) _)
  have g := h.keep hbW
  have g' := h'.keep hbW
  have HBW := Lib.hid hbW
  clear hbW
  go_enter Try.func30, Try.ntmps30
  go_wp2_with fail
  refine (required_wrong _ _ _ _ _ _ xss rs _ _ g hv g' _ _ hr h0).mono ?_
  rintro e w1 ⟨rfl, hb1⟩
  obtain ⟨k3, k4, _, l1⟩ := two_blks hb1
  have t0 := k4.cell 0
  have t1 := k4.cell 1
  have tf0 := k4.frozen 0
  have tf1 := k4.frozen 1
  simp at t0 t1
  have HB := Lib.hid (below_next HBW.out hb1)
  have l3 : w.heap.size + 1 < w1.heap.size := by omega
  clear hb1 k3 k4 g g'
  go_wp2_with fail
  go_region
  go_wp2_with fail
  refine bodyPost_ret (v := .tuple #[.slice none 0 0, .agg #[.int .i64 r1, .int .i64 r2]]) (by simp [results, Try.results30, go_sem, t0, t1, l3]) rfl ⟨rfl, ?_⟩
  exact ((below_put2 HB.out (g := w.heap.size + 1) (by omega) _ _).alloc (by simp; omega) _).drew

set_option maxHeartbeats 4000000 in
set_option maxRecDepth 100000 in
theorem trimDo_own (A B : Option Addr) (n c m d : Nat) (xss : List (List Int)) (rs : List (Int × List Int)) (vars : Int) (w : World) (h : Grid w A n c xss) (hv : I64 vars) (h' : Steps w B m d rs) (hr : Hid (proofR vars xss rs = (0, 0))) (o : List Bool) (ho : Hid (wantedF vars xss rs = o)) (R : List (List Int)) (hR : Hid ((pickF o (learntF rs) n).map sortF = R)) :
    Calls Try.prog 30 #[.agg #[.int .i64 vars, .slice A n c], .slice B m d] w (RetTrim R w) := by
  have hbd := h.bd
  obtain ⟨_, hst0, _⟩ := proofR_parts hr.out
  obtain ⟨_, hck, hm3, hrs⟩ := stepsR_ok hst0
  obtain ⟨_, v0, v1, hn400, hrows⟩ := checkC_ok hck
  have hn4 : n ≤ 400 := by have := h.len; omega
  obtain ⟨row, hrow⟩ : ∃ row, Hid (xss ++ learntF rs = row) := ⟨_, rfl⟩
  have hrl : Hid (∀ x ∈ row, Lits vars x) := fun x hx => by
    rw [← hrow.out] at hx
    rcases List.mem_append.1 hx with hx | hx
    · exact (hrows x hx).2
    · unfold learntF at hx
      obtain ⟨r, hr1, rfl⟩ := List.mem_map.1 hx
      exact (hrs r (List.mem_filter.1 hr1).1).2
  have hrlen : Hid (row.length ≤ 3400 ∧ n ≤ row.length ∧ row.drop n = learntF rs ∧ o.length = row.length) := by
    have h1 : (learntF rs).length ≤ rs.length := by unfold learntF; rw [List.length_map]; exact List.length_filter_le _ _
    have h2 := h.len
    refine ⟨?_, ?_, ?_, ?_⟩
    · rw [← hrow.out, List.length_append]; omega
    · rw [← hrow.out, List.length_append]; omega
    · rw [← hrow.out, ← h2, List.drop_left']; rfl
    · rw [← ho.out, wantedF_len, hrow.out]
  have G := Lib.hid h
  have V := Lib.hid h'
  obtain ⟨i0, hi0, hz0, hz1, hz2⟩ := info_parts step_info
  clear h h' hst0 hck hn400 hrs hrows hm3
  go_enter Try.func30, Try.ntmps30
  go_wp2_with fail
  refine (required_own _ _ _ _ _ _ xss rs vars _ (G.out.keep (below_alloc (below_new _ _) _)) hv (V.out.keep (below_alloc (below_new _ _) _)) hr o ho).mono ?_
  rintro e w1 ⟨L, nl, cl, gb, rfl, hO, hbo, hb1⟩
  rw [hrow.out] at hO
  obtain ⟨K_c0, K_r0, B_w1, l_w1⟩ := two_blks hb1
  have HB := Lib.hid B_w1
  have K_c := Lib.hid K_c0
  have K_r := Lib.hid K_r0
  have HBO := Lib.hid hbo
  have HO := Lib.hid hO
  have hnl := Lib.hid hO.len
  have c0 := K_c.out.cell 0
  have c1 := K_c.out.cell 1
  simp at c0 c1
  have zc := K_c.out.lt
  obtain ⟨w2, hw2⟩ : ∃ w2 : World, w2 = w1.alloc (.cells #[.int .i64 0, .int .i64 0] 28) := ⟨_, rfl⟩
  have hb12 : Hid (Below w1.heap.size w1 w2) := by rw [hw2]; exact below_new _ _
  have hsz2 : Hid (w.heap.size + 2 ≤ w2.heap.size) := by have := hb12.out.size; show _ ≤ _; omega
  have hR0 : Hid ([] ++ (pickF o (row.drop n) n).map sortF = R) := by have := hR.out; rw [← hrlen.out.2.2.1] at this; exact this
  have hnl4 : nl ≤ 3400 := by have h1 := hnl.out; have h2 := hrlen.out.1; omega
  have hnnl : n ≤ nl := by have h1 := hnl.out; have h2 := hrlen.out.2.1; omega
  clear hb1 K_c0 K_r0 B_w1 hbo hO hR
  go_wp2_with fail
  rw [← hw2]
  clear hw2 c0 c1 zc
  go_loopw [9, 10] (fun s9 s10 wr => ∃ (k : Nat) (A9 : Option Addr) (n9 c9 : Nat) (nn : List (List Int)), k ≤ nl ∧ n ≤ k ∧ n9 ≤ k ∧ s9 = .slice A9 n9 c9 ∧ s10 = .int .i64 k ∧ Hid (OwnS wr w2.heap.size w2.heap.size A9 n9 c9 nn) ∧ Hid (nn ++ (pickF o (row.drop k) k).map sortF = R) ∧ Hid (Below w2.heap.size w2 wr)) (fun _ i _ => nl - (intOf i).toNat)
  case atStart => exact ⟨n, none, 0, 0, [], hnnl, Nat.le_refl _, Nat.zero_le _, rfl, rfl, OwnS.nil _ _ _, hR0, Below.refl _ _⟩
  case round =>
    clear hR0
    obtain ⟨k, A9, n9, c9, nn, hk, hnk, hn9, rfl, rfl, HS, hfl, hB⟩ := hrel
    by_cases hkn : k < nl
    · obtain ⟨b1, off1, q, hAe, hbb, hcell1, hqk⟩ := ((HBO.out.keep hb12.out).keep hB.out).round hkn
      obtain ⟨bL, A', n', c', xs, hLe, hgl, hgz, hcellL, _, hIx, _, hxk⟩ := ((HO.out.keep hb12.out).keep hB.out).round hkn
      have hst : Hid (nn ++ (if q = true then sortF xs :: (pickF o (row.drop (k + 1)) (k + 1)).map sortF else (pickF o (row.drop (k + 1)) (k + 1)).map sortF) = R) := by
        have := hfl.out
        rw [drop_cons_of hxk.out, pickF, List.getD_eq_getElem?_getD, hqk.out] at this
        cases q <;> simpa [Hid] using this
      have hxl : Hid (Lits vars xs) := hrl.out xs (List.mem_of_getElem? hxk.out)
      have z3 : (0 : Int) ≤ (k : Int) := by omega
      have z4 : (k : Int) < (nl : Int) := by omega
      have hwr := hB.out.size
      have HIX := Lib.hid hIx
      cases hAe
      rw [Nat.zero_add] at hcell1
      have HLE : Hid (L = some ⟨bL, 0, none⟩) := hLe
      subst hLe
      clear hfl hqk hxk hIx
      cases q
      · have hst2 : Hid (nn ++ (pickF o (row.drop (k + 1)) (k + 1)).map sortF = R) := by simpa [Hid] using hst.out
        clear hst
        go_wp2_with fail
        go_roundw
        case rel => exact ⟨k + 1, A9, n9, c9, nn, by omega, by omega, by omega, rfl, by go_num, HS, hst2, hB⟩
        case measure => simp [intOf] <;> omega
      · have hst2 : Hid ((nn ++ [sortF xs]) ++ (pickF o (row.drop (k + 1)) (k + 1)).map sortF = R) := by simpa [Hid] using hst.out
        have hXB : Hid (∀ x ∈ xs, -1000000 ≤ x ∧ x ≤ 1000000) := fun x hx => by have := hxl.out.1 x hx; omega
        have hn' : n' ≤ 1000000 := by have h1 := hxl.out.len_le v0; have h2 := HIX.out.len; omega
        clear hst
        go_wp2_with fail
        refine (sorted_any _ _ _ xs _ HIX.out hXB.out hn').mono ?_
        rintro e w3 ⟨S3, ns3, cs3, rfl, hO3, hb3⟩
        have HI3 := Lib.hid (hO3.ints (fun q hq => by have := hXB.out q (sortF_mem.1 hq); unfold I64; omega))
        have HA3 : Hid (Away 3 w3 w2.heap.size S3 ns3) := Away.own (hO3.mono hwr)
        have HS3 := Lib.hid (HS.out.keep hb3)
        have HB3 := Lib.hid (below_next hB.out hb3)
        have hz3 := HB3.out.size
        have HS4 := Lib.hid (HS3.out.keep (below_new w3 (.cells (cells9 (S3, ns3, cs3)).toArray 102)))
        obtain ⟨ss, hss, hs2, hs3⟩ := HS4.out
        have HSS := Lib.hid hss
        have HS5 := Lib.hid hs2
        have HS6 := Lib.hid hs3
        have KST := Lib.hid (Blk.new w3 102 (cells9 (S3, ns3, cs3)).toArray)
        clear hO3 hb3 hss hs2 hs3
        go_wp2_with (first
          | (at_builtin
             refine wpList_append_step _ rfl (.tmp 35) (.tmp 42) _ rfl w2.heap.size 102 i0 _ Try.underlying57 hi0 hz0 hz1 hz2 rfl A9 n9 c9 _ rfl HSS.out w3.heap.size (cells9 (S3, ns3, cs3)) rfl rfl (fun j u hj => (KST.out.cell j).trans (by rw [List.getElem?_toArray]; exact hj)) (cells9_one _) (by simp only [maxLen]; omega) (by omega) (by simp; omega) ?_
             intro L1 cL1 w9 hL1 hg1
             have HP : Hid (OwnS w9 w2.heap.size w2.heap.size L1 (n9 + 1) cL1 (nn ++ [sortF xs])) := OwnS.push1 ⟨ss, HSS.out, HS5.out, HS6.out⟩ HSS.out HS5.out HS6.out (Nat.le_refl _) (HI3.out.keep (below_new w3 (.cells (cells9 (S3, ns3, cs3)).toArray 102))) (HA3.out.keep (below_new w3 (.cells (cells9 (S3, ns3, cs3)).toArray 102))) hL1 hg1
             have HB9 : Hid (Below w2.heap.size w2 w9) := (below_alloc HB3.out (.cells (cells9 (S3, ns3, cs3)).toArray 102)).grown hg1 (by simp; omega) (fun k hk => (OwnC.base HSS.out hk).1)
             clear hL1 hg1))
        go_roundw
        case rel => exact ⟨k + 1, L1, n9 + 1, cL1, nn ++ [sortF xs], by omega, by omega, by omega, rfl, by go_num, HP, hst2, HB9⟩
        case measure => simp [intOf] <;> omega
    · obtain rfl : nn = R := by have := hfl.out; rw [List.drop_of_length_le (by rw [hnl.out]; omega), pickF] at this; simpa using this
      clear hfl
      have KR := K_r.out.keep (below_next hb12.out hB.out)
      have BR := Lib.hid (below_next HB.out (below_next hb12.out hB.out))
      have e0 := KR.cell 0
      have e1 := KR.cell 1
      have f0 := KR.frozen 0
      have f1 := KR.frozen 1
      simp at e0 e1
      have lr := KR.lt
      have SI : Hid ((wr.setCell ⟨w.heap.size + 1, 0, none⟩ (.int .i64 0)).setCell ⟨w.heap.size + 1, 1, none⟩ (.int .i64 0) = wr) := by rw [setCell_id KR rfl, setCell_id KR rfl]; rfl
      clear KR
      go_wp2_with fail
      exact bodyPost_ret (v := .tuple #[.slice A9 n9 c9, .agg #[.int .i64 0, .int .i64 0]]) (by rw [SI.out]; simp [results, Try.results30, go_sem, e0, e1]) rfl (by rw [SI.out]; exact ⟨A9, n9, c9, rfl, HS.out.learnts, BR.out⟩)
end Go.Proofs.Ytabjbpkojbdgaaa

/- Contract of the reference's Learnt. -/
namespace Go.Proofs.Ytabjbpkojbdgaaa
open Go.RowKit
set_option linter.unusedSimpArgs false

def RetLearnt (l : List (List Int)) (low : Nat) (w : World) (e : Ending) (w' : World) : Prop :=
  ∃ L nl cl, e = .returned (.slice L nl cl) ∧ OwnP 25 3 w' w.heap.size low L nl cl l ∧ Below w.heap.size w w'

set_option maxHeartbeats 4000000 in
set_option maxRecDepth 100000 in
theorem learnt_ref (W0 : World) (B : Option Addr) (m d : Nat) (rs : List (Int × List Int)) (w : World) (h : Steps W0 B m d rs) (hbw : Below W0.heap.size W0 w) (hm3 : m ≤ 3000) (R : List (List Int)) (hR : Hid (learntF rs = R)) :
    Calls Try.prog 34 #[.slice B m d] w (RetLearnt R W0.heap.size w) := by
  have hbd := h.bd
  have hlen := Lib.hid h.len
  have V := Lib.hid h
  have HBW := Lib.hid hbw
  have hwsz := hbw.size
  obtain ⟨i0, hi0, hz0, hz1, hz2⟩ := info_parts row_info
  have hR0 : Hid ([] ++ learntF (rs.drop 0) = R) := hR
  clear h hbw hR
  go_enter Try.func34, Try.ntmps34
  go_wp2_with fail
  go_loopw [3, 4] (fun s3 s4 wr => ∃ (k nl cl : Nat) (L : Option Addr) (l : List (List Int)), k ≤ m ∧ nl ≤ k ∧ s3 = .slice L nl cl ∧ s4 = .int .i64 k ∧ Hid (OwnP 25 3 wr w.heap.size W0.heap.size L nl cl l) ∧ Hid (l ++ learntF (rs.drop k) = R) ∧ Hid (Below w.heap.size w wr)) (fun _ i _ => m - (intOf i).toNat)
  case atStart => exact ⟨0, 0, 0, none, [], Nat.zero_le _, Nat.le_refl _, rfl, rfl, OwnP.nil _ _ _ _ _, hR0, Below.refl _ _⟩
  case round =>
    clear hR0
    obtain ⟨k, nl, cl, L, l, hk, hnl, rfl, rfl, hO, hgo, hbl⟩ := hrel
    have hwr := hbl.out.size
    by_cases hlt : k < m
    · obtain ⟨b, off, kd, X, nx, cx, xs, X2, n2, c2, i3, i4, i5, X6, n6, c6, i7, i8, hBe, hb, s0, s1, s2, s3, s4, s5, s6, s7, s8, hkd, hxs, hrk⟩ := (V.out.keep (below_next HBW.out hbl.out)).round hlt
      have hAw : Away 3 W0 W0.heap.size X nx := by
        obtain ⟨bb, oo, eB, hltb, hcc⟩ := V.out.at_ (by omega)
        rw [hBe] at eB
        cases eB
        obtain ⟨X', nx', cx', Xa, na, ca, j3, j4, j5, Xb, nb, cb, j7, j8, t0, t1, _, _, _, _, _, _, _, hI⟩ := hcc k _ hrk.out
        have e2 := keepBox (below_next HBW.out hbl.out) t1
        rw [s1] at e2
        cases e2
        exact Away.old hI (Nat.le_refl _)
      subst hBe
      have HAW := Lib.hid hAw
      have HXS := Lib.hid hxs
      have y1 : (0 : Int) ≤ (k : Int) := by omega
      have y2 : (k : Int) < (m : Int) := by omega
      have z0 := (cell_lt s0).1
      have hgo2 : Hid (l ++ (if kd = 1 then xs :: learntF (rs.drop (k + 1)) else learntF (rs.drop (k + 1))) = R) := by have := hgo.out; rw [drop_cons_of hrk.out, learntF_cons] at this; exact this
      clear hxs hgo hAw s2 s3 s4 s5 s6 s7 s8
      by_cases hk1 : kd = 1
      · subst hk1
        have hgo3 : Hid ((l ++ [xs]) ++ learntF (rs.drop (k + 1)) = R) := by have := hgo2.out; rw [if_pos rfl] at this; simpa [Hid] using this
        obtain ⟨vs, hv1, hv2⟩ := hO.out
        have HV1 := Lib.hid (hv1.keep (below_new wr (.cells #[.slice X nx cx] 25)))
        have HV2 := Lib.hid (hv2.keep (below_new wr (.cells #[.slice X nx cx] 25)))
        have HSS := Lib.hid (sl_one wr 25 (.slice X nx cx) rfl)
        clear hv1 hv2 hgo2
        go_wp2_with (first
          | (at_builtin
             refine wpList_append_sl _ rfl (.tmp 17) (.tmp 23) _ rfl w.heap.size 25 i0 _ 24 Try.underlying22 hi0 hz0 hz1 hz2 rfl L nl cl _ rfl HV1.out (some ⟨wr.heap.size, 0, none⟩) 1 1 _ rfl HSS.out (by simp [Value.oneCell']) (by simp only [maxLen]; omega) (by omega) (by simp; omega) ?_
             intro L1 cL1 w6 hL1 hg1 hat1
             have HP6 := Lib.hid (OwnP.push HV1.out HV2.out hwsz row_ne (HXS.out.keep (below_new _ _)) (HAW.out.keep (below_next (below_next HBW.out hbl.out) (below_new _ _))) hL1 hg1)
             have HB6 := Lib.hid (below_grown (below_alloc hbl.out (.cells #[.slice X nx cx] 25)) HV1.out (Nat.le_refl _) hg1)
             clear hL1 hg1 hat1))
        go_roundw
        case rel => exact ⟨k + 1, nl + 1, cL1, L1, l ++ [xs], by omega, by omega, rfl, by go_num, HP6, hgo3, HB6⟩
        case measure => simp [intOf] <;> omega
      · have hgo3 : Hid (l ++ learntF (rs.drop (k + 1)) = R) := by have := hgo2.out; rw [if_neg hk1] at this; exact this
        have dk : (kd == 1) = false := by rw [beq_eq_false_iff_ne]; exact hk1
        clear hgo2
        go_wp2_with fail
        go_roundw
        case rel => exact ⟨k + 1, nl, cl, L, l, by omega, by omega, rfl, by go_num, hO, hgo3, hbl⟩
        case measure => simp [intOf] <;> omega
    · obtain rfl : l = R := by have := hgo.out; rw [List.drop_of_length_le (by rw [hlen.out]; omega)] at this; simpa [learntF] using this
      clear hgo
      go_wp2_with fail
      go_ret
      exact ⟨L, nl, cl, rfl, hO.out, hbl.out⟩
end Go.Proofs.Ytabjbpkojbdgaaa

/- Contract of the reference's Wanted. -/
namespace Go.Proofs.Ytabjbpkojbdgaaa
open Go.RowKit
set_option linter.unusedSimpArgs false

theorem idxF_before {α : Type} {p : α → Bool} : ∀ (l : List α) (i f : Nat), idxF p l i = (f : Int) → ∀ (j : Nat) (x : α), i + j < f → l[j]? = some x → p x = false
  | [], _, _, _, j, x, _, hx => by simp at hx
  | y :: r, i, f, h, j, x, hj, hx => by
    rw [idxF] at h
    by_cases hp : p y = true
    · rw [if_pos hp] at h; omega
    · rw [if_neg hp] at h
      cases j with
      | zero => simp at hx; subst hx; simpa using hp
      | succ j => exact idxF_before r (i + 1) f h j x (by omega) (by simpa using hx)
def RetWanted (o : List Bool) (w : World) (e : Ending) (w' : World) : Prop :=
  ∃ gb nl, e = .returned (.slice (some ⟨gb, 0, none⟩) nl nl) ∧ Bools w' (some ⟨gb, 0, none⟩) nl nl o ∧ Below w.heap.size w w'

set_option maxHeartbeats 8000000 in
set_option maxRecDepth 100000 in
theorem wanted_ref (A B : Option Addr) (n c m d : Nat) (xss : List (List Int)) (rs : List (Int × List Int)) (vars : Int) (w : World) (h : Grid w A n c xss) (_ : I64 vars) (h' : Steps w B m d rs) (hr : Hid (proofR vars xss rs = (0, 0))) (o : List Bool) (ho : Hid (wantedF vars xss rs = o)) :
    Calls Try.prog 35 #[.agg #[.int .i64 vars, .slice A n c], .slice B m d] w (RetWanted o w) := by
  obtain ⟨hwhy, hst0, hacc⟩ := proofR_parts hr.out
  obtain ⟨_, hck, hm3, hrs⟩ := stepsR_ok hst0
  obtain ⟨_, v0, v1, hn400, hrows⟩ := checkC_ok hck
  obtain ⟨hfall, hany⟩ := why_row v0 rs xss xss 0 (fun c hc => (hrows c hc).2) (fun c hc => (hrows c hc).2) hrs (fun _ h => h) hacc
  obtain ⟨row, hrow⟩ : ∃ row, Hid (xss ++ learntF rs = row) := ⟨_, rfl⟩
  have hrl : Hid (∀ x ∈ row, Lits vars x) := fun x hx => by
    rw [← hrow.out] at hx
    rcases List.mem_append.1 hx with hx | hx
    · exact (hrows x hx).2
    · unfold learntF at hx
      obtain ⟨r, hr1, rfl⟩ := List.mem_map.1 hx
      exact (hrs r (List.mem_filter.1 hr1).1).2
  have hem : decide (0 ≤ emptyF row) = true := by unfold emptyF; rw [idxF_any, ← hrow.out]; exact hany
  have hem0 := of_decide_eq_true hem
  obtain ⟨fN, hfN⟩ : ∃ fN : Nat, emptyF row = (fN : Int) := ⟨(emptyF row).toNat, by omega⟩
  have HFN : Hid (idxF (fun x => x.isEmpty) row 0 = (fN : Int)) := hfN
  have hfl : fN < row.length := by
    rcases idxF_lt (fun x : List Int => x.isEmpty) row 0 with h3 | ⟨_, h3, _⟩
    · have := HFN.out; omega
    · have := HFN.out; omega
  have hWF : Hid (wantF vars row n (fN + 1) ((List.replicate row.length false).set fN true) = o) := by
    have := ho.out
    rw [wantedF, hrow.out, hfN, Int.toNat_natCast, h.len] at this
    exact this
  have hbd := h.bd
  have hbd' := h'.bd
  have hlen := Lib.hid h'.len
  have hlx := Lib.hid h.len
  have G := Lib.hid h
  have V := Lib.hid h'
  have hm3' : m ≤ 3000 := by have := hlen.out; omega
  have hn4 : n ≤ 400 := by have := hlx.out; omega
  have hll : Hid ((learntF rs).length ≤ 3000) := by
    have : (learntF rs).length ≤ rs.length := by unfold learntF; rw [List.length_map]; exact List.length_filter_le _ _
    show _ ≤ _
    omega
  have HLN : Hid (row.length ≤ 3400) := by
    show _ ≤ _
    rw [← hrow.out, List.length_append]
    have := hll.out
    omega
  have HFL := Lib.hid hfl
  obtain ⟨i0, hi0, hz0, hz1, hz2⟩ := info_parts row_info
  obtain ⟨ib, hib, hzb, hsb, hbb⟩ := info_parts bool_infoR
  obtain ⟨vs0, hvs0, hrp0⟩ := h.rowsP 3 (Nat.le_refl _)
  have HVS0 := Lib.hid hvs0
  have HRP0 := Lib.hid hrp0
  obtain ⟨wb, hwb⟩ : ∃ wb : World, wb = (w.alloc (.cells #[.int .i64 vars, .slice A n c] 24)).alloc (.cells #[] 25) := ⟨_, rfl⟩
  have HWB := Lib.hid hwb
  have hbwb : Hid (Below w.heap.size w wb) := by rw [hwb]; exact below_alloc (below_new _ _) _
  have KCb : Hid (Blk wb w.heap.size 24 #[.int .i64 vars, .slice A n c]) := by rw [hwb]; exact (Blk.new _ _ _).alloc _
  have hzb2 : Hid (wb.heap.size = w.heap.size + 2) := by rw [hwb]; simp [Hid]
  have OE : Hid (Own 25 wb (w.heap.size + 1) (some ⟨w.heap.size + 1, 0, none⟩) 0 0 []) := by rw [hwb]; exact own_empty _ _ _ (by simp) (by simp)
  clear h h' hwhy hst0 hacc hck hrs hrows hfall hany hem hem0 hfN hfl hvs0 hrp0 hr ho hn400 hm3 hwb
  go_enter Try.func35, Try.ntmps35
  go_wp2_with (first
    | (at_builtin
       refine wpList_append_sl _ rfl (.tmp 12) (.tmp 14) _ rfl (w.heap.size + 1) 25 i0 _ 24 Try.underlying22 hi0 hz0 hz1 hz2 rfl (some ⟨w.heap.size + 1, 0, none⟩) 0 0 _ rfl (by rw [← HWB.out]; exact OE.out) A n c vs0 rfl (by rw [← HWB.out]; exact HVS0.out.keep hbwb.out) HRP0.out.one (by simp only [maxLen]; omega) (by omega) (by simp) ?_
       intro R1 cR1 w1 hO1 hg1 hat1
       rw [← HWB.out] at hg1
       have O1 : Hid (Own 25 w1 (w.heap.size + 1) R1 n cR1 vs0) := by simpa [Hid] using hO1
       have P1 := Lib.hid ((HRP0.out.keep hbwb.out).kept hg1 (own_rows OE.out (by omega)) row_ne)
       have HB1 : Hid (Below w.heap.size w w1) := hbwb.out.grown hg1 hbwb.out.size (fun k hk => by have := (own_rows OE.out (low := w.heap.size) (by omega) k hk).1; exact this)
       have KC1 := Lib.hid (KCb.out.grown hg1 (fun e => by have := own_rows OE.out (low := w.heap.size + 1) (Nat.le_refl _) w.heap.size e.symm; omega))
       clear hO1 hg1 hat1))
  obtain ⟨ls, hls⟩ : ∃ ls, Hid (learntF rs = ls) := ⟨_, rfl⟩
  refine (learnt_ref w B m d rs w1 V.out HB1.out hm3' ls hls).mono ?_
  rintro e w2 ⟨L2, n2, c2, rfl, hO2, hb2⟩
  have hn2 : n2 ≤ 3000 := by have h1 := hO2.len; have h2 := hll.out; rw [hls.out] at h2; omega
  have HN2 := Lib.hid hO2.len
  obtain ⟨vs2, hv2, hp2⟩ := hO2
  have HV2 := Lib.hid hv2.sl
  have HP2 := Lib.hid hp2
  have O2 := Lib.hid (O1.out.keep hb2)
  have P2 := Lib.hid (P1.out.keep hb2)
  have HB2 := Lib.hid (below_next HB1.out hb2)
  have KC2 := Lib.hid (KC1.out.keep hb2)
  have hsz2 : w.heap.size + 1 ≤ w2.heap.size := by have := KC2.out.lt; omega
  clear hb2 hv2 hp2 O1 P1 HB1 KC1 OE KCb HWB
  have hrn : Hid (row.length = n + n2) := by show _ = _; rw [← hrow.out, List.length_append, hlx.out, hls.out, HN2.out]
  have hnl34 : n + n2 ≤ 3400 := by omega
  go_wp2_with (first
    | (at_builtin
       refine wpList_append_sl _ rfl (.tmp 15) (.tmp 17) _ rfl (w.heap.size + 1) 25 i0 _ 24 Try.underlying22 hi0 hz0 hz1 hz2 rfl R1 n cR1 _ rfl O2.out L2 n2 c2 vs2 rfl HV2.out HP2.out.one (by simp only [maxLen]; omega) (by omega) hsz2 ?_
       intro R3 cR3 w3 hO3 hg3 hat3
       have HO3 : Hid (OwnP 25 3 w3 (w.heap.size + 1) w.heap.size R3 (n + n2) cR3 row) := by
         rw [← hrow.out, hls.out]
         exact ⟨_, hO3, (P2.out.append HP2.out).kept hg3 (own_rows O2.out (by omega)) row_ne⟩
       have HB3 : Hid (Below w.heap.size w w3) := HB2.out.grown hg3 HB2.out.size (fun k hk => by have := (own_rows O2.out (low := w.heap.size) (by omega) k hk).1; exact this)
       have KC3 := Lib.hid (KC2.out.grown hg3 (fun e => by have := own_rows O2.out (low := w.heap.size + 1) (Nat.le_refl _) w.heap.size e.symm; omega))
       have hwr3 : w.heap.size + 1 ≤ w3.heap.size := by have := HB3.out.size; have := KC3.out.lt; omega
       clear hO3 hg3 hat3)
    | (at_make
       refine wpList_make_full _ rfl (.tmp 20) (.tmp 20) 44 rfl (w.heap.size + 1) 4 ib _ 1 Try.underlying44 hib hzb hsb _ _ _ _ (n + n2) rfl rfl (by first | rfl | omega) (by first | rfl | omega) (by rw [hbb]; omega) (by simp only [maxLen]; omega) hwr3 ?_
       intro w5 hown5 hg5
       have OB5 : Hid (Own 4 w5 (w.heap.size + 1) (some ⟨w3.heap.size, 0, none⟩) (n + n2) (n + n2) ((List.replicate row.length false).map Value.bool)) := by
         rw [hrn.out, List.map_replicate]
         have e : (madeCells (Value.bool false).cells ((n + n2) * 1)).toList = List.replicate (n + n2) (Value.bool false) := by rw [Nat.mul_one]; exact toList_madeCells_one _ _
         rw [← e]
         exact hown5
       have O5 := Lib.hid (HO3.out.kept (t' := 4) hg5 (fun g hg => by cases hg) (by decide) (by decide))
       have B5 : Hid (Below w.heap.size w w5) := HB3.out.grown hg5 HB3.out.size (fun k hk => by cases hk)
       have KC5 := Lib.hid (KC3.out.grown hg5 (by simp))
       clear hown5 hg5))
  have HBF : Hid (∀ (j : Nat) (x : List Int), j < fN → row[j]? = some x → x.isEmpty = false) := fun j x hj hx => idxF_before row 0 fN HFN.out j x (by omega) hx
  have HAF : Hid (row[fN]? = some []) := by
    rcases idxF_lt (fun x : List Int => x.isEmpty) row 0 with h3 | ⟨_, _, x, h4, h5⟩
    · have := HFN.out; omega
    · rw [HFN.out, Int.toNat_natCast, Nat.sub_zero] at h4
      rw [Hid, h4, List.isEmpty_iff.1 h5]
  have hfn2 : fN < n + n2 := by have := HFL.out; have := hrn.out; omega
  obtain ⟨gb, hgb⟩ : ∃ gb, gb = w3.heap.size := ⟨_, rfl⟩
  rw [← hgb] at OB5 ⊢
  clear hgb HO3 HB3 KC3 hwr3
  go_loopw [7] (fun s7 wr => ∃ k : Nat, k ≤ fN ∧ s7 = .int .i64 k ∧ wr = w5) (fun i _ => fN - (intOf i).toNat)
  case atStart => exact ⟨0, Nat.zero_le _, rfl, rfl⟩
  case round =>
    obtain ⟨k, hk, rfl, rfl⟩ := hrel
    obtain ⟨g, A', n', c', xs, hRe, hgl, hgz, hcell, _, hIx, _, hxk⟩ := O5.out.round (k := k) (by omega)
    have hxl := Lib.hid hIx.len
    have u1 : (0 : Int) ≤ (k : Int) := by omega
    have u2 : (k : Int) < (n : Int) + (n2 : Int) := by omega
    have HRe : Hid (R3 = some ⟨g, 0, none⟩) := hRe
    subst hRe
    by_cases hkf : k < fN
    · have hpos : 0 < n' := by
        have h1 := HBF.out k xs hkf hxk.out
        have h2 := hxl.out
        cases xs with
        | nil => simp at h1
        | cons q r => rw [← h2]; simp
      clear hxk hIx
      go_wp2_with fail
      go_roundw
      case rel => exact ⟨k + 1, by omega, by first | rfl | go_num, by first | rfl | trivial⟩
      case measure => simp [intOf] <;> omega
    · obtain rfl : k = fN := by omega
      have hn0 : n' = 0 := by
        have h1 := hxk.out
        rw [HAF.out] at h1
        injection h1 with h1
        rw [← hxl.out, ← h1]; rfl
      subst hn0
      clear hxk hIx hxl
      obtain ⟨g', u, hge, hgl, hgz, hgc, hgf, hgu⟩ := OB5.out.at_ hfn2
      cases hge
      have OB7 : Hid (Own 4 (wr.setCell ⟨gb, k, none⟩ (.bool true)) (w.heap.size + 1) (some ⟨gb, 0, none⟩) (n + n2) (n + n2) (((List.replicate row.length false).set k true).map Value.bool)) := by
        rw [List.map_set]; exact OB5.out.set_ k (.bool true)
      have O7 := Lib.hid (O5.out.kept (OB5.out.grown_set k (.bool true)) (fun g hg => by cases hg; exact ⟨by omega, Typed.of_own OB5.out⟩) (by decide) (by decide))
      have B7 : Hid (Below w.heap.size w (wr.setCell ⟨gb, k, none⟩ (.bool true))) := B5.out.setCell (by simp; omega) _
      have KC7 := Lib.hid (KC5.out.far (p := ⟨gb, k, none⟩) (by simp; omega) (.bool true))
      have dfn : ((k : Int) == (n : Int) + (n2 : Int)) = false := by rw [beq_eq_false_iff_ne]; omega
      clear OB5 O5 B5 KC5 hgu HFN HFL HBF HAF
      go_wp2_with fail
      have hq0 : Hid (wantF vars row n (k + 1) ((List.replicate row.length false).set k true) = o) := hWF
      go_loopw [8] (fun s8 wz => ∃ (q : Nat) (o' : List Bool), q ≤ k + 1 ∧ s8 = .int .i64 ((q : Int) - 1) ∧ Hid (Own 4 wz (w.heap.size + 1) (some ⟨gb, 0, none⟩) (n + n2) (n + n2) (o'.map Value.bool)) ∧ Hid (OwnP 25 3 wz (w.heap.size + 1) w.heap.size (some ⟨g, 0, none⟩) (n + n2) cR3 row) ∧ Hid (Blk wz w.heap.size 24 #[.int .i64 vars, .slice A n c]) ∧ Hid (Below w.heap.size w wz) ∧ Hid (wantF vars row n q o' = o)) (fun i _ => (intOf i + 1).toNat)
      case atStart => exact ⟨k + 1, _, Nat.le_refl _, by go_num, OB7, O7, KC7, B7, hq0⟩
      case round =>
        clear OB7 O7 B7 KC7 hq0 hcell
        obtain ⟨q, o', hq, rfl, hOb, hOz, hKz, hBz, hW⟩ := hrel
        obtain ⟨wz, hwz⟩ : ∃ wz : World, wz = wr := ⟨_, rfl⟩
        subst hwz
        have KCz := hKz.out.cell 1
        simp at KCz
        have zcz := (cell_lt KCz).1
        by_cases hend : q = 0 ∨ q ≤ n
        · obtain rfl : o' = o := by
            have := hW.out
            rcases hend with h0 | h0
            · subst h0; exact this
            · cases q with
              | zero => exact this
              | succ i => rw [wantF, if_pos (by omega)] at this; exact this
          have dend : ¬ (n : Int) ≤ (q : Int) - 1 := by omega
          clear hW
          go_wp2_with fail
          go_ret
          exact ⟨gb, n + n2, rfl, hOb.out.sl, hBz.out⟩
        · obtain ⟨i, rfl⟩ : ∃ i, q = i + 1 := ⟨q - 1, by omega⟩
          have hni : n ≤ i := by omega
          have hil : i < n + n2 := by omega
          have ei : ((i + 1 : Nat) : Int) - 1 = (i : Int) := by omega
          rw [ei]
          obtain ⟨gx, u, hgx, hgl2, hgz2, hgc2, hgf2, hgu2⟩ := hOb.out.at_ hil
          cases hgx
          obtain ⟨bq, hbq, rfl⟩ : ∃ bq, o'[i]? = some bq ∧ Value.bool bq = u := by have := hgu2.out; rwa [List.getElem?_map, Option.map_eq_some_iff] at this
          have hW2 : Hid (wantF vars row n i (if bq = true then markF o' (causesF vars row i) else o') = o) := by
            have := hW.out
            rw [wantF, if_neg (by omega), List.getD_eq_getElem?_getD, hbq] at this
            exact this
          have z3 : (0 : Int) ≤ (i : Int) := by omega
          have z4 : (i : Int) < (n : Int) + (n2 : Int) := by omega
          have z5 : (n : Int) ≤ (i : Int) := by omega
          clear hW hbq hgu2
          cases bq
          · have hW3 : Hid (wantF vars row n i o' = o) := by simpa [Hid] using hW2.out
            clear hW2
            go_wp2_with fail
            go_roundw
            case rel => exact ⟨i, o', by omega, by go_num, hOb, hOz, hKz, hBz, hW3⟩
            case measure => simp [intOf] <;> omega
          · go_wp2_with fail
            have hil2 : i < n + n2 := hil
            obtain ⟨gr, Xi, ni, ci, xi, hgr, hgrl, hgrz, hcri, _, hIi, _, hxi⟩ := hOz.out.round hil2
            cases hgr
            have hrowi : Hid (row.getD i [] = xi) := by rw [List.getD_eq_getElem?_getD, hxi.out]; rfl
            have HXL : Hid (Lits vars xi) := hrl.out xi (List.mem_of_getElem? hxi.out)
            have HXB : Hid (∀ x ∈ xi, -1000000 ≤ x ∧ x ≤ 1000000) := fun x hx => by have := HXL.out.1 x hx; omega
            have hni2 : ni ≤ 1000000 := by have := HXL.out.len_le v0; rw [hIi.len] at this; omega
            obtain ⟨t, y, a, hta⟩ : ∃ t y a, Hid (askF vars (row.take i) (negF xi) = (t, y, a)) := ⟨_, _, _, rfl⟩
            have HTK : Hid (∀ x ∈ row.take i, Lits vars x) := fun x hx => hrl.out x (List.mem_of_mem_take hx)
            have HHT : Hid (Lits vars t ∧ y.length = t.length ∧ ((∀ k ∈ y, -1 ≤ k ∧ k < (row.take i).length)) ∧ (0 ≤ a → a < (row.take i).length) ∧ (a = -1 ∨ 0 ≤ a)) := by
              have ok := runF_ok v0 HTK.out (vars.toNat + 1) (negF xi) ((negF xi).map fun _ => -1) HXL.out.neg (by omega)
              have h9 := hta.out
              unfold askF at h9
              rw [h9] at ok
              exact ⟨ok.lits, ok.same (by simp), ok.why (fun k hk => by rw [List.mem_map] at hk; obtain ⟨_, _, rfl⟩ := hk; omega), ok.bad, ok.at_⟩
            have hti : (row.take i).length = i := by rw [List.length_take, hrn.out]; omega
            rw [hti] at HHT
            have v6 : vars ≤ 1000000 := by omega
            have hcap : (n + n2 : Nat) ≤ cR3 := (hOz.out.len').2.1
            have u5 : (i : Int) ≤ (cR3 : Int) := by omega
            have u6 : ¬ (cR3 : Int) < (i : Int) := by omega
            obtain ⟨wd, hwd⟩ : ∃ wd : World, wd = wz.drew := ⟨_, rfl⟩
            have hbd2 : Below wz.heap.size wz wd := by rw [hwd]; exact below_drewN _ 1
            have hS : wd.cell? ⟨g, i, none⟩ = some (.slice Xi ni ci) := keepBox hbd2 hcri
            have HObd := Lib.hid (hOb.out.keep hbd2)
            have HOzd := Lib.hid (hOz.out.keep hbd2)
            have HKzd := Lib.hid (hKz.out.keep hbd2)
            have HBzd := Lib.hid (below_next hBz.out hbd2)
            have HIid := Lib.hid (hIi.keep hbd2)
            have hW3 : Hid (wantF vars row n i (markF o' (causesF vars row i)) = o) := by simpa [Hid] using hW2.out
            clear hbd2 hxi hIi hcri hOb hOz hKz hBz hW2 KCz zcz hgc2 hgf2 hgz2 hti
            refine wp_region_tail (fun w' => w'.cell? ⟨g, i, none⟩ = some (.slice Xi ni ci)) [10] (by kernel_rfl) ?_
            change wpAnyT _ _ _ _ _ _ _ _ _ wz.drew
            rw [← hwd]
            clear hwd
            refine take0 (i := 0) (oi := _) (v := ?_) rfl (by kernel_rfl) (by kernel_rfl) (by kernel_rfl) (fun _ _ _ h => h) rfl (Or.inl ⟨by rfl, ?_⟩) (fun _ => hS) ?_
            rotate_left
            · intro w0; go_simp; with_reducible rfl
            (try simp only [Act.put, List.setIfInBounds_toArray, List.set_cons_zero, List.set_cons_succ])
            refine take0 (i := 1) (oi := _) (v := ?_) rfl (by kernel_rfl) (by kernel_rfl) (by kernel_rfl) (fun _ _ _ h => h) rfl (Or.inl ⟨by rfl, ?_⟩) (fun _ => hS) ?_
            rotate_left
            · intro w0; go_simp; with_reducible rfl
            (try simp only [Act.put, List.setIfInBounds_toArray, List.set_cons_zero, List.set_cons_succ])
            refine take0 (i := 2) (oi := _) (v := ?_) rfl (by kernel_rfl) (by kernel_rfl) (by kernel_rfl) (fun _ _ _ h => h) rfl (Or.inl ⟨by rfl, ?_⟩) (fun _ => hS) ?_
            rotate_left
            · intro w0; go_simp; with_reducible rfl
            (try simp only [Act.put, List.setIfInBounds_toArray, List.set_cons_zero, List.set_cons_succ])
            refine take0 (i := 3) (oi := _) (v := ?_) rfl (by kernel_rfl) (by kernel_rfl) (by kernel_rfl) (fun _ _ _ h => h) rfl (Or.inl ⟨by rfl, ?_⟩) (fun _ => hS) ?_
            rotate_left
            · intro w0; go_simp; with_reducible rfl
            (try simp only [Act.put, List.setIfInBounds_toArray, List.set_cons_zero, List.set_cons_succ])
            refine take0 (i := 4) (oi := _) (v := ?_) rfl (by kernel_rfl) (by kernel_rfl) (by kernel_rfl) (fun _ _ _ h => h) rfl (Or.inl ⟨by rfl, ?_⟩) (fun _ => hS) ?_
            rotate_left
            · intro w0; go_simp; with_reducible rfl
            (try simp only [Act.put, List.setIfInBounds_toArray, List.set_cons_zero, List.set_cons_succ])
            refine take0 (i := 5) (oi := _) (v := ?_) rfl (by kernel_rfl) (by kernel_rfl) (by kernel_rfl) (fun _ _ _ h => h) rfl (Or.inl ⟨by rfl, ?_⟩) (fun _ => hS) ?_
            rotate_left
            · intro w0; go_simp; with_reducible rfl
            (try simp only [Act.put, List.setIfInBounds_toArray, List.set_cons_zero, List.set_cons_succ])
            refine takeS (i := 6) (oi := _) (v := ?_) rfl (by kernel_rfl) (by kernel_rfl) (by kernel_rfl) (fun _ _ _ h => h) rfl (by kernel_rfl) (by kernel_rfl) (Or.inl ⟨by rfl, ?_⟩) hS ?_
            rotate_left
            · intro w0 hSw; (try dsimp only at hSw); go_simp; with_reducible rfl
            (try simp only [Act.put, List.setIfInBounds_toArray, List.set_cons_zero, List.set_cons_succ])
            have hB0d : Hid (Below wd.heap.size wd wd) := Below.refl _ _
            refine twoT (i := 7) (j := 9) (by kernel_rfl) rfl (by rfl) rfl (by rfl) (fun K hK => ?_) (fun K hK => ?_)
            · go_simp
              refine (negatives_any Xi ni ci xi wd (HIid.out.keep hB0d.out) HXB.out hni2).mono ?_
              rintro e w7 ⟨N7, nn7, cn7, rfl, hN7, hb7⟩
              have HNw7 := Lib.hid (hN7.ints (negF_i64 v6 HXL.out))
              have hB0w7 : Hid (Below wd.heap.size wd w7) := below_next hB0d.out hb7
              have HB7 := Lib.hid hb7
              clear hN7 hb7
              have HSB := keepBox hB0w7.out hS
              have hS7 : w7.cell? ⟨g, i, none⟩ = some (.slice Xi ni ci) := HSB
              refine hK _ _ (fun _ => hS7) ?_
              clear hK
              (try simp only [Act.put, List.setIfInBounds_toArray, List.set_cons_zero, List.set_cons_succ])
              refine twoT (i := 8) (j := 9) (by kernel_rfl) rfl (by rfl) rfl (by rfl) (fun K hK => ?_) (fun K hK => ?_)
              · go_simp
                refine (asked_ref 0 _ _ _ _ _ _ (row.take i) (negF xi) vars w7 ((HOzd.out.keep hB0w7.out).grid.take (k := i) (by omega)) HNw7.out v0 v6 HTK.out HXL.out.neg (Nat.zero_le _) t y a hta).mono ?_
                rintro e w8 ⟨L4, nl4, cl4, Y4, ny4, cy4, rfl, hI4, hJ4, hAL, hAY, _, _, hb4⟩
                have AL := Lib.hid hAL
                have AY := Lib.hid hAY
                have IT := Lib.hid hI4
                have IY := Lib.hid hJ4
                have hB0w8 : Hid (Below wd.heap.size wd w8) := below_next hB0w7.out hb4
                have HB4 := Lib.hid hb4
                clear hI4 hJ4 hb4 hAL hAY
                have HSB := keepBox hB0w8.out hS
                have hS8 : w8.cell? ⟨g, i, none⟩ = some (.slice Xi ni ci) := HSB
                refine hK _ _ (fun _ => hS8) ?_
                clear hK
                (try simp only [Act.put, List.setIfInBounds_toArray, List.set_cons_zero, List.set_cons_succ])
                refine oneT (i := 9) (by kernel_rfl) rfl (by rfl) (fun K hK => ?_)
                obtain ⟨w9, hw9⟩ : ∃ w9 : World, w9 = w8.alloc (.cells #[.slice none 0 0, .slice none 0 0, .int .i64 0] 35) := ⟨_, rfl⟩
                have hba : Below w8.heap.size w8 w9 := by rw [hw9]; exact below_new _ _
                have KTw9 : Hid (Blk w9 w8.heap.size 35 #[.slice none 0 0, .slice none 0 0, .int .i64 0]) := by rw [hw9]; exact Blk.new _ _ _
                have hB0w9 : Hid (Below wd.heap.size wd w9) := below_next hB0w8.out hba
                go_simp
                rw [← hw9]
                have HBA := Lib.hid hba
                clear hba hw9
                have HSB := keepBox hB0w9.out hS
                have hS9 : w9.cell? ⟨g, i, none⟩ = some (.slice Xi ni ci) := HSB
                refine hK _ _ (fun _ => hS9) ?_
                clear hK
                (try simp only [Act.put, List.setIfInBounds_toArray, List.set_cons_zero, List.set_cons_succ])
                refine oneT (i := 10) (by kernel_rfl) rfl (by rfl) (fun K hK => ?_)
                have LE9 : wd.heap.size ≤ w8.heap.size := hB0w8.out.size
                replace IT := Lib.hid (IT.out.keep HBA.out)
                replace IY := Lib.hid (IY.out.keep HBA.out)
                replace AL := Lib.hid (AL.out.keep HBA.out)
                replace AY := Lib.hid (AY.out.keep HBA.out)
                obtain ⟨b9, hb9⟩ : ∃ q, q = w8.heap.size := ⟨_, rfl⟩
                have KT9 : Hid (Blk w9 b9 35 #[.slice none 0 0, .slice none 0 0, .int .i64 0]) := by rw [hb9]; exact KTw9.out
                have hb9d : wd.heap.size ≤ b9 := by rw [hb9]; exact LE9
                rw [← hb9]
                clear hb9
                have kc0 := KT9.out.cell 0
                have kc1 := KT9.out.cell 1
                have kc2 := KT9.out.cell 2
                simp at kc0 kc1 kc2
                have kf0 := KT9.out.frozen 0
                have kf1 := KT9.out.frozen 1
                have kf2 := KT9.out.frozen 2
                have klt := KT9.out.lt
                obtain ⟨wf, hwf⟩ : ∃ wf : World, wf = ((w9.setCell ⟨b9, 0, none⟩ (.slice L4 nl4 cl4)).setCell ⟨b9, 1, none⟩ (.slice Y4 ny4 cy4)).setCell ⟨b9, 2, none⟩ (.int .i64 a) := ⟨_, rfl⟩
                have KF : Hid (Blk wf b9 35 #[.slice L4 nl4 cl4, .slice Y4 ny4 cy4, .int .i64 a]) := by
                  rw [hwf]
                  have := ((KT9.out.set_ 0 (.slice L4 nl4 cl4)).set_ 1 (.slice Y4 ny4 cy4)).set_ 2 (.int .i64 a)
                  simpa [Hid] using this
                have HGF : Hid (w9.grownBy wf (some b9)) := by
                  rw [hwf]
                  exact grown_trans (grown_trans (grown_setCell _ ⟨b9, 0, none⟩ _) (grown_setCell _ ⟨b9, 1, none⟩ _)) (grown_setCell _ ⟨b9, 2, none⟩ _)
                have T9 : Hid (Typed 35 w9 b9) := Typed.of_blk KT9.out
                have HB0f : Hid (Below wd.heap.size wd wf) := hB0w9.out.grown HGF.out hB0w9.out.size (fun q hq => by cases hq; exact hb9d)
                have ITf : Hid (Ints wf L4 nl4 cl4 t) := IT.out.kept0 HGF.out (fun _ => AL.out.ne (Nat.zero_le _) T9.out (by decide))
                have IYf : Hid (Ints wf Y4 ny4 cy4 y) := IY.out.kept0 HGF.out (fun _ => AY.out.ne (Nat.zero_le _) T9.out (by decide))
                go_simp
                rw [← hwf]
                refine hK _ _ (noT_no (by kernel_rfl)) ?_
                clear hK
                refine doneT (by kernel_rfl) ?_ _
                have HObf := Lib.hid (HObd.out.keep HB0f.out)
                have HOzf := Lib.hid (HOzd.out.keep HB0f.out)
                have HKzf := Lib.hid (HKzd.out.keep HB0f.out)
                have HBzf := Lib.hid (below_next HBzd.out HB0f.out)
                clear kc0 kc1 kc2 kf0 kf1 kf2 klt hwf KT9 HGF T9 IT IY AL AY hb9d
                by_cases ha : a < 0
                · have hW4 : Hid (wantF vars row n i o' = o) := by
                    have := hW3.out
                    rw [causesF, hrowi.out, hta.out, if_pos ha] at this
                    exact this
                  have kf2' := KF.out.cell 2
                  simp at kf2'
                  have kl' := KF.out.lt
                  go_wp2_with fail
                  go_roundw
                  case rel => exact ⟨i, o', by omega, by go_num, HObf, HOzf, HKzf, HBzf, hW4⟩
                  case measure => simp [intOf] <;> omega
                · obtain ⟨aN, rfl⟩ : ∃ aN : Nat, a = (aN : Int) := ⟨a.toNat, by omega⟩
                  have haN : aN < i := by have := HHT.out.2.2.2.1 (by omega); omega
                  obtain ⟨ks, hks⟩ : ∃ ks, Hid (needF row t y t.length [(aN : Int)] = ks) := ⟨_, rfl⟩
                  have hcn : ∀ x, x ∈ causesF vars row i ↔ x ∈ ks := fun x => by
                    have e : causesF vars row i = cauF row t y t.length [(aN : Int)] := by rw [causesF, hrowi.out, hta.out, if_neg (by simp only; omega)]
                    rw [e, ← hks.out]
                    exact cau_need t.length _ _ (fun _ => Iff.rfl) x
                  have hKR : Hid (∀ x ∈ ks, 0 ≤ x ∧ x < i) := fun x hx => causes_lt v0 hrl.out (i := i) (by rw [hrn.out]; exact hil) x ((hcn x).2 hx)
                  obtain ⟨oM, hoM⟩ : ∃ oM, Hid (markF o' ks = oM) := ⟨_, rfl⟩
                  have hW4 : Hid (wantF vars row n i oM = o) := by have := hW3.out; rw [markF_same hcn, hoM.out] at this; exact this
                  have kf0' := KF.out.cell 0
                  have kf1' := KF.out.cell 1
                  have kf2' := KF.out.cell 2
                  simp at kf0' kf1' kf2'
                  have kl' := KF.out.lt
                  have hgrz := Lib.hid HOzf.out.grid
                  have htl : t.length ≤ 1000 := by have := HHT.out.1.len_le v0; omega
                  clear hW3 hcn
                  go_wp2_with fail
                  refine (needed_ref wf (some ⟨g, 0, none⟩) (n + n2) cR3 row L4 nl4 cl4 t Y4 ny4 cy4 y aN hgrz.out ITf.out IYf.out HHT.out.2.1 (by omega) (fun q hq => by have := HHT.out.2.2.1 q hq; omega) (fun x hx => by have := HHT.out.1.1 x hx; omega) htl ks hks).mono ?_
                  rintro e wk ⟨A8, n8, c8, rfl, hK8, hb8⟩
                  have OK8 := Lib.hid hK8
                  have OB8 := Lib.hid (HObf.out.keep hb8)
                  have O8 := Lib.hid (HOzf.out.keep hb8)
                  have K8 := Lib.hid (HKzf.out.keep hb8)
                  have B8 := Lib.hid (below_next HBzf.out hb8)
                  have hn8 : n8 ≤ 9223372036854775807 := by have h1 := hK8.sl.le; have h2 := hK8.sl.cap; unfold maxLen at h2; omega
                  have hoM0 : Hid (markF o' (ks.drop 0) = oM) := hoM
                  clear hK8 hb8 hgrz kf0' kf1' kf2' kl' KF
                  go_wp2_with fail
                  go_loopw [73] (fun s wy => ∃ (j : Nat) (o2 : List Bool), j ≤ n8 ∧ s = .int .i64 j ∧ Hid (Own 4 wy (w.heap.size + 1) (some ⟨gb, 0, none⟩) (n + n2) (n + n2) (o2.map Value.bool)) ∧ Hid (OwnP 25 3 wy (w.heap.size + 1) w.heap.size (some ⟨g, 0, none⟩) (n + n2) cR3 row) ∧ Hid (Blk wy w.heap.size 24 #[.int .i64 vars, .slice A n c]) ∧ Hid (Below w.heap.size w wy) ∧ Hid (Own 3 wy wf.heap.size A8 n8 c8 (ks.map (Value.int .i64))) ∧ Hid (markF o2 (ks.drop j) = oM)) (fun i _ => n8 - (intOf i).toNat)
                  case atStart => exact ⟨0, o', Nat.zero_le _, rfl, OB8, O8, K8, B8, OK8, hoM0⟩
                  case round =>
                    clear OB8 O8 B8 OK8 K8 hoM0
                    obtain ⟨j, o2, hj, rfl, hOb, hOz, hKz, hBz, hOk, hmk⟩ := hrel
                    by_cases hjn : j < n8
                    · obtain ⟨b5, off5, x, hAe, hbb5, hcell5, x1, x2, hxk⟩ := (hOk.out.ints (fun x hx => by have := hKR.out x hx; unfold I64; omega)).round hjn
                      have hxr := hKR.out x (List.mem_of_getElem? hxk.out)
                      obtain ⟨xN, rfl⟩ : ∃ xN : Nat, x = (xN : Int) := ⟨x.toNat, by omega⟩
                      have hmk2 : Hid (markF (o2.set xN true) (ks.drop (j + 1)) = oM) := by have := hmk.out; rw [drop_cons_of hxk.out] at this; exact this
                      obtain ⟨gy, u2, hgy, hgl3, hgz3, hgc3, hgf3, hgu3⟩ := hOb.out.at_ (k := xN) (by omega)
                      cases hgy
                      have OB9 : Hid (Own 4 (wr.setCell ⟨gb, xN, none⟩ (.bool true)) (w.heap.size + 1) (some ⟨gb, 0, none⟩) (n + n2) (n + n2) ((o2.set xN true).map Value.bool)) := by
                        rw [List.map_set]; exact hOb.out.set_ xN (.bool true)
                      have O9 := Lib.hid (hOz.out.kept (hOb.out.grown_set xN (.bool true)) (fun g hg => by cases hg; exact ⟨by omega, Typed.of_own hOb.out⟩) (by decide) (by decide))
                      have B9 : Hid (Below w.heap.size w (wr.setCell ⟨gb, xN, none⟩ (.bool true))) := hBz.out.setCell (by simp; omega) _
                      have K9 := Lib.hid (hKz.out.far (p := ⟨gb, xN, none⟩) (by simp; omega) (.bool true))
                      have OK9 := Lib.hid (hOk.out.kept (hOb.out.grown_set xN (.bool true)) (hOk.out.ne_typed (Typed.of_own hOb.out) (by decide)))
                      have z6 : (0 : Int) ≤ (xN : Int) := by omega
                      have z7 : (xN : Int) < (n : Int) + (n2 : Int) := by omega
                      have z8 : (0 : Int) ≤ (j : Int) := by omega
                      have z9 : (j : Int) < (n8 : Int) := by omega
                      subst hAe
                      clear hmk hxk hgu3
                      go_wp2_with fail
                      go_roundw
                      case rel => exact ⟨j + 1, o2.set xN true, by omega, by go_num, OB9, O9, K9, B9, OK9, hmk2⟩
                      case measure => simp [intOf] <;> omega
                    · obtain rfl : o2 = oM := by have := hmk.out; rw [List.drop_of_length_le (by have := hOk.out.len; rw [List.length_map] at this; omega)] at this; exact this
                      clear hmk
                      go_wp2_with fail
                      go_roundw
                      case rel => exact ⟨i, o2, by omega, by go_num, hOb, hOz, hKz, hBz, hW4⟩
                      case measure => simp [intOf] <;> omega
              · obtain ⟨w9, hw9⟩ : ∃ w9 : World, w9 = w7.alloc (.cells #[.slice none 0 0, .slice none 0 0, .int .i64 0] 35) := ⟨_, rfl⟩
                have hba : Below w7.heap.size w7 w9 := by rw [hw9]; exact below_new _ _
                have KTw9 : Hid (Blk w9 w7.heap.size 35 #[.slice none 0 0, .slice none 0 0, .int .i64 0]) := by rw [hw9]; exact Blk.new _ _ _
                have hB0w9 : Hid (Below wd.heap.size wd w9) := below_next hB0w7.out hba
                go_simp
                rw [← hw9]
                have HBA := Lib.hid hba
                clear hba hw9
                have HSB := keepBox hB0w9.out hS
                have HNw9 := Lib.hid (HNw7.out.keep HBA.out)
                have hS9 : w9.cell? ⟨g, i, none⟩ = some (.slice Xi ni ci) := HSB
                refine hK _ _ (fun _ => hS9) ?_
                clear hK
                (try simp only [Act.put, List.setIfInBounds_toArray, List.set_cons_zero, List.set_cons_succ])
                refine oneT (i := 8) (by kernel_rfl) rfl (by rfl) (fun K hK => ?_)
                go_simp
                refine (asked_ref 0 _ _ _ _ _ _ (row.take i) (negF xi) vars w9 ((HOzd.out.keep hB0w9.out).grid.take (k := i) (by omega)) HNw9.out v0 v6 HTK.out HXL.out.neg (Nat.zero_le _) t y a hta).mono ?_
                rintro e w8 ⟨L4, nl4, cl4, Y4, ny4, cy4, rfl, hI4, hJ4, hAL, hAY, _, _, hb4⟩
                have AL := Lib.hid hAL
                have AY := Lib.hid hAY
                have IT := Lib.hid hI4
                have IY := Lib.hid hJ4
                have hB0w8 : Hid (Below wd.heap.size wd w8) := below_next hB0w9.out hb4
                have HB4 := Lib.hid hb4
                clear hI4 hJ4 hb4 hAL hAY
                have HSB := keepBox hB0w8.out hS
                have hS8 : w8.cell? ⟨g, i, none⟩ = some (.slice Xi ni ci) := HSB
                refine hK _ _ (fun _ => hS8) ?_
                clear hK
                (try simp only [Act.put, List.setIfInBounds_toArray, List.set_cons_zero, List.set_cons_succ])
                refine oneT (i := 10) (by kernel_rfl) rfl (by rfl) (fun K hK => ?_)
                have LE9 : wd.heap.size ≤ w7.heap.size := hB0w7.out.size
                obtain ⟨b9, hb9⟩ : ∃ q, q = w7.heap.size := ⟨_, rfl⟩
                have KT9 : Hid (Blk w8 b9 35 #[.slice none 0 0, .slice none 0 0, .int .i64 0]) := by rw [hb9]; exact KTw9.out.keep HB4.out
                have hb9d : wd.heap.size ≤ b9 := by rw [hb9]; exact LE9
                rw [← hb9]
                clear hb9
                have kc0 := KT9.out.cell 0
                have kc1 := KT9.out.cell 1
                have kc2 := KT9.out.cell 2
                simp at kc0 kc1 kc2
                have kf0 := KT9.out.frozen 0
                have kf1 := KT9.out.frozen 1
                have kf2 := KT9.out.frozen 2
                have klt := KT9.out.lt
                obtain ⟨wf, hwf⟩ : ∃ wf : World, wf = ((w8.setCell ⟨b9, 0, none⟩ (.slice L4 nl4 cl4)).setCell ⟨b9, 1, none⟩ (.slice Y4 ny4 cy4)).setCell ⟨b9, 2, none⟩ (.int .i64 a) := ⟨_, rfl⟩
                have KF : Hid (Blk wf b9 35 #[.slice L4 nl4 cl4, .slice Y4 ny4 cy4, .int .i64 a]) := by
                  rw [hwf]
                  have := ((KT9.out.set_ 0 (.slice L4 nl4 cl4)).set_ 1 (.slice Y4 ny4 cy4)).set_ 2 (.int .i64 a)
                  simpa [Hid] using this
                have HGF : Hid (w8.grownBy wf (some b9)) := by
                  rw [hwf]
                  exact grown_trans (grown_trans (grown_setCell _ ⟨b9, 0, none⟩ _) (grown_setCell _ ⟨b9, 1, none⟩ _)) (grown_setCell _ ⟨b9, 2, none⟩ _)
                have T9 : Hid (Typed 35 w8 b9) := Typed.of_blk KT9.out
                have HB0f : Hid (Below wd.heap.size wd wf) := hB0w8.out.grown HGF.out hB0w8.out.size (fun q hq => by cases hq; exact hb9d)
                have ITf : Hid (Ints wf L4 nl4 cl4 t) := IT.out.kept0 HGF.out (fun _ => AL.out.ne (Nat.zero_le _) T9.out (by decide))
                have IYf : Hid (Ints wf Y4 ny4 cy4 y) := IY.out.kept0 HGF.out (fun _ => AY.out.ne (Nat.zero_le _) T9.out (by decide))
                go_simp
                rw [← hwf]
                refine hK _ _ (noT_no (by kernel_rfl)) ?_
                clear hK
                refine doneT (by kernel_rfl) ?_ _
                have HObf := Lib.hid (HObd.out.keep HB0f.out)
                have HOzf := Lib.hid (HOzd.out.keep HB0f.out)
                have HKzf := Lib.hid (HKzd.out.keep HB0f.out)
                have HBzf := Lib.hid (below_next HBzd.out HB0f.out)
                clear kc0 kc1 kc2 kf0 kf1 kf2 klt hwf KT9 HGF T9 IT IY AL AY hb9d
                by_cases ha : a < 0
                · have hW4 : Hid (wantF vars row n i o' = o) := by
                    have := hW3.out
                    rw [causesF, hrowi.out, hta.out, if_pos ha] at this
                    exact this
                  have kf2' := KF.out.cell 2
                  simp at kf2'
                  have kl' := KF.out.lt
                  go_wp2_with fail
                  go_roundw
                  case rel => exact ⟨i, o', by omega, by go_num, HObf, HOzf, HKzf, HBzf, hW4⟩
                  case measure => simp [intOf] <;> omega
                · obtain ⟨aN, rfl⟩ : ∃ aN : Nat, a = (aN : Int) := ⟨a.toNat, by omega⟩
                  have haN : aN < i := by have := HHT.out.2.2.2.1 (by omega); omega
                  obtain ⟨ks, hks⟩ : ∃ ks, Hid (needF row t y t.length [(aN : Int)] = ks) := ⟨_, rfl⟩
                  have hcn : ∀ x, x ∈ causesF vars row i ↔ x ∈ ks := fun x => by
                    have e : causesF vars row i = cauF row t y t.length [(aN : Int)] := by rw [causesF, hrowi.out, hta.out, if_neg (by simp only; omega)]
                    rw [e, ← hks.out]
                    exact cau_need t.length _ _ (fun _ => Iff.rfl) x
                  have hKR : Hid (∀ x ∈ ks, 0 ≤ x ∧ x < i) := fun x hx => causes_lt v0 hrl.out (i := i) (by rw [hrn.out]; exact hil) x ((hcn x).2 hx)
                  obtain ⟨oM, hoM⟩ : ∃ oM, Hid (markF o' ks = oM) := ⟨_, rfl⟩
                  have hW4 : Hid (wantF vars row n i oM = o) := by have := hW3.out; rw [markF_same hcn, hoM.out] at this; exact this
                  have kf0' := KF.out.cell 0
                  have kf1' := KF.out.cell 1
                  have kf2' := KF.out.cell 2
                  simp at kf0' kf1' kf2'
                  have kl' := KF.out.lt
                  have hgrz := Lib.hid HOzf.out.grid
                  have htl : t.length ≤ 1000 := by have := HHT.out.1.len_le v0; omega
                  clear hW3 hcn
                  go_wp2_with fail
                  refine (needed_ref wf (some ⟨g, 0, none⟩) (n + n2) cR3 row L4 nl4 cl4 t Y4 ny4 cy4 y aN hgrz.out ITf.out IYf.out HHT.out.2.1 (by omega) (fun q hq => by have := HHT.out.2.2.1 q hq; omega) (fun x hx => by have := HHT.out.1.1 x hx; omega) htl ks hks).mono ?_
                  rintro e wk ⟨A8, n8, c8, rfl, hK8, hb8⟩
                  have OK8 := Lib.hid hK8
                  have OB8 := Lib.hid (HObf.out.keep hb8)
                  have O8 := Lib.hid (HOzf.out.keep hb8)
                  have K8 := Lib.hid (HKzf.out.keep hb8)
                  have B8 := Lib.hid (below_next HBzf.out hb8)
                  have hn8 : n8 ≤ 9223372036854775807 := by have h1 := hK8.sl.le; have h2 := hK8.sl.cap; unfold maxLen at h2; omega
                  have hoM0 : Hid (markF o' (ks.drop 0) = oM) := hoM
                  clear hK8 hb8 hgrz kf0' kf1' kf2' kl' KF
                  go_wp2_with fail
                  go_loopw [73] (fun s wy => ∃ (j : Nat) (o2 : List Bool), j ≤ n8 ∧ s = .int .i64 j ∧ Hid (Own 4 wy (w.heap.size + 1) (some ⟨gb, 0, none⟩) (n + n2) (n + n2) (o2.map Value.bool)) ∧ Hid (OwnP 25 3 wy (w.heap.size + 1) w.heap.size (some ⟨g, 0, none⟩) (n + n2) cR3 row) ∧ Hid (Blk wy w.heap.size 24 #[.int .i64 vars, .slice A n c]) ∧ Hid (Below w.heap.size w wy) ∧ Hid (Own 3 wy wf.heap.size A8 n8 c8 (ks.map (Value.int .i64))) ∧ Hid (markF o2 (ks.drop j) = oM)) (fun i _ => n8 - (intOf i).toNat)
                  case atStart => exact ⟨0, o', Nat.zero_le _, rfl, OB8, O8, K8, B8, OK8, hoM0⟩
                  case round =>
                    clear OB8 O8 B8 OK8 K8 hoM0
                    obtain ⟨j, o2, hj, rfl, hOb, hOz, hKz, hBz, hOk, hmk⟩ := hrel
                    by_cases hjn : j < n8
                    · obtain ⟨b5, off5, x, hAe, hbb5, hcell5, x1, x2, hxk⟩ := (hOk.out.ints (fun x hx => by have := hKR.out x hx; unfold I64; omega)).round hjn
                      have hxr := hKR.out x (List.mem_of_getElem? hxk.out)
                      obtain ⟨xN, rfl⟩ : ∃ xN : Nat, x = (xN : Int) := ⟨x.toNat, by omega⟩
                      have hmk2 : Hid (markF (o2.set xN true) (ks.drop (j + 1)) = oM) := by have := hmk.out; rw [drop_cons_of hxk.out] at this; exact this
                      obtain ⟨gy, u2, hgy, hgl3, hgz3, hgc3, hgf3, hgu3⟩ := hOb.out.at_ (k := xN) (by omega)
                      cases hgy
                      have OB9 : Hid (Own 4 (wr.setCell ⟨gb, xN, none⟩ (.bool true)) (w.heap.size + 1) (some ⟨gb, 0, none⟩) (n + n2) (n + n2) ((o2.set xN true).map Value.bool)) := by
                        rw [List.map_set]; exact hOb.out.set_ xN (.bool true)
                      have O9 := Lib.hid (hOz.out.kept (hOb.out.grown_set xN (.bool true)) (fun g hg => by cases hg; exact ⟨by omega, Typed.of_own hOb.out⟩) (by decide) (by decide))
                      have B9 : Hid (Below w.heap.size w (wr.setCell ⟨gb, xN, none⟩ (.bool true))) := hBz.out.setCell (by simp; omega) _
                      have K9 := Lib.hid (hKz.out.far (p := ⟨gb, xN, none⟩) (by simp; omega) (.bool true))
                      have OK9 := Lib.hid (hOk.out.kept (hOb.out.grown_set xN (.bool true)) (hOk.out.ne_typed (Typed.of_own hOb.out) (by decide)))
                      have z6 : (0 : Int) ≤ (xN : Int) := by omega
                      have z7 : (xN : Int) < (n : Int) + (n2 : Int) := by omega
                      have z8 : (0 : Int) ≤ (j : Int) := by omega
                      have z9 : (j : Int) < (n8 : Int) := by omega
                      subst hAe
                      clear hmk hxk hgu3
                      go_wp2_with fail
                      go_roundw
                      case rel => exact ⟨j + 1, o2.set xN true, by omega, by go_num, OB9, O9, K9, B9, OK9, hmk2⟩
                      case measure => simp [intOf] <;> omega
                    · obtain rfl : o2 = oM := by have := hmk.out; rw [List.drop_of_length_le (by have := hOk.out.len; rw [List.length_map] at this; omega)] at this; exact this
                      clear hmk
                      go_wp2_with fail
                      go_roundw
                      case rel => exact ⟨i, o2, by omega, by go_num, hOb, hOz, hKz, hBz, hW4⟩
                      case measure => simp [intOf] <;> omega
            · obtain ⟨w9, hw9⟩ : ∃ w9 : World, w9 = wd.alloc (.cells #[.slice none 0 0, .slice none 0 0, .int .i64 0] 35) := ⟨_, rfl⟩
              have hba : Below wd.heap.size wd w9 := by rw [hw9]; exact below_new _ _
              have KTw9 : Hid (Blk w9 wd.heap.size 35 #[.slice none 0 0, .slice none 0 0, .int .i64 0]) := by rw [hw9]; exact Blk.new _ _ _
              have hB0w9 : Hid (Below wd.heap.size wd w9) := below_next hB0d.out hba
              go_simp
              rw [← hw9]
              have HBA := Lib.hid hba
              clear hba hw9
              have HSB := keepBox hB0w9.out hS
              have hS9 : w9.cell? ⟨g, i, none⟩ = some (.slice Xi ni ci) := HSB
              refine hK _ _ (fun _ => hS9) ?_
              clear hK
              (try simp only [Act.put, List.setIfInBounds_toArray, List.set_cons_zero, List.set_cons_succ])
              refine oneT (i := 7) (by kernel_rfl) rfl (by rfl) (fun K hK => ?_)
              go_simp
              refine (negatives_any Xi ni ci xi w9 (HIid.out.keep hB0w9.out) HXB.out hni2).mono ?_
              rintro e w7 ⟨N7, nn7, cn7, rfl, hN7, hb7⟩
              have HNw7 := Lib.hid (hN7.ints (negF_i64 v6 HXL.out))
              have hB0w7 : Hid (Below wd.heap.size wd w7) := below_next hB0w9.out hb7
              have HB7 := Lib.hid hb7
              clear hN7 hb7
              have HSB := keepBox hB0w7.out hS
              have hS7 : w7.cell? ⟨g, i, none⟩ = some (.slice Xi ni ci) := HSB
              refine hK _ _ (fun _ => hS7) ?_
              clear hK
              (try simp only [Act.put, List.setIfInBounds_toArray, List.set_cons_zero, List.set_cons_succ])
              refine oneT (i := 8) (by kernel_rfl) rfl (by rfl) (fun K hK => ?_)
              go_simp
              refine (asked_ref 0 _ _ _ _ _ _ (row.take i) (negF xi) vars w7 ((HOzd.out.keep hB0w7.out).grid.take (k := i) (by omega)) HNw7.out v0 v6 HTK.out HXL.out.neg (Nat.zero_le _) t y a hta).mono ?_
              rintro e w8 ⟨L4, nl4, cl4, Y4, ny4, cy4, rfl, hI4, hJ4, hAL, hAY, _, _, hb4⟩
              have AL := Lib.hid hAL
              have AY := Lib.hid hAY
              have IT := Lib.hid hI4
              have IY := Lib.hid hJ4
              have hB0w8 : Hid (Below wd.heap.size wd w8) := below_next hB0w7.out hb4
              have HB4 := Lib.hid hb4
              clear hI4 hJ4 hb4 hAL hAY
              have HSB := keepBox hB0w8.out hS
              have hS8 : w8.cell? ⟨g, i, none⟩ = some (.slice Xi ni ci) := HSB
              refine hK _ _ (fun _ => hS8) ?_
              clear hK
              (try simp only [Act.put, List.setIfInBounds_toArray, List.set_cons_zero, List.set_cons_succ])
              refine oneT (i := 10) (by kernel_rfl) rfl (by rfl) (fun K hK => ?_)
              have LE9 : wd.heap.size ≤ wd.heap.size := Nat.le_refl _
              obtain ⟨b9, hb9⟩ : ∃ q, q = wd.heap.size := ⟨_, rfl⟩
              have KT9 : Hid (Blk w8 b9 35 #[.slice none 0 0, .slice none 0 0, .int .i64 0]) := by rw [hb9]; exact (KTw9.out.keep HB7.out).keep HB4.out
              have hb9d : wd.heap.size ≤ b9 := by rw [hb9]; exact LE9
              rw [← hb9]
              clear hb9
              have kc0 := KT9.out.cell 0
              have kc1 := KT9.out.cell 1
              have kc2 := KT9.out.cell 2
              simp at kc0 kc1 kc2
              have kf0 := KT9.out.frozen 0
              have kf1 := KT9.out.frozen 1
              have kf2 := KT9.out.frozen 2
              have klt := KT9.out.lt
              obtain ⟨wf, hwf⟩ : ∃ wf : World, wf = ((w8.setCell ⟨b9, 0, none⟩ (.slice L4 nl4 cl4)).setCell ⟨b9, 1, none⟩ (.slice Y4 ny4 cy4)).setCell ⟨b9, 2, none⟩ (.int .i64 a) := ⟨_, rfl⟩
              have KF : Hid (Blk wf b9 35 #[.slice L4 nl4 cl4, .slice Y4 ny4 cy4, .int .i64 a]) := by
                rw [hwf]
                have := ((KT9.out.set_ 0 (.slice L4 nl4 cl4)).set_ 1 (.slice Y4 ny4 cy4)).set_ 2 (.int .i64 a)
                simpa [Hid] using this
              have HGF : Hid (w8.grownBy wf (some b9)) := by
                rw [hwf]
                exact grown_trans (grown_trans (grown_setCell _ ⟨b9, 0, none⟩ _) (grown_setCell _ ⟨b9, 1, none⟩ _)) (grown_setCell _ ⟨b9, 2, none⟩ _)
              have T9 : Hid (Typed 35 w8 b9) := Typed.of_blk KT9.out
              have HB0f : Hid (Below wd.heap.size wd wf) := hB0w8.out.grown HGF.out hB0w8.out.size (fun q hq => by cases hq; exact hb9d)
              have ITf : Hid (Ints wf L4 nl4 cl4 t) := IT.out.kept0 HGF.out (fun _ => AL.out.ne (Nat.zero_le _) T9.out (by decide))
              have IYf : Hid (Ints wf Y4 ny4 cy4 y) := IY.out.kept0 HGF.out (fun _ => AY.out.ne (Nat.zero_le _) T9.out (by decide))
              go_simp
              rw [← hwf]
              refine hK _ _ (noT_no (by kernel_rfl)) ?_
              clear hK
              refine doneT (by kernel_rfl) ?_ _
              have HObf := Lib.hid (HObd.out.keep HB0f.out)
              have HOzf := Lib.hid (HOzd.out.keep HB0f.out)
              have HKzf := Lib.hid (HKzd.out.keep HB0f.out)
              have HBzf := Lib.hid (below_next HBzd.out HB0f.out)
              clear kc0 kc1 kc2 kf0 kf1 kf2 klt hwf KT9 HGF T9 IT IY AL AY hb9d
              by_cases ha : a < 0
              · have hW4 : Hid (wantF vars row n i o' = o) := by
                  have := hW3.out
                  rw [causesF, hrowi.out, hta.out, if_pos ha] at this
                  exact this
                have kf2' := KF.out.cell 2
                simp at kf2'
                have kl' := KF.out.lt
                go_wp2_with fail
                go_roundw
                case rel => exact ⟨i, o', by omega, by go_num, HObf, HOzf, HKzf, HBzf, hW4⟩
                case measure => simp [intOf] <;> omega
              · obtain ⟨aN, rfl⟩ : ∃ aN : Nat, a = (aN : Int) := ⟨a.toNat, by omega⟩
                have haN : aN < i := by have := HHT.out.2.2.2.1 (by omega); omega
                obtain ⟨ks, hks⟩ : ∃ ks, Hid (needF row t y t.length [(aN : Int)] = ks) := ⟨_, rfl⟩
                have hcn : ∀ x, x ∈ causesF vars row i ↔ x ∈ ks := fun x => by
                  have e : causesF vars row i = cauF row t y t.length [(aN : Int)] := by rw [causesF, hrowi.out, hta.out, if_neg (by simp only; omega)]
                  rw [e, ← hks.out]
                  exact cau_need t.length _ _ (fun _ => Iff.rfl) x
                have hKR : Hid (∀ x ∈ ks, 0 ≤ x ∧ x < i) := fun x hx => causes_lt v0 hrl.out (i := i) (by rw [hrn.out]; exact hil) x ((hcn x).2 hx)
                obtain ⟨oM, hoM⟩ : ∃ oM, Hid (markF o' ks = oM) := ⟨_, rfl⟩
                have hW4 : Hid (wantF vars row n i oM = o) := by have := hW3.out; rw [markF_same hcn, hoM.out] at this; exact this
                have kf0' := KF.out.cell 0
                have kf1' := KF.out.cell 1
                have kf2' := KF.out.cell 2
                simp at kf0' kf1' kf2'
                have kl' := KF.out.lt
                have hgrz := Lib.hid HOzf.out.grid
                have htl : t.length ≤ 1000 := by have := HHT.out.1.len_le v0; omega
                clear hW3 hcn
                go_wp2_with fail
                refine (needed_ref wf (some ⟨g, 0, none⟩) (n + n2) cR3 row L4 nl4 cl4 t Y4 ny4 cy4 y aN hgrz.out ITf.out IYf.out HHT.out.2.1 (by omega) (fun q hq => by have := HHT.out.2.2.1 q hq; omega) (fun x hx => by have := HHT.out.1.1 x hx; omega) htl ks hks).mono ?_
                rintro e wk ⟨A8, n8, c8, rfl, hK8, hb8⟩
                have OK8 := Lib.hid hK8
                have OB8 := Lib.hid (HObf.out.keep hb8)
                have O8 := Lib.hid (HOzf.out.keep hb8)
                have K8 := Lib.hid (HKzf.out.keep hb8)
                have B8 := Lib.hid (below_next HBzf.out hb8)
                have hn8 : n8 ≤ 9223372036854775807 := by have h1 := hK8.sl.le; have h2 := hK8.sl.cap; unfold maxLen at h2; omega
                have hoM0 : Hid (markF o' (ks.drop 0) = oM) := hoM
                clear hK8 hb8 hgrz kf0' kf1' kf2' kl' KF
                go_wp2_with fail
                go_loopw [73] (fun s wy => ∃ (j : Nat) (o2 : List Bool), j ≤ n8 ∧ s = .int .i64 j ∧ Hid (Own 4 wy (w.heap.size + 1) (some ⟨gb, 0, none⟩) (n + n2) (n + n2) (o2.map Value.bool)) ∧ Hid (OwnP 25 3 wy (w.heap.size + 1) w.heap.size (some ⟨g, 0, none⟩) (n + n2) cR3 row) ∧ Hid (Blk wy w.heap.size 24 #[.int .i64 vars, .slice A n c]) ∧ Hid (Below w.heap.size w wy) ∧ Hid (Own 3 wy wf.heap.size A8 n8 c8 (ks.map (Value.int .i64))) ∧ Hid (markF o2 (ks.drop j) = oM)) (fun i _ => n8 - (intOf i).toNat)
                case atStart => exact ⟨0, o', Nat.zero_le _, rfl, OB8, O8, K8, B8, OK8, hoM0⟩
                case round =>
                  clear OB8 O8 B8 OK8 K8 hoM0
                  obtain ⟨j, o2, hj, rfl, hOb, hOz, hKz, hBz, hOk, hmk⟩ := hrel
                  by_cases hjn : j < n8
                  · obtain ⟨b5, off5, x, hAe, hbb5, hcell5, x1, x2, hxk⟩ := (hOk.out.ints (fun x hx => by have := hKR.out x hx; unfold I64; omega)).round hjn
                    have hxr := hKR.out x (List.mem_of_getElem? hxk.out)
                    obtain ⟨xN, rfl⟩ : ∃ xN : Nat, x = (xN : Int) := ⟨x.toNat, by omega⟩
                    have hmk2 : Hid (markF (o2.set xN true) (ks.drop (j + 1)) = oM) := by have := hmk.out; rw [drop_cons_of hxk.out] at this; exact this
                    obtain ⟨gy, u2, hgy, hgl3, hgz3, hgc3, hgf3, hgu3⟩ := hOb.out.at_ (k := xN) (by omega)
                    cases hgy
                    have OB9 : Hid (Own 4 (wr.setCell ⟨gb, xN, none⟩ (.bool true)) (w.heap.size + 1) (some ⟨gb, 0, none⟩) (n + n2) (n + n2) ((o2.set xN true).map Value.bool)) := by
                      rw [List.map_set]; exact hOb.out.set_ xN (.bool true)
                    have O9 := Lib.hid (hOz.out.kept (hOb.out.grown_set xN (.bool true)) (fun g hg => by cases hg; exact ⟨by omega, Typed.of_own hOb.out⟩) (by decide) (by decide))
                    have B9 : Hid (Below w.heap.size w (wr.setCell ⟨gb, xN, none⟩ (.bool true))) := hBz.out.setCell (by simp; omega) _
                    have K9 := Lib.hid (hKz.out.far (p := ⟨gb, xN, none⟩) (by simp; omega) (.bool true))
                    have OK9 := Lib.hid (hOk.out.kept (hOb.out.grown_set xN (.bool true)) (hOk.out.ne_typed (Typed.of_own hOb.out) (by decide)))
                    have z6 : (0 : Int) ≤ (xN : Int) := by omega
                    have z7 : (xN : Int) < (n : Int) + (n2 : Int) := by omega
                    have z8 : (0 : Int) ≤ (j : Int) := by omega
                    have z9 : (j : Int) < (n8 : Int) := by omega
                    subst hAe
                    clear hmk hxk hgu3
                    go_wp2_with fail
                    go_roundw
                    case rel => exact ⟨j + 1, o2.set xN true, by omega, by go_num, OB9, O9, K9, B9, OK9, hmk2⟩
                    case measure => simp [intOf] <;> omega
                  · obtain rfl : o2 = oM := by have := hmk.out; rw [List.drop_of_length_le (by have := hOk.out.len; rw [List.length_map] at this; omega)] at this; exact this
                    clear hmk
                    go_wp2_with fail
                    go_roundw
                    case rel => exact ⟨i, o2, by omega, by go_num, hOb, hOz, hKz, hBz, hW4⟩
                    case measure => simp [intOf] <;> omega
end Go.Proofs.Ytabjbpkojbdgaaa

/- Contract of the law's proof. (Printed by wip/tools/prooflaw.py.) -/
namespace Go.Proofs.Ytabjbpkojbdgaaa
open Go.RowKit
set_option linter.unusedSimpArgs false

set_option maxHeartbeats 4000000 in
set_option maxRecDepth 100000 in
theorem proofLaw_any (A B : Option Addr) (n c m d : Nat) (xss : List (List Int)) (rs : List (Int × List Int)) (vars : Int) (w : World) (h : Grid w A n c xss) (hv : I64 vars) (h' : Steps w B m d rs) (r1 r2 : Int) (hr : Hid (proofR vars xss rs = (r1, r2))) :
    Calls Try.prog 33 #[.agg #[.int .i64 vars, .slice A n c], .slice B m d] w (RetV (.agg #[.int .i64 r1, .int .i64 r2]) w) := by
  obtain ⟨p1, p2, hp⟩ : ∃ p1 p2, Hid (stepsR vars xss rs = (p1, p2)) := ⟨_, _, rfl⟩
  have hlen := Lib.hid h.len
  have hlv := Lib.hid h'.len
  have G := Lib.hid h
  have V := Lib.hid h'
  clear h h'
  by_cases hp1 : p1 = 0
  · subst hp1
    obtain ⟨hst, hck, hm3', hrs⟩ := stepsR_ok (vars := vars) (xss := xss) (rs := rs) (by rw [hp.out])
    obtain rfl : p2 = 0 := by rw [hp.out] at hst; exact (Prod.mk.inj hst).2
    obtain ⟨_, v0, v1, hn400, hrows⟩ := checkC_ok hck
    have hn4 : n ≤ 400 := by have := hlen.out; omega
    have hm3 : m ≤ 3000 := by have := hlv.out; omega
    have HC : Hid (∀ x ∈ xss, Lits vars x) := fun x hx => (hrows x hx).2
    have HRS : Hid (∀ r ∈ rs, (r.1 = 1 ∨ r.1 = 2) ∧ Lits vars r.2) := hrs
    obtain ⟨z, hz⟩ : ∃ z, Hid (whyF vars m xss rs 0 = z) := ⟨_, rfl⟩
    have hr2 : Hid ((if z ≠ -1 then ((11 : Int), z) else (0, 0)) = (r1, r2)) := by
      have := hr.out
      have hw : whyS vars xss rs = (z, 0, 0) := by rw [whyS, hp.out, if_neg (by simp), hlv.out, hz.out]
      rw [proofR, hw, if_neg (by simp)] at this
      exact this
    clear hst hck hm3' hrs hn400 hrows hr
    go_enter Try.func33, Try.ntmps33
    go_wp2_with fail
    refine (stepsWrong_any _ _ _ _ _ _ xss rs vars _ (G.out.keep (below_alloc (below_new _ _) _)) hv (V.out.keep (below_alloc (below_new _ _) _)) _ _ hp).mono ?_
    rintro e w1 ⟨rfl, hb1⟩
    obtain ⟨K_c0, K_r0, B_w1, l_w1⟩ := two_blks hb1
    replace G := Lib.hid (G.out.keep B_w1)
    replace V := Lib.hid (V.out.keep B_w1)
    have HB := Lib.hid B_w1
    have K_c := Lib.hid K_c0
    have K_r := Lib.hid K_r0
    clear hb1 B_w1 K_c0 K_r0
    have cK_c_0 := K_c.out.cell 0
    have cK_c_1 := K_c.out.cell 1
    simp at cK_c_0 cK_c_1
    have zK_c := K_c.out.lt
    have cK_r_0 := K_r.out.cell 0
    have cK_r_1 := K_r.out.cell 1
    simp at cK_r_0 cK_r_1
    have zK_r := K_r.out.lt
    go_wp2_with fail
    refine (refused_any _ _ _ _ _ _ xss rs vars _ (G.out.keep (below_new _ _)) (V.out.keep (below_new _ _)) v0 v1 hn4 hm3 HC.out HRS.out z hz).mono ?_
    rintro e w2 ⟨rfl, hb2⟩
    obtain ⟨K_x0, B_w2, l_w2⟩ := blk1 hb2
    replace G := Lib.hid (G.out.keep B_w2)
    replace V := Lib.hid (V.out.keep B_w2)
    replace K_c := Lib.hid (K_c.out.keep B_w2)
    replace K_r := Lib.hid (K_r.out.keep B_w2)
    replace HB := Lib.hid (below_next HB.out B_w2)
    have K_x := Lib.hid K_x0
    clear hb2 B_w2 K_x0
    clear cK_c_0 cK_c_1 zK_c cK_r_0 cK_r_1 zK_r
    have cK_c_0 := K_c.out.cell 0
    have cK_c_1 := K_c.out.cell 1
    simp at cK_c_0 cK_c_1
    have zK_c := K_c.out.lt
    have cK_r_0 := K_r.out.cell 0
    have cK_r_1 := K_r.out.cell 1
    simp at cK_r_0 cK_r_1
    have zK_r := K_r.out.lt
    have cK_x_0 := K_x.out.cell 0
    have cK_x_1 := K_x.out.cell 1
    simp at cK_x_0 cK_x_1
    have zK_x := K_x.out.lt
    by_cases hz1 : z = -1
    · subst hz1
      obtain ⟨rfl, rfl⟩ : 0 = r1 ∧ 0 = r2 := by have := hr2.out; rw [if_neg (by simp)] at this; simpa using this
      have fK_r_0 := K_r.out.frozen 0
      have fK_r_1 := K_r.out.frozen 1
      have KR := K_r
      obtain ⟨q0, q1⟩ := KR.out.put2 (.int .i64 0) (.int .i64 0)
      have Q0 := Lib.hid q0
      have Q1 := Lib.hid q1
      have BF := Lib.hid (below_put2 HB.out (g := w.heap.size + 1) (by omega) (.int .i64 0) (.int .i64 0))
      clear q0 q1
      go_wp2_with fail
      exact bodyPost_ret (v := .agg #[.int .i64 0, .int .i64 0]) (by simp [results, Try.results33, go_sem, Q0.out, Q1.out, zK_r]) rfl ⟨rfl, BF.out⟩
    · obtain ⟨rfl, rfl⟩ : 11 = r1 ∧ z = r2 := by have := hr2.out; rw [if_pos hz1] at this; simpa using this
      have dz : (z == -1) = false := by rw [beq_eq_false_iff_ne]; exact hz1
      have dz2 : (z != -1) = true := by simpa using hz1
      go_wp2_with fail
      refine (refused_any _ _ _ _ _ _ xss rs vars _ G.out V.out v0 v1 hn4 hm3 HC.out HRS.out z hz).mono ?_
      rintro e w3 ⟨rfl, hb3⟩
      have B_w3 := hb3
      replace G := Lib.hid (G.out.keep B_w3)
      replace V := Lib.hid (V.out.keep B_w3)
      replace K_c := Lib.hid (K_c.out.keep B_w3)
      replace K_r := Lib.hid (K_r.out.keep B_w3)
      replace K_x := Lib.hid (K_x.out.keep B_w3)
      replace HB := Lib.hid (below_next HB.out B_w3)
      clear hb3 B_w3
      clear cK_c_0 cK_c_1 zK_c cK_r_0 cK_r_1 zK_r cK_x_0 cK_x_1 zK_x
      have cK_c_0 := K_c.out.cell 0
      have cK_c_1 := K_c.out.cell 1
      simp at cK_c_0 cK_c_1
      have zK_c := K_c.out.lt
      have cK_r_0 := K_r.out.cell 0
      have cK_r_1 := K_r.out.cell 1
      simp at cK_r_0 cK_r_1
      have zK_r := K_r.out.lt
      have cK_x_0 := K_x.out.cell 0
      have cK_x_1 := K_x.out.cell 1
      simp at cK_x_0 cK_x_1
      have zK_x := K_x.out.lt
      have fK_r_0 := K_r.out.frozen 0
      have fK_r_1 := K_r.out.frozen 1
      have fK_x_0 := K_x.out.frozen 0
      have fK_x_1 := K_x.out.frozen 1
      have hkr : w.heap.size + 1 ≠ w1.heap.size := by omega
      have KF := (K_r.out.far (p := ⟨w1.heap.size, 0, none⟩) hkr (.int .i64 11)).far (p := ⟨w1.heap.size, 1, none⟩) hkr (.int .i64 z)
      obtain ⟨q0, q1⟩ := KF.put2 (.int .i64 11) (.int .i64 z)
      have Q0 := Lib.hid q0
      have Q1 := Lib.hid q1
      have BF := Lib.hid (below_put2 (below_put2 HB.out (g := w1.heap.size) (by omega) (.int .i64 11) (.int .i64 z)) (g := w.heap.size + 1) (by omega) (.int .i64 11) (.int .i64 z))
      clear q0 q1 KF
      go_wp2_with fail
      exact bodyPost_ret (v := .agg #[.int .i64 11, .int .i64 z]) (by simp [results, Try.results33, go_sem, Q0.out, Q1.out, zK_r]) rfl ⟨rfl, BF.out⟩
  · obtain ⟨rfl, rfl⟩ : p1 = r1 ∧ p2 = r2 := by
      have := hr.out
      rw [proofR, whyS, hp.out, if_pos hp1, if_pos hp1] at this
      simpa using this
    go_enter Try.func33, Try.ntmps33
    go_wp2_with fail
    refine (stepsWrong_any _ _ _ _ _ _ xss rs vars _ (G.out.keep (below_alloc (below_new _ _) _)) hv (V.out.keep (below_alloc (below_new _ _) _)) _ _ hp).mono ?_
    rintro e w1 ⟨rfl, hb1⟩
    obtain ⟨K_c0, K_r0, B_w1, l_w1⟩ := two_blks hb1
    replace G := Lib.hid (G.out.keep B_w1)
    replace V := Lib.hid (V.out.keep B_w1)
    have HB := Lib.hid B_w1
    have K_c := Lib.hid K_c0
    have K_r := Lib.hid K_r0
    clear hb1 B_w1 K_c0 K_r0
    have cK_c_0 := K_c.out.cell 0
    have cK_c_1 := K_c.out.cell 1
    simp at cK_c_0 cK_c_1
    have zK_c := K_c.out.lt
    have cK_r_0 := K_r.out.cell 0
    have cK_r_1 := K_r.out.cell 1
    simp at cK_r_0 cK_r_1
    have zK_r := K_r.out.lt
    have fK_r_0 := K_r.out.frozen 0
    have fK_r_1 := K_r.out.frozen 1
    have dp : (p1 == 0) = false := by rw [beq_eq_false_iff_ne]; exact hp1
    have KR := K_r
    obtain ⟨q0, q1⟩ := KR.out.put2 (.int .i64 p1) (.int .i64 p2)
    have Q0 := Lib.hid q0
    have Q1 := Lib.hid q1
    have BF := Lib.hid (below_put2 HB.out (g := w.heap.size + 1) (by omega) (.int .i64 p1) (.int .i64 p2))
    clear q0 q1
    go_wp2_with fail
    exact bodyPost_ret (v := .agg #[.int .i64 p1, .int .i64 p2]) (by simp [results, Try.results33, go_sem, Q0.out, Q1.out, zK_r]) rfl ⟨rfl, below_alloc BF.out _⟩
end Go.Proofs.Ytabjbpkojbdgaaa

/- Contract of the law's sameSteps, where the steps learn the clauses. -/
namespace Go.Proofs.Ytabjbpkojbdgaaa
open Go.RowKit
set_option linter.unusedSimpArgs false

set_option maxHeartbeats 4000000 in
set_option maxRecDepth 100000 in
theorem sameSteps_eq (A B : Option Addr) (n c d : Nat) (l : List (List Int)) (w : World) (h : Learnts w A n c l) (h' : Grid w B n d l) :
    Calls Try.prog 37 #[.slice A n c, .slice B n d] w (RetV (.bool true) w) := by
  have hn63 : n ≤ 9223372036854775807 := by have h1 := h.le; have h2 := h.cap; unfold maxLen at h2; omega
  have hbd' := h'.bd
  have L := Lib.hid h
  have G := Lib.hid h'
  have e0 : ((n : Int) != (n : Int)) = false := by simp
  clear h h'
  go_enter Try.func37, Try.ntmps37
  go_wp2_with fail
  go_loopw [5] (fun s5 wr => ∃ (k : Nat), k ≤ n ∧ s5 = .int .i64 k ∧ Hid (Below w.heap.size w wr)) (fun i _ => n - (intOf i).toNat)
  case atStart => exact ⟨0, Nat.zero_le _, rfl, Below.refl _ _⟩
  case round =>
    obtain ⟨k, hk, rfl, hB⟩ := hrel
    by_cases hkn : k < n
    · obtain ⟨b, hAe, hbz, hcells⟩ := (L.out.keep hB.out).at_ (by omega)
      obtain ⟨bg, offg, A', n', c', xs, hGe, hgz, hcellg, hIx, hxg⟩ := (G.out.keep hB.out).round hkn
      obtain ⟨X, nx, cx, hc9, hIX⟩ := hcells k xs hxg.out
      have s0 : wr.cell? ⟨b, k * 9, none⟩ = some (.int .i64 1) := hc9 0 _ rfl
      have s1 : wr.cell? ⟨b, k * 9 + 1, none⟩ = some (.slice X nx cx) := hc9 1 _ rfl
      have s2 : wr.cell? ⟨b, k * 9 + 2, none⟩ = some (.slice none 0 0) := hc9 2 _ rfl
      have HX := Lib.hid hIX
      have HG := Lib.hid hIx
      have hsame : Hid (sameB xs xs = true) := by show _ = _; simp [sameB]
      have z3 : (0 : Int) ≤ (k : Int) := by omega
      have z4 : (k : Int) < (n : Int) := by omega
      subst hAe
      subst hGe
      have z1 := (cell_lt s0).1
      have z2 := (cell_lt hcellg).1
      clear hcells hc9 hIX hIx hxg
      go_wp2_with fail
      go_quiet ((go_at_call 16; exact RetQ.quiet (same_any _ _ _ _ _ _ xs xs _ (HX.out.keep (below_drewN _ _)) (HG.out.keep (below_drewN _ _)) true hsame)))
      go_wp2_with fail
      go_roundw
      case rel => exact ⟨k + 1, by omega, by go_num, below_next hB.out (below_drewN _ _)⟩
      case measure => simp [intOf] <;> omega
    · obtain rfl : k = n := by omega
      go_wp2_with fail
      go_ret
      exact ⟨rfl, hB.out⟩
end Go.Proofs.Ytabjbpkojbdgaaa

/- The walk of TrimDoes: it returns true. (Printed by wip/tools/trimdoes.py.) -/
namespace Go.Proofs.Ytabjbpkojbdgaaa
open Go.RowKit
set_option linter.unusedSimpArgs false

theorem agn_proof : proofR 2 [[1, 2], [-1], [-2]] [(1, [])] = (0, 0) := by decide
theorem agn_do : (pickF (wantedF 2 [[1, 2], [-1], [-2]] [(1, [])]) (learntF [(1, [])]) 3).map sortF = [[]] := by decide
theorem learntF_lits {vars : Int} {rs : List (Int × List Int)} (h : ∀ r ∈ rs, (r.1 = 1 ∨ r.1 = 2) ∧ Lits vars r.2) : ∀ x ∈ learntF rs, Lits vars x := fun x hx => by
  unfold learntF at hx
  obtain ⟨r, hr1, rfl⟩ := List.mem_map.1 hx
  exact (h r (List.mem_filter.1 hr1).1).2

set_option maxHeartbeats 8000000 in
set_option maxRecDepth 100000 in
theorem trimDoes_walk {vars : Int} {A B : Option Addr} {n c m d : Nat} {xss : List (List Int)} {rs : List (Int × List Int)} (w : World) (hv : I64 vars) (h : Grid w A n c xss) (h' : Steps w B m d rs) :
    Calls Try.prog 7 #[.agg #[.int .i64 vars, .slice A n c], .slice B m d] w fun e w' => e = .returned (.bool true) ∧ Below w.heap.size w w' := by
  have hbd := h.bd
  have hbd' := h'.bd
  have hlen := Lib.hid h.len
  have hlv := Lib.hid h'.len
  have G := Lib.hid h
  have HV := Lib.hid h'
  have hn63 : n ≤ 9223372036854775807 := by omega
  obtain ⟨hvy, hhv⟩ : ∃ r, Hid ((decide (40 < vars) || decide (60 < (n : Int))) = r) := ⟨_, rfl⟩
  obtain ⟨r1, r2, hr⟩ : ∃ r1 r2, Hid (proofR vars xss rs = (r1, r2)) := ⟨_, _, rfl⟩
  clear h h'
  cases hvy
  rotate_left
  · go_enter Try.func7, Try.ntmps7
    go_wp2_with fail
    refine (heavy_any _ _ _ _ _ hn63 _ hhv).mono ?_
    rintro e w1 ⟨rfl, hb1⟩
    obtain ⟨K_c0, B_w1, l_w1⟩ := blk1 hb1
    replace G := Lib.hid (G.out.keep B_w1)
    replace HV := Lib.hid (HV.out.keep B_w1)
    have HB := Lib.hid B_w1
    have K_c := Lib.hid K_c0
    clear hb1 B_w1 K_c0
    have cK_c_0 := K_c.out.cell 0
    have cK_c_1 := K_c.out.cell 1
    simp at cK_c_0 cK_c_1
    have zK_c := K_c.out.lt
    go_wp2_with fail
    go_ret
    exact ⟨rfl, HB.out⟩
  by_cases hm8 : 80 < m
  · have dm : decide ((80 : Int) < (m : Int)) = true := by simp; omega
    go_enter Try.func7, Try.ntmps7
    go_wp2_with fail
    refine (heavy_any _ _ _ _ _ hn63 _ hhv).mono ?_
    rintro e w1 ⟨rfl, hb1⟩
    obtain ⟨K_c0, B_w1, l_w1⟩ := blk1 hb1
    replace G := Lib.hid (G.out.keep B_w1)
    replace HV := Lib.hid (HV.out.keep B_w1)
    have HB := Lib.hid B_w1
    have K_c := Lib.hid K_c0
    clear hb1 B_w1 K_c0
    have cK_c_0 := K_c.out.cell 0
    have cK_c_1 := K_c.out.cell 1
    simp at cK_c_0 cK_c_1
    have zK_c := K_c.out.lt
    go_wp2_with fail
    go_ret
    exact ⟨rfl, HB.out⟩
  have dm : decide ((80 : Int) < (m : Int)) = false := by simp; omega
  by_cases hr1 : r1 = 0
  · subst hr1
    obtain rfl : r2 = 0 := by
      have := hr.out
      rw [proofR] at this
      by_cases g1 : (whyS vars xss rs).2.1 ≠ 0
      · rw [if_pos g1] at this; exact absurd (by rw [this]) g1
      · rw [if_neg g1] at this
        by_cases g2 : (whyS vars xss rs).1 ≠ -1
        · rw [if_pos g2] at this; simp at this
        · rw [if_neg g2] at this; simpa using this.symm
    go_enter Try.func7, Try.ntmps7
    go_wp2_with fail
    refine (heavy_any _ _ _ _ _ hn63 _ hhv).mono ?_
    rintro e w1 ⟨rfl, hb1⟩
    obtain ⟨K_c0, B_w1, l_w1⟩ := blk1 hb1
    replace G := Lib.hid (G.out.keep B_w1)
    replace HV := Lib.hid (HV.out.keep B_w1)
    have HB := Lib.hid B_w1
    have K_c := Lib.hid K_c0
    clear hb1 B_w1 K_c0
    have cK_c_0 := K_c.out.cell 0
    have cK_c_1 := K_c.out.cell 1
    simp at cK_c_0 cK_c_1
    have zK_c := K_c.out.lt
    obtain ⟨ob, hob⟩ : ∃ q, Hid (wantedF vars xss rs = q) := ⟨_, rfl⟩
    obtain ⟨R, hR⟩ : ∃ q, Hid ((pickF ob (learntF rs) n).map sortF = q) := ⟨_, rfl⟩
    obtain ⟨LR, hLR⟩ : ∃ q, Hid (learntF rs = q) := ⟨_, rfl⟩
    obtain ⟨_, hst0, _⟩ := proofR_parts hr.out
    obtain ⟨_, hck, _, hrs⟩ := stepsR_ok hst0
    obtain ⟨_, v0, v1, _, _⟩ := checkC_ok hck
    have HLL : Hid (∀ x ∈ LR, Lits vars x) := by rw [← hLR.out]; exact learntF_lits hrs
    clear hst0 hck hrs
    go_wp2_with fail
    refine (trimDo_own _ _ _ _ _ _ xss rs vars _ G.out hv HV.out hr ob hob R hR).mono ?_
    rintro e w2 ⟨L2, nl2, cl2, rfl, hL2, hb2⟩
    have B_w2 := hb2
    replace G := Lib.hid (G.out.keep B_w2)
    replace HV := Lib.hid (HV.out.keep B_w2)
    replace K_c := Lib.hid (K_c.out.keep B_w2)
    replace HB := Lib.hid (below_next HB.out B_w2)
    clear hb2 B_w2
    clear cK_c_0 cK_c_1 zK_c
    have cK_c_0 := K_c.out.cell 0
    have cK_c_1 := K_c.out.cell 1
    simp at cK_c_0 cK_c_1
    have zK_c := K_c.out.lt
    have IL := Lib.hid hL2
    clear hL2
    go_wp2_with fail
    refine (against_any _).mono ?_
    rintro e w4 ⟨A5, n5, c5, rfl, hG5, hb4⟩
    obtain ⟨K_f0, B_w4, l_w4⟩ := blk1 hb4
    replace G := Lib.hid (G.out.keep B_w4)
    replace HV := Lib.hid (HV.out.keep B_w4)
    replace IL := Lib.hid (IL.out.keep B_w4)
    replace K_c := Lib.hid (K_c.out.keep B_w4)
    replace HB := Lib.hid (below_next HB.out B_w4)
    have K_f := Lib.hid K_f0
    clear hb4 B_w4 K_f0
    clear cK_c_0 cK_c_1 zK_c
    have cK_c_0 := K_c.out.cell 0
    have cK_c_1 := K_c.out.cell 1
    simp at cK_c_0 cK_c_1
    have zK_c := K_c.out.lt
    have cK_f_0 := K_f.out.cell 0
    have cK_f_1 := K_f.out.cell 1
    simp at cK_f_0 cK_f_1
    have zK_f := K_f.out.lt
    have GP := Lib.hid hG5
    clear hG5
    go_wp2_with fail
    refine (end_any _).mono ?_
    rintro e w5 ⟨A6, n6, c6, rfl, hS6, hb5⟩
    have B_w5 := hb5
    replace G := Lib.hid (G.out.keep B_w5)
    replace HV := Lib.hid (HV.out.keep B_w5)
    replace IL := Lib.hid (IL.out.keep B_w5)
    replace GP := Lib.hid (GP.out.keep B_w5)
    replace K_c := Lib.hid (K_c.out.keep B_w5)
    replace K_f := Lib.hid (K_f.out.keep B_w5)
    replace HB := Lib.hid (below_next HB.out B_w5)
    clear hb5 B_w5
    clear cK_c_0 cK_c_1 zK_c cK_f_0 cK_f_1 zK_f
    have cK_c_0 := K_c.out.cell 0
    have cK_c_1 := K_c.out.cell 1
    simp at cK_c_0 cK_c_1
    have zK_c := K_c.out.lt
    have cK_f_0 := K_f.out.cell 0
    have cK_f_1 := K_f.out.cell 1
    simp at cK_f_0 cK_f_1
    have zK_f := K_f.out.lt
    have SP := Lib.hid hS6
    clear hS6
    have hn5 : n5 = 3 := GP.out.len.symm
    subst hn5
    go_wp2_with fail
    refine (trimDo_own _ _ _ _ _ _ [[1, 2], [-1], [-2]] [(1, [])] 2 _ GP.out ⟨by omega, by omega⟩ SP.out agn_proof _ rfl [[]] agn_do).mono ?_
    rintro e w6 ⟨L6, nl6, cl6, rfl, hI6, hb6⟩
    have hl6 : nl6 = 1 := hI6.len.symm
    subst hl6
    clear hI6
    have B_w6 := hb6
    replace G := Lib.hid (G.out.keep B_w6)
    replace HV := Lib.hid (HV.out.keep B_w6)
    replace IL := Lib.hid (IL.out.keep B_w6)
    replace GP := Lib.hid (GP.out.keep B_w6)
    replace SP := Lib.hid (SP.out.keep B_w6)
    replace K_c := Lib.hid (K_c.out.keep B_w6)
    replace K_f := Lib.hid (K_f.out.keep B_w6)
    replace HB := Lib.hid (below_next HB.out B_w6)
    clear hb6 B_w6
    clear cK_c_0 cK_c_1 zK_c cK_f_0 cK_f_1 zK_f
    have cK_c_0 := K_c.out.cell 0
    have cK_c_1 := K_c.out.cell 1
    simp at cK_c_0 cK_c_1
    have zK_c := K_c.out.lt
    have cK_f_0 := K_f.out.cell 0
    have cK_f_1 := K_f.out.cell 1
    simp at cK_f_0 cK_f_1
    have zK_f := K_f.out.lt
    go_wp2_with fail
    refine (proofLaw_any _ _ _ _ _ _ xss rs vars _ (G.out.keep (below_new _ _)) hv (HV.out.keep (below_new _ _)) _ _ hr).mono ?_
    rintro e w8 ⟨rfl, hb8⟩
    obtain ⟨K_h0, B_w8, l_w8⟩ := blk1 hb8
    replace G := Lib.hid (G.out.keep B_w8)
    replace HV := Lib.hid (HV.out.keep B_w8)
    replace IL := Lib.hid (IL.out.keep B_w8)
    replace GP := Lib.hid (GP.out.keep B_w8)
    replace SP := Lib.hid (SP.out.keep B_w8)
    replace K_c := Lib.hid (K_c.out.keep B_w8)
    replace K_f := Lib.hid (K_f.out.keep B_w8)
    replace HB := Lib.hid (below_next HB.out B_w8)
    have K_h := Lib.hid K_h0
    clear hb8 B_w8 K_h0
    clear cK_c_0 cK_c_1 zK_c cK_f_0 cK_f_1 zK_f
    have cK_c_0 := K_c.out.cell 0
    have cK_c_1 := K_c.out.cell 1
    simp at cK_c_0 cK_c_1
    have zK_c := K_c.out.lt
    have cK_f_0 := K_f.out.cell 0
    have cK_f_1 := K_f.out.cell 1
    simp at cK_f_0 cK_f_1
    have zK_f := K_f.out.lt
    have cK_h_0 := K_h.out.cell 0
    have cK_h_1 := K_h.out.cell 1
    simp at cK_h_0 cK_h_1
    have zK_h := K_h.out.lt
    go_wp2_with fail
    refine (learnt_ref _ _ _ _ rs _ (HV.out.keep (below_new _ _)) (Below.refl _ _) (by omega) LR hLR).mono ?_
    rintro e w9 ⟨L9, nl, cl, rfl, hL9, hb9⟩
    obtain ⟨K_x0, B_w9, l_w9⟩ := blk1 hb9
    replace G := Lib.hid (G.out.keep B_w9)
    replace HV := Lib.hid (HV.out.keep B_w9)
    replace IL := Lib.hid (IL.out.keep B_w9)
    replace GP := Lib.hid (GP.out.keep B_w9)
    replace SP := Lib.hid (SP.out.keep B_w9)
    replace K_c := Lib.hid (K_c.out.keep B_w9)
    replace K_f := Lib.hid (K_f.out.keep B_w9)
    replace K_h := Lib.hid (K_h.out.keep B_w9)
    replace HB := Lib.hid (below_next HB.out B_w9)
    have K_x := Lib.hid K_x0
    clear hb9 B_w9 K_x0
    clear cK_c_0 cK_c_1 zK_c cK_f_0 cK_f_1 zK_f cK_h_0 cK_h_1 zK_h
    have cK_c_0 := K_c.out.cell 0
    have cK_c_1 := K_c.out.cell 1
    simp at cK_c_0 cK_c_1
    have zK_c := K_c.out.lt
    have cK_f_0 := K_f.out.cell 0
    have cK_f_1 := K_f.out.cell 1
    simp at cK_f_0 cK_f_1
    have zK_f := K_f.out.lt
    have cK_h_0 := K_h.out.cell 0
    have cK_h_1 := K_h.out.cell 1
    simp at cK_h_0 cK_h_1
    have zK_h := K_h.out.lt
    have cK_x_0 := K_x.out.cell 0
    have cK_x_1 := K_x.out.cell 1
    simp at cK_x_0 cK_x_1
    have zK_x := K_x.out.lt
    have HL9 := Lib.hid hL9
    clear hL9
    go_wp2_with fail
    refine (wanted_ref _ _ _ _ _ _ xss rs vars _ G.out hv HV.out hr ob hob).mono ?_
    rintro e wa ⟨gb, nb, rfl, hBo, hba⟩
    have B_wa := hba
    replace G := Lib.hid (G.out.keep B_wa)
    replace HV := Lib.hid (HV.out.keep B_wa)
    replace IL := Lib.hid (IL.out.keep B_wa)
    replace GP := Lib.hid (GP.out.keep B_wa)
    replace SP := Lib.hid (SP.out.keep B_wa)
    replace HL9 := Lib.hid (HL9.out.keep B_wa)
    replace K_c := Lib.hid (K_c.out.keep B_wa)
    replace K_f := Lib.hid (K_f.out.keep B_wa)
    replace K_h := Lib.hid (K_h.out.keep B_wa)
    replace K_x := Lib.hid (K_x.out.keep B_wa)
    replace HB := Lib.hid (below_next HB.out B_wa)
    clear hba B_wa
    clear cK_c_0 cK_c_1 zK_c cK_f_0 cK_f_1 zK_f cK_h_0 cK_h_1 zK_h cK_x_0 cK_x_1 zK_x
    have cK_c_0 := K_c.out.cell 0
    have cK_c_1 := K_c.out.cell 1
    simp at cK_c_0 cK_c_1
    have zK_c := K_c.out.lt
    have cK_f_0 := K_f.out.cell 0
    have cK_f_1 := K_f.out.cell 1
    simp at cK_f_0 cK_f_1
    have zK_f := K_f.out.lt
    have cK_h_0 := K_h.out.cell 0
    have cK_h_1 := K_h.out.cell 1
    simp at cK_h_0 cK_h_1
    have zK_h := K_h.out.lt
    have cK_x_0 := K_x.out.cell 0
    have cK_x_1 := K_x.out.cell 1
    simp at cK_x_0 cK_x_1
    have zK_x := K_x.out.lt
    have IB := Lib.hid hBo
    clear hBo
    obtain ⟨i0, hi0, hz0, hz1, hz2⟩ := info_parts row_info
    have hn60 : n ≤ 60 := by have := hhv.out; simp at this; omega
    have hnb : Hid (ob.length = nb) := IB.out.len
    have hnl : Hid (LR.length = nl) := HL9.out.len
    have hnl80 : nl ≤ 80 := by
      have h1 : (learntF rs).length ≤ rs.length := by unfold learntF; rw [List.length_map]; exact List.length_filter_le _ _
      have h2 := hlv.out
      have h3 := hnl.out
      rw [hLR.out] at h1
      omega
    have hbl : Hid (nb = n + nl) := by
      have h1 := hnb.out
      rw [← hob.out, wantedF_len, List.length_append, hlen.out, hLR.out, hnl.out] at h1
      exact h1.symm
    have hR0 : Hid ([] ++ (pickF ob (LR.drop 0) (n + 0)).map sortF = R) := by have := hR.out; rw [hLR.out] at this; simpa [Hid] using this
    go_wp2_with fail
    go_loopw [12, 13] (fun s12 s13 wr => ∃ (k : Nat) (A9 : Option Addr) (n9 c9 : Nat) (nn : List (List Int)), k ≤ nl ∧ n9 ≤ k ∧ s12 = .slice A9 n9 c9 ∧ s13 = .int .i64 k ∧ Hid (OwnP 25 3 wr wa.heap.size wa.heap.size A9 n9 c9 nn) ∧ Hid (nn ++ (pickF ob (LR.drop k) (n + k)).map sortF = R) ∧ Hid (Below wa.heap.size wa wr)) (fun _ i _ => nl - (intOf i).toNat)
    case atStart => exact ⟨0, none, 0, 0, [], Nat.zero_le _, Nat.le_refl _, rfl, rfl, OwnP.nil _ _ _ _ _, hR0, Below.refl _ _⟩
    case round =>
      clear hR0 cK_c_0 cK_c_1 zK_c cK_f_0 cK_f_1 zK_f cK_h_0 cK_h_1 zK_h cK_x_0 cK_x_1 zK_x
      obtain ⟨k, A9, n9, c9, nn, hk, hn9, rfl, rfl, HO, hfl, hB⟩ := hrel
      have KCr := (K_c.out.keep hB.out).cell 1
      simp at KCr
      have zcr := (cell_lt KCr).1
      by_cases hkn : k < nl
      · have hkl : n + k < nb := by have := hbl.out; omega
        obtain ⟨b1, off1, q, hAe, hbb, hcell1, hqk⟩ := (IB.out.keep hB.out).round hkl
        obtain ⟨bL, A', n', c', xs, hLe, hgl, hgz, hcellL, _, hIx, _, hxk⟩ := (HL9.out.keep hB.out).round hkn
        have hst : Hid (nn ++ (if q = true then sortF xs :: (pickF ob (LR.drop (k + 1)) (n + (k + 1))).map sortF else (pickF ob (LR.drop (k + 1)) (n + (k + 1))).map sortF) = R) := by
          have := hfl.out
          rw [drop_cons_of hxk.out, pickF, List.getD_eq_getElem?_getD, hqk.out] at this
          rw [show n + (k + 1) = n + k + 1 by omega]
          cases q <;> simpa [Hid] using this
        have hxl : Hid (Lits vars xs) := HLL.out xs (List.mem_of_getElem? hxk.out)
        have z3 : (0 : Int) ≤ (k : Int) := by omega
        have z4 : (k : Int) < (nl : Int) := by omega
        have z5 : (0 : Int) ≤ (n : Int) + (k : Int) := by omega
        have z6 : (n : Int) + (k : Int) < (nb : Int) := by omega
        have hwr := hB.out.size
        have HIX := Lib.hid hIx
        cases hAe
        rw [Nat.zero_add] at hcell1
        have z7 := (cell_lt hcell1).1
        have z8 := (cell_lt hcellL).1
        subst hLe
        clear hfl hqk hxk hIx
        cases q
        · have hst2 : Hid (nn ++ (pickF ob (LR.drop (k + 1)) (n + (k + 1))).map sortF = R) := by simpa [Hid] using hst.out
          clear hst
          go_wp2_with fail
          go_roundw
          case rel => exact ⟨k + 1, A9, n9, c9, nn, by omega, by omega, rfl, by go_num, HO, hst2, hB⟩
          case measure => simp [intOf] <;> omega
        · have hst2 : Hid ((nn ++ [sortF xs]) ++ (pickF ob (LR.drop (k + 1)) (n + (k + 1))).map sortF = R) := by simpa [Hid] using hst.out
          have hXB : Hid (∀ x ∈ xs, -1000000 ≤ x ∧ x ≤ 1000000) := fun x hx => by have := hxl.out.1 x hx; omega
          have hn' : n' ≤ 1000000 := by have h1 := hxl.out.len_le v0; have h2 := HIX.out.len; omega
          clear hst
          go_wp2_with fail
          refine (sorted_ref _ _ _ xs _ HIX.out hXB.out hn').mono ?_
          rintro e w3 ⟨S3, ns3, cs3, rfl, hO3, hb3⟩
          have HI3 := Lib.hid (hO3.ints (fun q hq => by have := hXB.out q (sortF_mem.1 hq); unfold I64; omega))
          have HA3 : Hid (Away 3 w3 wa.heap.size S3 ns3) := Away.own (hO3.mono hwr)
          have HO3 := Lib.hid (HO.out.keep hb3)
          have HB3 := Lib.hid (below_next hB.out hb3)
          have hz3 := HB3.out.size
          obtain ⟨vs, hv1, hv2⟩ := HO3.out
          have HV1 := Lib.hid (hv1.keep (below_new w3 (.cells #[.slice S3 ns3 cs3] 25)))
          have HV2 := Lib.hid (hv2.keep (below_new w3 (.cells #[.slice S3 ns3 cs3] 25)))
          have HSS := Lib.hid (sl_one w3 25 (.slice S3 ns3 cs3) rfl)
          clear hv1 hv2 hO3 hb3
          go_wp2_with (first
            | (at_builtin
               refine wpList_append_sl _ rfl (.tmp 74) (.tmp 80) _ rfl wa.heap.size 25 i0 _ 24 Try.underlying22 hi0 hz0 hz1 hz2 rfl A9 n9 c9 _ rfl HV1.out (some ⟨w3.heap.size, 0, none⟩) 1 1 _ rfl HSS.out (by simp [Value.oneCell']) (by simp only [maxLen]; omega) (by omega) (by simp; omega) ?_
               intro L1 cL1 w6 hL1 hg1 hat1
               have HP6 := Lib.hid (OwnP.push HV1.out HV2.out (Nat.le_refl _) row_ne (HI3.out.keep (below_new _ _)) (HA3.out.keep (below_new _ _)) hL1 hg1)
               have HB6 := Lib.hid (below_grown (below_alloc HB3.out (.cells #[.slice S3 ns3 cs3] 25)) HV1.out (Nat.le_refl _) hg1)
               clear hL1 hg1 hat1))
          go_roundw
          case rel => exact ⟨k + 1, L1, n9 + 1, cL1, nn ++ [sortF xs], by omega, by omega, rfl, by go_num, HP6, hst2, HB6⟩
          case measure => simp [intOf] <;> omega
      · obtain rfl : k = nl := by omega
        obtain rfl : nn = R := by have := hfl.out; rw [List.drop_of_length_le (by rw [hnl.out]; omega), pickF] at this; simpa using this
        have kf := K_f.out.keep hB.out
        have kx := K_x.out.keep hB.out
        have f0 := kf.cell 0
        have f1 := kf.cell 1
        have x0 := kx.cell 0
        have x1 := kx.cell 1
        simp at f0 f1 x0 x1
        have zf := kf.lt
        have zx := kx.lt
        have ILr := Lib.hid (IL.out.keep hB.out)
        have hn92 : nl2 = n9 := by have h1 := ILr.out.len; have h2 := HO.out.len; omega
        have INr := Lib.hid HO.out.grid
        have BW := Lib.hid (below_next HB.out hB.out)
        subst hn92
        clear hfl kf kx
        go_wp2_with fail
        refine (sameSteps_eq _ _ _ _ _ nn _ ILr.out INr.out).mono ?_
        rintro e wz ⟨rfl, hbz⟩
        have BZ := Lib.hid (below_next BW.out hbz)
        clear hbz
        go_wp2_with fail
        go_ret
        exact ⟨rfl, BZ.out⟩
  · have d1 : (r1 != 0) = true := by simpa using hr1
    go_enter Try.func7, Try.ntmps7
    go_wp2_with fail
    refine (heavy_any _ _ _ _ _ hn63 _ hhv).mono ?_
    rintro e w1 ⟨rfl, hb1⟩
    obtain ⟨K_c0, B_w1, l_w1⟩ := blk1 hb1
    replace G := Lib.hid (G.out.keep B_w1)
    replace HV := Lib.hid (HV.out.keep B_w1)
    have HB := Lib.hid B_w1
    have K_c := Lib.hid K_c0
    clear hb1 B_w1 K_c0
    have cK_c_0 := K_c.out.cell 0
    have cK_c_1 := K_c.out.cell 1
    simp at cK_c_0 cK_c_1
    have zK_c := K_c.out.lt
    go_wp2_with fail
    refine (trimDo_wrong _ _ _ _ _ _ xss rs vars _ G.out hv HV.out r1 r2 hr hr1).mono ?_
    rintro e w2 ⟨rfl, hb2⟩
    have B_w2 := hb2
    replace G := Lib.hid (G.out.keep B_w2)
    replace HV := Lib.hid (HV.out.keep B_w2)
    replace K_c := Lib.hid (K_c.out.keep B_w2)
    replace HB := Lib.hid (below_next HB.out B_w2)
    clear hb2 B_w2
    clear cK_c_0 cK_c_1 zK_c
    have cK_c_0 := K_c.out.cell 0
    have cK_c_1 := K_c.out.cell 1
    simp at cK_c_0 cK_c_1
    have zK_c := K_c.out.lt
    go_wp2_with fail
    refine (against_any _).mono ?_
    rintro e w4 ⟨A5, n5, c5, rfl, hG5, hb4⟩
    obtain ⟨K_f0, B_w4, l_w4⟩ := blk1 hb4
    replace G := Lib.hid (G.out.keep B_w4)
    replace HV := Lib.hid (HV.out.keep B_w4)
    replace K_c := Lib.hid (K_c.out.keep B_w4)
    replace HB := Lib.hid (below_next HB.out B_w4)
    have K_f := Lib.hid K_f0
    clear hb4 B_w4 K_f0
    clear cK_c_0 cK_c_1 zK_c
    have cK_c_0 := K_c.out.cell 0
    have cK_c_1 := K_c.out.cell 1
    simp at cK_c_0 cK_c_1
    have zK_c := K_c.out.lt
    have cK_f_0 := K_f.out.cell 0
    have cK_f_1 := K_f.out.cell 1
    simp at cK_f_0 cK_f_1
    have zK_f := K_f.out.lt
    have GP := Lib.hid hG5
    clear hG5
    go_wp2_with fail
    refine (end_any _).mono ?_
    rintro e w5 ⟨A6, n6, c6, rfl, hS6, hb5⟩
    have B_w5 := hb5
    replace G := Lib.hid (G.out.keep B_w5)
    replace HV := Lib.hid (HV.out.keep B_w5)
    replace GP := Lib.hid (GP.out.keep B_w5)
    replace K_c := Lib.hid (K_c.out.keep B_w5)
    replace K_f := Lib.hid (K_f.out.keep B_w5)
    replace HB := Lib.hid (below_next HB.out B_w5)
    clear hb5 B_w5
    clear cK_c_0 cK_c_1 zK_c cK_f_0 cK_f_1 zK_f
    have cK_c_0 := K_c.out.cell 0
    have cK_c_1 := K_c.out.cell 1
    simp at cK_c_0 cK_c_1
    have zK_c := K_c.out.lt
    have cK_f_0 := K_f.out.cell 0
    have cK_f_1 := K_f.out.cell 1
    simp at cK_f_0 cK_f_1
    have zK_f := K_f.out.lt
    have SP := Lib.hid hS6
    clear hS6
    have hn5 : n5 = 3 := GP.out.len.symm
    subst hn5
    go_wp2_with fail
    refine (trimDo_own _ _ _ _ _ _ [[1, 2], [-1], [-2]] [(1, [])] 2 _ GP.out ⟨by omega, by omega⟩ SP.out agn_proof _ rfl [[]] agn_do).mono ?_
    rintro e w6 ⟨L6, nl6, cl6, rfl, hI6, hb6⟩
    have hl6 : nl6 = 1 := hI6.len.symm
    subst hl6
    clear hI6
    have B_w6 := hb6
    replace G := Lib.hid (G.out.keep B_w6)
    replace HV := Lib.hid (HV.out.keep B_w6)
    replace GP := Lib.hid (GP.out.keep B_w6)
    replace SP := Lib.hid (SP.out.keep B_w6)
    replace K_c := Lib.hid (K_c.out.keep B_w6)
    replace K_f := Lib.hid (K_f.out.keep B_w6)
    replace HB := Lib.hid (below_next HB.out B_w6)
    clear hb6 B_w6
    clear cK_c_0 cK_c_1 zK_c cK_f_0 cK_f_1 zK_f
    have cK_c_0 := K_c.out.cell 0
    have cK_c_1 := K_c.out.cell 1
    simp at cK_c_0 cK_c_1
    have zK_c := K_c.out.lt
    have cK_f_0 := K_f.out.cell 0
    have cK_f_1 := K_f.out.cell 1
    simp at cK_f_0 cK_f_1
    have zK_f := K_f.out.lt
    go_wp2_with fail
    refine (proofLaw_any _ _ _ _ _ _ xss rs vars _ (G.out.keep (below_new _ _)) hv (HV.out.keep (below_new _ _)) _ _ hr).mono ?_
    rintro e w8 ⟨rfl, hb8⟩
    obtain ⟨K_h0, B_w8, l_w8⟩ := blk1 hb8
    replace G := Lib.hid (G.out.keep B_w8)
    replace HV := Lib.hid (HV.out.keep B_w8)
    replace GP := Lib.hid (GP.out.keep B_w8)
    replace SP := Lib.hid (SP.out.keep B_w8)
    replace K_c := Lib.hid (K_c.out.keep B_w8)
    replace K_f := Lib.hid (K_f.out.keep B_w8)
    replace HB := Lib.hid (below_next HB.out B_w8)
    have K_h := Lib.hid K_h0
    clear hb8 B_w8 K_h0
    clear cK_c_0 cK_c_1 zK_c cK_f_0 cK_f_1 zK_f
    have cK_c_0 := K_c.out.cell 0
    have cK_c_1 := K_c.out.cell 1
    simp at cK_c_0 cK_c_1
    have zK_c := K_c.out.lt
    have cK_f_0 := K_f.out.cell 0
    have cK_f_1 := K_f.out.cell 1
    simp at cK_f_0 cK_f_1
    have zK_f := K_f.out.lt
    have cK_h_0 := K_h.out.cell 0
    have cK_h_1 := K_h.out.cell 1
    simp at cK_h_0 cK_h_1
    have zK_h := K_h.out.lt
    have e1 : (r1 == r1) = true := by simp
    have e2 : (r2 == r2) = true := by simp
    go_wp2_with fail
    go_ret
    exact ⟨rfl, below_next HB.out (below_new _ _)⟩
end Go.Proofs.Ytabjbpkojbdgaaa

/- The law TrimDoes holds: for every input it returns true, and each argument reads behind the call as it read before. -/
namespace Go.Proofs.Ytabjbpkojbdgaaa
open Go.ChangeShapes Go.WideShapes Go.ChangeAt Go.RowKit Go.Deep Go.Joins
set_option linter.unusedVariables false

theorem trimDoes_knob : ownKnob Try.prog.godebug = none := by kernel_rfl
theorem trimDoes_laidOut : laidOutB Try.prog = true := by kernel_rfl

set_option maxRecDepth 100000 in
theorem trimDoes_lifted (os : Os) (started : os.Started) (H : Type) (enc : TypeId × Value → H) :
    ReturnsInHanded {} Try.checked os 7 .any (Rows.trimDoesSpec.pre6 enc Try.prog Try.f7 Rows.trimDoesRow.domain false) (Rows.trimDoesSpec.post enc Try.prog Try.f7 false true false false) := by
  refine returnsInHanded_of_change (C := Try.checked) trimDoes_knob started (by kernel_rfl) Try.func7
    (ChangeSpec.witness6 (enc := enc) (C := Try.checked) false ⟨#[], #[.agg #[.int .i64 0, .slice none 0 0], .slice none 0 0], []⟩ 8 (by kernel_rfl) (by kernel_rfl) (by kernel_rfl) (by kernel_rfl)) ?_
  intro W base args ds gs before hval0 hW hcnd _
  have hval : ∀ (j : Nat) t v, Try.f7.params[j]? = some t → args[j]? = some v → Value.okWide Try.prog W .any base t v := hval0
  have hW' := hW
  obtain ⟨p, q, hA0, hV, rfl, hfz, hnd⟩ := hW
  have hA : DataW.TrodAll enc Try.prog W 0 (fun _ => true) true Try.f7.params.toList args.toList ds p := hA0
  rw [Try.params7] at hA hval
  obtain ⟨v0, vs0, d0, ds0, p0, q0, hargs, rfl, rfl, h0, r0⟩ := trodAll_cons hA
  obtain ⟨v1, vs1, d1, ds1, p1, q1, rfl, rfl, rfl, h1, r1⟩ := trodAll_cons r0
  obtain ⟨rfl, rfl, rfl⟩ := trodAll_nil r1
  obtain rfl : args = #[v0, v1] := by cases args; simp_all
  obtain ⟨rfl, rfl⟩ := trodVars_none hV
  have k0 := h0
  have lt0 : ∀ x ∈ p0, x.block < W.heap.size := by obtain ⟨m, hm⟩ := k0; exact DataW.trod_lt m _ _ _ hm
  obtain ⟨vars0, A0, n0, c0, x0, rfl, wv0, w0⟩ := rd_cnf Try.underlying24 (by kernel_rfl) (by kernel_rfl) rfl rfl Try.underlying3 Try.underlying22 Try.underlying25 Try.underlying3 (by kernel_rfl) (by kernel_rfl) (hval 0 24 v0 rfl rfl) h0
  have k1 := h1
  have lt1 : ∀ x ∈ p1, x.block < W.heap.size := by obtain ⟨m, hm⟩ := k1; exact DataW.trod_lt m _ _ _ hm
  obtain ⟨A1, n1, c1, rfl⟩ := okWide_slice Try.underlying57 (hval 1 57 v1 rfl rfl)
  obtain ⟨fuel1, hf1⟩ := h1
  obtain ⟨B1, m1, e1, x1, eq1, w1⟩ := rd_steps Try.underlying57 Try.underlying102 (by kernel_rfl) Try.underlying3 Try.underlying25 (by kernel_rfl) (by kernel_rfl) rfl rfl rfl rfl rfl rfl Try.underlying96 (by kernel_rfl) rfl rfl Try.underlying100 (by kernel_rfl) rfl rfl rfl rfl rfl rfl rfl rfl Try.underlying98 (by kernel_rfl) rfl rfl rfl rfl rfl rfl hf1
  cases eq1
  clear hA0 hval0
  refine (trimDoes_walk _ wv0 w0 w1).mono fun e W' ⟨he, bel⟩ => ?_
  subst he
  exact ⟨_, rfl, _, _, _, [], _, [], hW', trodAll_mk1 (shut_bool Try.underlying4 _), (trodAll_cons_mk (Below.trod trimDoes_laidOut (by kernel_rfl) (of_decide_eq_true (by kernel_rfl)) k0 bel lt0) (trodAll_cons_mk (Below.trod trimDoes_laidOut (by kernel_rfl) (of_decide_eq_true (by kernel_rfl)) k1 bel lt1) trodAll_mk0)), rfl, bel.frame _, fun h => by cases h⟩

/-- THE STATEMENT. -/
theorem trimDoes_holds : Rows.TrimDoesSaid :=
  OpenClaim.holds_of_wide 7 Try.f7 rfl rfl rfl rfl rfl rfl rfl ⟨rfl, rfl, rfl, rfl, rfl⟩ rfl rfl rfl rfl rfl (by kernel_rfl) Try.func7 (by kernel_rfl)
    (of_decide_eq_true (by kernel_rfl)) (by unfold Func.isWrapper; first | (rw [if_pos (by decide +kernel)]; kernel_rfl) | (rw [if_neg (by decide +kernel)]; exact ⟨rfl, rfl⟩))
    (fun os started H enc _ => trimDoes_lifted os started H enc)
end Go.Proofs.Ytabjbpkojbdgaaa
