/- FarAll: the texts PlanFar, LevelsP, FarP in one. -/
import Derived.Test.YtlfgcblijfflfaaPlanPlain
import Derived.Test.YtlfgcblijfflfaaActChk
import Derived.Test.YtlfgcblijfflfaaClone
import Derived.Test.YtlfgcblijfflfaaGrid
import Derived.Deep.OwnRows
/- Levels of facts, plainly: what no act's drop counts for; a bound below each plan's length. Of no program. -/
namespace Go.Proofs.Ytlfgcblijfflfaa
set_option linter.unusedSimpArgs false
set_option linter.unusedVariables false

def lvl (l : List Int) (f : Nat) : Int := l[f]?.getD (-1)
theorem lvl_set {l : List Int} {f : Nat} (hf : f < l.length) (x : Int) (i : Nat) : lvl (l.set f x) i = if i = f then x else lvl l i := by
  unfold lvl
  rw [List.getElem?_set]
  by_cases h : f = i
  · subst h; simp [hf]
  · have : ¬ i = f := fun e => h e.symm
    simp [h, this]
/-- How many facts have no level. -/
def noneN (l : List Int) : Nat := (l.filter (fun x => decide (x < 0))).length
theorem noneN_set : ∀ {l : List Int} {f : Nat} {x : Int}, f < l.length → l[f]?.getD 0 < 0 → 0 ≤ x → noneN (l.set f x) + 1 = noneN l
  | [], f, x, h, _, _ => by simp at h
  | a :: r, 0, x, h, h1, h2 => by
    have h1' : a < 0 := by simpa using h1
    have : ¬ x < 0 := by omega
    simp [noneN, h1', this]
  | a :: r, f + 1, x, h, h1, h2 => by
    have ih := noneN_set (l := r) (f := f) (x := x) (by simpa using h) (by simpa using h1) h2
    unfold noneN at ih ⊢
    rw [List.set_cons_succ, List.filter_cons, List.filter_cons]
    split
    · rw [List.length_cons, List.length_cons]; omega
    · exact ih
/-- All needed facts have levels from 0 to m. -/
def NeedB (l : List Int) (a : Ac) (m : Int) : Prop := ∀ f, a.need.testBit f = true → 0 ≤ lvl l f ∧ lvl l f ≤ m
def AddB (l : List Int) (a : Ac) (m : Int) : Prop := ∀ f, a.add.testBit f = true → 0 ≤ lvl l f ∧ lvl l f ≤ m
/-- In the n-th round: k acts are done, and of the next one the added facts below j. -/
structure LevR (al : List Ac) (f0 : Nat) (n : Int) (k j : Nat) (l : List Int) (ch : Bool) (N0 : Nat) : Prop where
  len : l.length = 4
  n1 : 1 ≤ n
  rng : ∀ f, f < 4 → -1 ≤ lvl l f ∧ lvl l f ≤ n
  st : ∀ f, f0.testBit f = true → lvl l f = 0
  cl : ∀ a ∈ al, ∀ m : Int, 0 ≤ m → m + 2 ≤ n → NeedB l a m → AddB l a (m + 1)
  new : ∀ i, i < k → i < al.length → NeedB l (acAt al i) (n - 1) → AddB l (acAt al i) n
  cur : ∀ f, f < j → (acAt al k).add.testBit f = true → 0 ≤ lvl l f ∧ lvl l f ≤ n
  off : ch = false → ∀ f, f < 4 → lvl l f ≤ n - 1
  cnt : noneN l ≤ N0
  on : ch = true → noneN l + 1 ≤ N0
section
variable {al : List Ac} {f0 : Nat} {n : Int} {k j : Nat} {l : List Int} {ch : Bool} {N0 : Nat}
/-- The next act is not applicable as yet. -/
theorem LevR.skip (h : LevR al f0 n k 0 l ch N0) (hk : ¬ NeedB l (acAt al k) (n - 1)) : LevR al f0 n (k + 1) 0 l ch N0 :=
  { h with
    new := fun i hi hil hn => by
      rcases Nat.lt_succ_iff_lt_or_eq.1 hi with hlt | rfl
      · exact h.new i hlt hil hn
      · exact absurd hn hk
    cur := fun f hf => by omega }
theorem LevR.next (h : LevR al f0 n k 4 l ch N0) (ha : ∀ a ∈ al, AcOk a) : LevR al f0 n (k + 1) 0 l ch N0 :=
  { h with
    new := fun i hi hil hn => by
      rcases Nat.lt_succ_iff_lt_or_eq.1 hi with hlt | rfl
      · exact h.new i hlt hil hn
      · exact fun f hf => h.cur f (bit_hi (acAt_ok ha hil).p hf) hf
    cur := fun f hf => by omega }
/-- A fact that is not added, or has a level. -/
theorem LevR.pass (h : LevR al f0 n k j l ch N0) (hj : j < 4) (hf : (acAt al k).add.testBit j = true → 0 ≤ lvl l j) : LevR al f0 n k (j + 1) l ch N0 :=
  { h with
    cur := fun f hfj hb => by
      rcases Nat.lt_succ_iff_lt_or_eq.1 hfj with hlt | rfl
      · exact h.cur f hlt hb
      · exact ⟨hf hb, (h.rng f hj).2⟩ }
theorem LevR.put (h : LevR al f0 n k j l ch N0) (ha : ∀ a ∈ al, AcOk a) (hj : j < 4) (hl : lvl l j < 0) : LevR al f0 n k (j + 1) (l.set j n) true N0 := by
  have hn := h.n1
  have hjl : j < l.length := by rw [h.len]; exact hj
  have hs : ∀ i, lvl (l.set j n) i = if i = j then n else lvl l i := fun i => lvl_set hjl n i
  have hneed : ∀ {a : Ac} {m : Int}, m < n → NeedB (l.set j n) a m → NeedB l a m := fun {a m} hm hb f hf => by
    have := hb f hf
    rw [hs] at this
    by_cases e : f = j
    · rw [if_pos e] at this; omega
    · rw [if_neg e] at this; exact this
  have hadd : ∀ {a : Ac} {m : Int}, AddB l a m → AddB (l.set j n) a m := fun {a m} hb f hf => by
    have := hb f hf
    rw [hs]
    by_cases e : f = j
    · subst e; omega
    · rw [if_neg e]; exact this
  have hc : noneN (l.set j n) + 1 = noneN l := noneN_set hjl (by
    unfold lvl at hl
    rw [List.getElem?_eq_getElem hjl] at hl ⊢
    exact hl) (by omega)
  have hcnt := h.cnt
  exact {
    len := by simpa using h.len
    n1 := hn
    rng := fun f hf => by
      rw [hs]
      split
      · omega
      · exact h.rng f hf
    st := fun f hf => by
      rw [hs]
      split
      · rename_i e
        subst e
        have := h.st f hf
        omega
      · exact h.st f hf
    cl := fun a ha m h0 hm hb => hadd (h.cl a ha m h0 hm (hneed (by omega) hb))
    new := fun i hi hil hb => hadd (h.new i hi hil (hneed (by omega) hb))
    cur := fun f hf hb => by
      rw [hs]
      split
      · omega
      · rename_i e
        exact h.cur f (by omega) hb
    off := fun e => by cases e
    cnt := by omega
    on := fun _ => by omega }
theorem LevR.put0 (h : LevR al f0 n k 0 l ch N0) (ha : ∀ a ∈ al, AcOk a) (hj : j < 4) (hl : lvl l j < 0) : LevR al f0 n k 0 (l.set j n) true N0 := by
  have hn := h.n1
  have hjl : j < l.length := by rw [h.len]; exact hj
  have hs : ∀ i, lvl (l.set j n) i = if i = j then n else lvl l i := fun i => lvl_set hjl n i
  have hneed : ∀ {a : Ac} {m : Int}, m < n → NeedB (l.set j n) a m → NeedB l a m := fun {a m} hm hb f hf => by
    have := hb f hf
    rw [hs] at this
    by_cases e : f = j
    · rw [if_pos e] at this; omega
    · rw [if_neg e] at this; exact this
  have hadd : ∀ {a : Ac} {m : Int}, AddB l a m → AddB (l.set j n) a m := fun {a m} hb f hf => by
    have := hb f hf
    rw [hs]
    by_cases e : f = j
    · subst e; omega
    · rw [if_neg e]; exact this
  have hc : noneN (l.set j n) + 1 = noneN l := noneN_set hjl (by
    unfold lvl at hl
    rw [List.getElem?_eq_getElem hjl] at hl ⊢
    exact hl) (by omega)
  have hcnt := h.cnt
  exact {
    len := by simpa using h.len
    n1 := hn
    rng := fun f hf => by
      rw [hs]
      split
      · omega
      · exact h.rng f hf
    st := fun f hf => by
      rw [hs]
      split
      · rename_i e
        subst e
        have := h.st f hf
        omega
      · exact h.st f hf
    cl := fun a ha m h0 hm hb => hadd (h.cl a ha m h0 hm (hneed (by omega) hb))
    new := fun i hi hil hb => hadd (h.new i hi hil (hneed (by omega) hb))
    cur := fun f hf => by omega
    off := fun e => by cases e
    cnt := by omega
    on := fun _ => by omega }
theorem LevR.next0 (h : LevR al f0 n k 0 l ch N0) (hA : AddB l (acAt al k) n) : LevR al f0 n (k + 1) 0 l ch N0 :=
  { h with
    new := fun i hi hil hn => by
      rcases Nat.lt_succ_iff_lt_or_eq.1 hi with hlt | rfl
      · exact h.new i hlt hil hn
      · exact hA
    cur := fun f hf => by omega }
theorem LevR.again (h : LevR al f0 n al.length 0 l ch N0) : LevR al f0 (n + 1) 0 0 l false (noneN l) where
  len := h.len
  n1 := by have := h.n1; omega
  rng f hf := by have := h.rng f hf; omega
  st := h.st
  cl a ha m h0 hm hb := by
    rcases Int.lt_or_eq_of_le hm with h1 | h1
    · exact h.cl a ha m h0 (by omega) hb
    · obtain ⟨i, hi, e⟩ := List.getElem_of_mem ha
      have ea : acAt al i = a := by unfold acAt; rw [List.getD_eq_getElem?_getD, List.getElem?_eq_getElem hi, e]; rfl
      have hm1 : m = n - 1 := by omega
      subst hm1
      have := h.new i hi hi (by rw [ea]; exact hb)
      rw [ea] at this
      exact fun f hf => by have := this f hf; omega
  new i hi := by omega
  cur f hf := by omega
  off _ f hf := by have := (h.rng f hf).2; omega
  cnt := Nat.le_refl _
  on e := by cases e
theorem LevR.start (al : List Ac) {f0 : Nat} {l : List Int} (hl : l.length = 4) (hr : ∀ f, f < 4 → -1 ≤ lvl l f ∧ lvl l f ≤ 0) (hs : ∀ f, f0.testBit f = true → lvl l f = 0) : LevR al f0 1 0 0 l false (noneN l) where
  len := hl
  n1 := by omega
  rng f hf := by have := hr f hf; omega
  st := hs
  cl a ha m h0 hm hb := by omega
  new i hi := by omega
  cur f hf := by omega
  off _ f hf := by have := hr f hf; omega
  cnt := Nat.le_refl _
  on e := by cases e
/-- What is so at the end. -/
structure LevE (al : List Ac) (f0 : Nat) (l : List Int) : Prop where
  len : l.length = 4
  st : ∀ f, f0.testBit f = true → lvl l f = 0
  cl : ∀ a ∈ al, ∀ m : Int, 0 ≤ m → NeedB l a m → AddB l a (m + 1)
theorem LevR.fin (h : LevR al f0 n al.length 0 l false N0) (ha : ∀ a ∈ al, AcOk a) : LevE al f0 l where
  len := h.len
  st := h.st
  cl a haa m hm hb := by
    have hn := h.n1
    by_cases h1 : m + 2 ≤ n
    · exact h.cl a haa m hm h1 hb
    · have hb' : NeedB l a (n - 1) := fun f hf => ⟨(hb f hf).1, h.off rfl f (bit_hi (ha a haa).n hf)⟩
      obtain ⟨i, hi, e⟩ := List.getElem_of_mem haa
      have ea : acAt al i = a := by unfold acAt; rw [List.getD_eq_getElem?_getD, List.getElem?_eq_getElem hi, e]; rfl
      have := h.new i hi hi (by rw [ea]; exact hb')
      rw [ea] at this
      exact fun f hf => by have := this f hf; omega
/-- What holds after so many acts has at most that level. -/
theorem LevE.bound (h : LevE al f0 l) (ha : ∀ a ∈ al, AcOk a) (hf0 : f0 < 16) : ∀ {t : Nat} {p : List Nat} {s : Nat}, p.length = t → walkF al p f0 = some s → ∀ f, s.testBit f = true → 0 ≤ lvl l f ∧ lvl l f ≤ t
  | 0, p, s, hp, hw, f, hf => by
    have : p = [] := List.eq_nil_of_length_eq_zero hp
    subst this
    cases hw
    have := h.st f hf
    omega
  | t + 1, p, s, hp, hw, f, hf => by
    have hne : p ≠ [] := fun e => by rw [e] at hp; simp at hp
    obtain ⟨q, a, rfl⟩ : ∃ q a, p = q ++ [a] := ⟨p.dropLast, p.getLast hne, (List.dropLast_concat_getLast hne).symm⟩
    have hlt := walk_lt ha hf0 hw
    rw [walkF_append] at hw
    cases e : walkF al q f0 with
    | none => rw [e] at hw; cases hw
    | some v =>
      rw [e] at hw
      have hql : q.length = t := by rw [List.length_append] at hp; simpa using hp
      have ih := LevE.bound h ha hf0 hql e
      have hv := walk_lt ha hf0 e
      have hw' : (if a < al.length then (appF (acAt al a) v).bind (walkF al []) else none) = some s := hw
      split at hw'
      · rename_i hal
        cases e2 : appF (acAt al a) v with
        | none => rw [e2] at hw'; cases hw'
        | some s' =>
          rw [e2] at hw'
          cases hw'
          have ho := acAt_ok ha hal
          obtain ⟨k1, k2, k3, k4⟩ := (app_some ho hv).1 e2
          have hf4 := bit_hi hlt hf
          have h5 := k4 f hf4
          rw [hf] at h5
          have hmem : acAt al a ∈ al := by unfold acAt; rw [List.getD_eq_getElem?_getD, List.getElem?_eq_getElem hal]; exact List.getElem_mem hal
          cases e3 : (acAt al a).add.testBit f with
          | true =>
            have := h.cl _ hmem (t : Int) (by omega) (fun f' hf' => ih f' (k1 f' hf')) f e3
            omega
          | false =>
            rw [e3] at h5
            have : v.testBit f = true := by
              cases e4 : v.testBit f with
              | true => rfl
              | false => rw [e4] at h5; simp at h5
            have := ih f this
            omega
      · cases hw'
end
end Go.Proofs.Ytlfgcblijfflfaa

/- Contract of easy.Levels. (Printed by wip/tools/levels.py.) -/
namespace Go.Proofs.Ytlfgcblijfflfaa
open Go.RowKit
set_option linter.unusedSimpArgs false
set_option linter.unusedVariables false

theorem lvl_get {l : List Int} {f : Nat} {x : Int} (h : l[f]? = some x) : lvl l f = x := by unfold lvl; rw [h]; rfl
theorem lev1_any (l : List Int) (n f : Nat) (bo b5 nb : Nat) (W : World) (hf : f < 4) (hl : l.length = 4) (h5 : W.cell? ⟨b5, 0, none⟩ = some (.slice (some ⟨bo, 0, none⟩) 4 4)) (hc : W.cell? ⟨bo, f, none⟩ = some (.int .i64 (lvl l f))) (hn : W.cell? ⟨nb, 0, none⟩ = some (.int .i64 (n : Int))) (r : Bool) (hr : (decide (lvl l f < 0) || decide ((n : Int) ≤ lvl l f)) = r) :
    Calls Try.prog 43 #[.int .i64 (f : Int), .pointer (some ⟨b5, 0, none⟩), .pointer (some ⟨nb, 0, none⟩)] W (RetQ (.bool r) W) := by
  have v0 : (0 : Int) ≤ (f : Int) := by omega
  have v1 : (f : Int) < 4 := by omega
  have vn : (f : Int).toNat = f := by omega
  have z1 := (cell_lt hc).1
  have z2 := (cell_lt h5).1
  have z3 := (cell_lt hn).1
  obtain ⟨x, hx⟩ : ∃ x, lvl l f = x := ⟨_, rfl⟩
  rw [hx] at hc hr
  clear hx
  by_cases h0 : x < 0
  · have d0 : decide (x < 0) = true := decide_eq_true h0
    rw [d0] at hr
    simp at hr
    subst hr
    go_enter Try.func43, Try.ntmps43
    go_wp2_with fail
    go_quiet (fail)
    go_wp2_with fail
    go_ret
    exact RetQ.of _ rfl
  · have d0 : decide (x < 0) = false := decide_eq_false h0
    rw [d0] at hr
    simp at hr
    by_cases h1 : (n : Int) ≤ x
    · have d1 : decide ((n : Int) ≤ x) = true := decide_eq_true h1
      rw [d1] at hr
      subst hr
      go_enter Try.func43, Try.ntmps43
      go_wp2_with fail
      go_quiet (fail)
      go_wp2_with fail
      go_ret
      exact RetQ.of _ rfl
    · have d1 : decide ((n : Int) ≤ x) = false := decide_eq_false h1
      rw [d1] at hr
      subst hr
      go_enter Try.func43, Try.ntmps43
      go_wp2_with fail
      go_quiet (fail)
      go_wp2_with fail
      go_ret
      exact RetQ.of _ rfl
theorem enters_lev1 : Enters Try.prog 43 := enters_of Try.func43 (by kernel_rfl) rfl
/-- The levels lie. -/
structure LvSt (w0 w : World) (q : Qv) (b5 bo : Nat) (l : List Int) : Prop where
  b : Below w0.heap.size w0 w
  k : Blk w w0.heap.size 25 #[.int .i64 4, .slice q.F q.nF q.cF, .slice q.G q.nG q.cG, .slice q.A q.n q.c]
  f : Blk w (w0.heap.size + 1) 28 #[.int .i64 0, .int .i64 0]
  o5 : Blk w b5 22 #[.slice (some ⟨bo, 0, none⟩) 4 4]
  o : Own 3 w (w0.heap.size + 2) (some ⟨bo, 0, none⟩) 4 4 (l.map (Value.int .i64))
  lo : w0.heap.size + 2 ≤ bo ∧ bo < b5
section
variable {w0 w w' : World} {q : Qv} {b5 bo : Nat} {l : List Int}
theorem LvSt.keep (h : LvSt w0 w q b5 bo l) (hb : Below w.heap.size w w') : LvSt w0 w' q b5 bo l := ⟨below_next h.b hb, h.k.keep hb, h.f.keep hb, h.o5.keep hb, h.o.keep hb, h.lo⟩
theorem LvSt.len (h : LvSt w0 w q b5 bo l) : l.length = 4 := by simpa using h.o.len
theorem LvSt.cell (h : LvSt w0 w q b5 bo l) {f : Nat} (hf : f < 4) : w.cell? ⟨bo, f, none⟩ = some (.int .i64 (lvl l f)) := by
  have h1 := World.ownsRow.cellAt h.o f (by omega)
  have hl := h.len
  rw [h1, List.getElem?_map, List.getElem?_eq_getElem (by omega)]
  unfold lvl
  rw [List.getElem?_eq_getElem (by omega)]
  rfl
theorem LvSt.frozen (h : LvSt w0 w q b5 bo l) (f : Nat) : w.frozen? ⟨bo, f, none⟩ = false := World.ownsRow.frozenAt h.o f
theorem LvSt.put (h : LvSt w0 w q b5 bo l) (f : Nat) (x : Int) : LvSt w0 (w.setCell ⟨bo, f, none⟩ (.int .i64 x)) q b5 bo (l.set f x) := by
  have h1 := h.lo
  refine ⟨h.b.setCell (p := ⟨bo, f, none⟩) (by show _ ≤ bo; omega) _, h.k.far (p := ⟨bo, f, none⟩) (by show _ ≠ bo; omega) _, h.f.far (p := ⟨bo, f, none⟩) (by show _ ≠ bo; omega) _, h.o5.far (p := ⟨bo, f, none⟩) (by show _ ≠ bo; omega) _, ?_, h.lo⟩
  rw [List.map_set]
  exact h.o.set_ f _
theorem LvSt.far (h : LvSt w0 w q b5 bo l) {p : Addr} (hp : b5 < p.block) (v : Value) : LvSt w0 (w.setCell p v) q b5 bo l := by
  have h1 := h.lo
  refine ⟨h.b.setCell (by omega) _, h.k.far (by omega) _, h.f.far (by omega) _, h.o5.far (by omega) _, h.o.kept (grown_setCell w p v) (.inr ?_), h.lo⟩
  simp [blockOf]
  omega
end
def RetLev (al : List Ac) (f0 : Nat) (w : World) (e : Ending) (w' : World) : Prop := ∃ bo l, e = .returned (.tuple #[.slice (some ⟨bo, 0, none⟩) 4 4, .agg #[.int .i64 0, .int .i64 0]]) ∧ Below w.heap.size w w' ∧ Ints w' (some ⟨bo, 0, none⟩) 4 4 l ∧ LevE al f0 l ∧ ∀ f, f < 4 → -1 ≤ lvl l f ∧ lvl l f ≤ 1000
theorem madeZ (w : World) (base : Nat) (hb : base ≤ w.heap.size) : Own 3 (w.alloc (.cells (madeCells #[.int .i64 0] 4) 3)) base (some ⟨w.heap.size, 0, none⟩) 4 4 ((List.replicate 4 (0 : Int)).map (Value.int .i64)) := by
  have hs := size_madeCells #[Value.int .i64 0] 4
  have hl : (madeCells #[Value.int .i64 0] 4).toList = (List.replicate 4 (0 : Int)).map (Value.int .i64) := by
    apply List.ext_getElem?
    intro i
    rw [Array.getElem?_toList]
    by_cases hi : i < 4
    · rw [List.getElem?_map, List.getElem?_replicate, if_pos hi]
      simp [madeCells, hi, Nat.mod_one]
    · rw [Array.getElem?_eq_none (by rw [hs]; omega), List.getElem?_eq_none (by simp; omega)]
  refine ⟨by simp, .inr ⟨w.heap.size, 4, madeCells #[.int .i64 0] 4, rfl, hb, heap_alloc_new w _, Nat.le_refl _, by simp [maxLen], by rw [hs, Nat.mul_one], ?_⟩⟩
  rw [hl, Nat.mul_one]
  exact List.take_of_length_le (by simp)
theorem ints_put2_ {w : World} {P : Option Addr} {np cp B : Nat} {xs : List Int} (h : Ints w P np cp xs) (hF : Blk w B 28 #[.int .i64 0, .int .i64 0]) : Ints ((w.setCell ⟨B, 0, none⟩ (.int .i64 0)).setCell ⟨B, 1, none⟩ (.int .i64 0)) P np cp xs := by
  rw [setCell_id hF (i := 0) (v := .int .i64 0) rfl, setCell_id hF (i := 1) (v := .int .i64 0) rfl]
  exact h
theorem alloc_set (w : World) (a b : Value) (t : TypeId) (n : Nat) (hn : w.heap.size = n) : (w.alloc (.cells #[a] t)).setCell ⟨n, 0, none⟩ b = w.alloc (.cells #[b] t) := by
  subst hn
  simp [go_sem]
theorem noneN_le (l : List Int) : noneN l ≤ l.length := List.length_filter_le _ _

set_option maxHeartbeats 8000000 in
set_option maxRecDepth 100000 in
theorem levels_any (q : Qv) (f0 g : Nat) (al : List Ac) (w : World) (h : QstR w q f0 g al) :
    Calls Try.prog 20 #[.agg #[.int .i64 4, .slice q.F q.nF q.cF, .slice q.G q.nG q.cG, .slice q.A q.n q.c]] w (RetLev al f0 w) := by
  have H := Lib.hid h
  have hn3 := h.n3
  have hf16 := h.f16
  have hnF : q.nF ≤ 4 := by rw [← h.iF.len]; exact someI_len f0 4
  have hal : Hid (al.length = q.n) := h.acts.1
  have HOKS : Hid (∀ a ∈ al, AcOk a) := h.ok
  obtain ⟨i0, hi0, hz0, hz1, hz2⟩ := info_parts int_info
  obtain ⟨w0, hw0⟩ : ∃ z : World, Hid (z = (w.alloc (.cells #[.int .i64 4, .slice q.F q.nF q.cF, .slice q.G q.nG q.cG, .slice q.A q.n q.c] 25)).alloc (.cells #[.int .i64 0, .int .i64 0] 28)) := ⟨_, rfl⟩
  have hb0 : Below w.heap.size w w0 := by rw [hw0.out]; exact below_alloc (below_new _ _) _
  have HK : Hid (Blk w0 w.heap.size 25 #[.int .i64 4, .slice q.F q.nF q.cF, .slice q.G q.nG q.cG, .slice q.A q.n q.c]) := by rw [Hid, hw0.out]; exact (Blk.new _ _ _).alloc _
  have HF : Hid (Blk w0 (w.heap.size + 1) 28 #[.int .i64 0, .int .i64 0]) := by rw [hw0.out]; have := Blk.new (w.alloc (.cells #[.int .i64 4, .slice q.F q.nF q.cF, .slice q.G q.nG q.cG, .slice q.A q.n q.c] 25)) 28 #[.int .i64 0, .int .i64 0]; simpa [Hid] using this
  have HB := Lib.hid hb0
  have HQ := Lib.hid (h.keep hb0)
  clear h hb0
  have hk_c0 := HK.out.cell 0
  have hk_c1 := HK.out.cell 1
  have hk_c2 := HK.out.cell 2
  have hk_c3 := HK.out.cell 3
  have hk_l := HK.out.lt
  simp at hk_c0 hk_c1 hk_c2 hk_c3
  go_enter Try.func20, Try.ntmps20
  go_wp2_with fail
  rw [← hw0.out]
  skip
  refine (chk_quest q f0 g al w0 HQ.out).mono ?_
  rintro e wq0 ⟨rfl, hbq⟩
  have HK_0 := Lib.hid (HK.out.keep hbq)
  have HF_0 := Lib.hid (HF.out.keep hbq)
  have HQ_0 := Lib.hid (HQ.out.keep hbq)
  have HB_0 := Lib.hid (below_next HB.out hbq)
  clear hbq HK HF HQ HB hk_c0 hk_c1 hk_c2 hk_c3 hk_l
  have hk_c0 := HK_0.out.cell 0
  have hk_c1 := HK_0.out.cell 1
  have hk_c2 := HK_0.out.cell 2
  have hk_c3 := HK_0.out.cell 3
  have hk_l := HK_0.out.lt
  simp at hk_c0 hk_c1 hk_c2 hk_c3
  have hmk : (Instr.makeSlice 22 (.int .i64 4) (.int .i64 4)).run Try.prog (wq0.alloc (.cells #[.int .i64 0, .int .i64 0] 28)) = .ok (.slice (some ⟨(wq0.alloc (.cells #[.int .i64 0, .int .i64 0] 28)).heap.size, 0, none⟩) 4 4) ((wq0.alloc (.cells #[.int .i64 0, .int .i64 0] 28)).alloc (.cells (madeCells #[.int .i64 0] 4) 3)) := run_make_row _ _ i0 (.int .i64 0) Try.underlying22 hi0 hz0 hz1 rfl .i64 .i64 4 (by rw [hz2]; omega) (by omega) _
  rw [show (wq0.alloc (.cells #[.int .i64 0, .int .i64 0] 28)).heap.size = wq0.heap.size + 1 by simp] at hmk
  obtain ⟨wc, hwc⟩ : ∃ z : World, Hid (z = ((wq0.alloc (.cells #[.int .i64 0, .int .i64 0] 28)).alloc (.cells (madeCells #[.int .i64 0] 4) 3)).alloc (.cells #[.slice (some ⟨wq0.heap.size + 1, 0, none⟩) 4 4] 22)) := ⟨_, rfl⟩
  have hst : LvSt w wc q (wq0.heap.size + 2) (wq0.heap.size + 1) (List.replicate 4 (0 : Int)) := by
    have h1 : Below wq0.heap.size wq0 (wq0.alloc (.cells #[.int .i64 0, .int .i64 0] 28)) := below_new _ _
    have h2 : Below (wq0.alloc (.cells #[.int .i64 0, .int .i64 0] 28)).heap.size (wq0.alloc (.cells #[.int .i64 0, .int .i64 0] 28)) ((wq0.alloc (.cells #[.int .i64 0, .int .i64 0] 28)).alloc (.cells (madeCells #[.int .i64 0] 4) 3)) := below_new _ _
    have h3 := below_new ((wq0.alloc (.cells #[.int .i64 0, .int .i64 0] 28)).alloc (.cells (madeCells #[.int .i64 0] 4) 3)) (.cells #[.slice (some ⟨wq0.heap.size + 1, 0, none⟩) 4 4] 22)
    have s1 := HF_0.out.lt
    have ho := madeZ (wq0.alloc (.cells #[.int .i64 0, .int .i64 0] 28)) (w.heap.size + 2) (by simp; omega)
    rw [show (wq0.alloc (.cells #[.int .i64 0, .int .i64 0] 28)).heap.size = wq0.heap.size + 1 by simp] at ho
    have h5 := Blk.new ((wq0.alloc (.cells #[.int .i64 0, .int .i64 0] 28)).alloc (.cells (madeCells #[.int .i64 0] 4) 3)) 22 #[.slice (some ⟨wq0.heap.size + 1, 0, none⟩) 4 4]
    rw [show ((wq0.alloc (.cells #[.int .i64 0, .int .i64 0] 28)).alloc (.cells (madeCells #[.int .i64 0] 4) 3)).heap.size = wq0.heap.size + 2 by simp] at h5
    rw [hwc.out]
    exact ⟨below_next (below_next (below_next HB_0.out h1) h2) h3, ((HK_0.out.keep h1).keep h2).keep h3, ((HF_0.out.keep h1).keep h2).keep h3, h5, ho.keep h3, by omega⟩
  have HST := Lib.hid hst
  clear hst
  go_wp2_with fail
  try rw [← hwc.out]
  obtain ⟨b5, hb5⟩ : ∃ z : Nat, wq0.heap.size + 2 = z := ⟨_, rfl⟩
  obtain ⟨bo, hbo⟩ : ∃ z : Nat, wq0.heap.size + 1 = z := ⟨_, rfl⟩
  rw [hb5, hbo] at HST
  try rw [hb5]
  try rw [hbo]
  clear hmk hwc hb5 hbo HK_0 HF_0 HB_0 HQ_0 hk_c0 hk_c1 hk_c2 hk_c3 hk_l
  have c5 := HST.out.o5.cell 0
  have l5 := HST.out.o5.lt
  simp at c5
  go_wp2_with fail
  go_loopw [6, 26] (fun s6 s26 wr => ∃ (i : Nat) (l : List Int), i ≤ 4 ∧ s26 = .int .i64 i ∧ Hid (LvSt w wr q b5 bo l) ∧ Hid (∀ f, f < 4 → (f < i → lvl l f = -1))) (fun _ s _ => 4 - (intOf s).toNat)
  case atStart => exact ⟨0, _, by omega, rfl, HST, fun f hf h0 => by omega⟩
  case round =>
    clear HST c5 l5
    obtain ⟨i, l, hi, rfl, HS, HV⟩ := hrel
    have c5 := HS.out.o5.cell 0
    have l5 := HS.out.o5.lt
    simp at c5
    by_cases hlt : i < 4
    · have hln := HS.out.len
      have HS2 := Lib.hid (HS.out.put i (-1))
      have fz := HS.out.frozen i
      have cc := HS.out.cell hlt
      have lo := (cell_lt cc).1
      have q0 : (0 : Int) ≤ (i : Int) := by omega
      have q1 : (i : Int) < 4 := by omega
      have HV2 : Hid (∀ f, f < 4 → (f < i + 1 → lvl (l.set i (-1)) f = -1)) := fun f hf hfi => by
        rw [lvl_set (by omega)]
        split
        · rfl
        · exact HV.out f hf (by omega)
      go_wp2_with fail
      obtain ⟨wn, hwn⟩ : ∃ z : World, z = wr.setCell ⟨bo, i, none⟩ (.int .i64 (-1)) := ⟨_, rfl⟩
      rw [← hwn] at HS2 ⊢
      clear hwn cc fz lo c5 l5
      go_wp2_with fail
      go_roundw
      case rel => exact ⟨i + 1, l.set i (-1), by omega, by go_num, HS2, HV2⟩
      case measure => simp [intOf] <;> omega
    · have q1 : ¬ (i : Int) < 4 := by omega
      obtain rfl : i = 4 := by omega
      have HR0 : Hid (∀ f, f < 4 → -1 ≤ lvl l f ∧ lvl l f ≤ 0) := fun f hf => by have := HV.out f hf hf; omega
      clear HV
      have k1 := HS.out.k.cell 1
      have k4 := HS.out.k.lt
      simp at k1
      obtain ⟨wo, hwo⟩ : ∃ z : World, z = wr := ⟨_, rfl⟩
      subst hwo
      go_wp2_with fail
      go_loopw [8, 36] (fun s8 s36 wr => ∃ (j : Nat) (l : List Int), j ≤ q.nF ∧ s36 = .int .i64 j ∧ Hid (LvSt w wr q b5 bo l) ∧ Hid (∀ f, f < 4 → -1 ≤ lvl l f ∧ lvl l f ≤ 0) ∧ Hid (∀ f : Nat, ((f : Nat) : Int) ∈ (someF f0).take j → lvl l f = 0)) (fun _ s _ => q.nF - (intOf s).toNat)
      case atStart => exact ⟨0, l, Nat.zero_le _, rfl, HS, HR0, by simp [Hid]⟩
      case round =>
        clear HS HR0 k1 k4 c5 l5
        obtain ⟨j, l, hj, rfl, HS, HR, HM⟩ := hrel
        by_cases hlt2 : j < q.nF
        · have hx := H.out.iF.keep HS.out.b
          obtain ⟨b, off, y, hLe, hbb, hcell, y1, y2, hy⟩ := hx.round hlt2
          have hyb := some_bd hy.out
          obtain ⟨f, rfl⟩ : ∃ f : Nat, y = (f : Int) := ⟨y.toNat, by omega⟩
          have hf4 : f < 4 := by omega
          have HS2 := Lib.hid (HS.out.put f 0)
          have fz := HS.out.frozen f
          have cc := HS.out.cell hf4
          have lo := (cell_lt cc).1
          have hln := HS.out.len
          have q0 : (0 : Int) ≤ (j : Int) := by omega
          have q1 : (j : Int) < (q.nF : Int) := by omega
          have q2 : (0 : Int) ≤ (f : Int) := by omega
          have q3 : (f : Int) < 4 := by omega
          have HR2 : Hid (∀ i, i < 4 → -1 ≤ lvl (l.set f 0) i ∧ lvl (l.set f 0) i ≤ 0) := fun i hi => by
            rw [lvl_set (by omega)]
            split
            · omega
            · exact HR.out i hi
          have HM2 : Hid (∀ i : Nat, ((i : Nat) : Int) ∈ (someF f0).take (j + 1) → lvl (l.set f 0) i = 0) := fun i hi => by
            rw [lvl_set (by omega)]
            split
            · rfl
            · rw [take_snoc_of hy.out] at hi
              rcases List.mem_append.1 hi with hi | hi
              · exact HM.out i hi
              · have := List.mem_singleton.1 hi
                omega
          have c5 := HS.out.o5.cell 0
          have l5 := HS.out.o5.lt
          simp at c5
          rw [hLe]
          clear hx hy hln
          go_wp2_with fail
          obtain ⟨wn, hwn⟩ : ∃ z : World, z = wr.setCell ⟨bo, f, none⟩ (.int .i64 0) := ⟨_, rfl⟩
          rw [← hwn] at HS2 ⊢
          clear hwn cc fz lo c5 l5 hcell
          go_wp2_with fail
          go_roundw
          case rel => exact ⟨j + 1, l.set f 0, by omega, by go_num, HS2, HR2, HM2⟩
          case measure => simp [intOf] <;> omega
        · have q1 : ¬ (j : Int) < (q.nF : Int) := by omega
          obtain rfl : j = q.nF := by omega
          have hlv := LevR.start al HS.out.len HR.out (fun f hf => HM.out f (by rw [← H.out.iF.len, List.take_length]; exact mem_someI.2 ⟨f, bit_hi hf16 hf, hf, rfl⟩))
          have HLV := Lib.hid hlv
          have hnn : noneN l ≤ 4 := by have := noneN_le l; rw [HS.out.len] at this; exact this
          clear HR HM hlv
          obtain ⟨wo, hwo⟩ : ∃ z : World, z = wr := ⟨_, rfl⟩
          subst hwo
          obtain ⟨wn, hwn⟩ : ∃ z : World, z = wo.alloc (.cells #[.int .i64 1] 3) := ⟨_, rfl⟩
          have hbn : Below wo.heap.size wo wn := by rw [hwn]; exact below_new _ _
          have HN : Hid (Blk wn wo.heap.size 3 #[.int .i64 ((1 : Nat) : Int)]) := by rw [hwn]; exact Blk.new _ _ _
          have HS2 := Lib.hid (HS.out.keep hbn)
          have hlt5 := HS.out.o5.lt
          go_wp2_with fail
          rw [← hwn]
          clear hwn hbn
          obtain ⟨nb, hnb⟩ : ∃ z : Nat, wo.heap.size = z := ⟨_, rfl⟩
          rw [hnb] at HN hlt5 ⊢
          clear hnb HS
          go_loopg [9, 10] 9 (fun f s9 s10 wr => ∃ (nb n : Nat) (l : List Int) (ch : Bool), s9 = .pointer (some ⟨nb, 0, none⟩) ∧ s10 = .bool ch ∧ b5 < nb ∧ 1 ≤ n ∧ n ≤ 6 ∧ Hid (LvSt w wr q b5 bo l) ∧ Hid (Blk wr nb 3 #[.int .i64 (n : Int)]) ∧ Hid (ch = true → LevR al f0 (n : Int) 0 0 l false (noneN l) ∧ n + noneN l ≤ 5) ∧ Hid (ch = false → LevE al f0 l ∧ ∀ z, z < 4 → -1 ≤ lvl l z ∧ lvl l z ≤ 1000) ∧ Hid (2 * noneN l + ch.toNat ≤ f))
          case atStart => exact ⟨nb, 1, l, true, rfl, rfl, hlt5, by omega, by omega, HS2, HN, fun _ => ⟨HLV.out, by omega⟩, (fun h9 => by cases h9), by show _ ≤ _; simp; omega⟩
          case round =>
            clear HS2 HN HLV hlt5 hnn
            obtain ⟨nb, n, l, ch, rfl, rfl, hnb5, hn1, hn6, HS, HN, HCT, HCF, HGK⟩ := hrel
            cases ch
            · obtain ⟨hle, hlb⟩ := HCF.out rfl
              have HLE := Lib.hid hle
              have HLB := Lib.hid hlb
              have c5 := HS.out.o5.cell 0
              have l5 := HS.out.o5.lt
              simp at c5
              have e0 := HS.out.f.cell 0
              have e1 := HS.out.f.cell 1
              have g0 := HS.out.f.frozen 0
              have g1 := HS.out.f.frozen 1
              simp at e0 e1
              have le := HS.out.f.lt
              have hIN := HS.out.o.ints (xs := l) (fun z hz => by obtain ⟨i, hi, e9⟩ := List.getElem_of_mem hz; have h9 := hlb i (by rw [← HS.out.len]; exact hi); rw [lvl_get (List.getElem?_eq_getElem hi), e9] at h9; unfold I64; omega)
              have hII := ints_put2_ hIN HS.out.f
              have HII := Lib.hid hII
              clear hle hlb hIN hII
              go_wp2_with fail
              exact bodyPost_ret (v := .tuple #[.slice (some ⟨bo, 0, none⟩) 4 4, .agg #[.int .i64 0, .int .i64 0]]) (by simp [results, Try.results20, go_sem, e0, e1, le]) rfl ⟨bo, l, rfl, below_put2 HS.out.b (g := w.heap.size + 1) (Nat.le_succ _) _ _, HII.out, HLE.out, HLB.out⟩
            · obtain ⟨hlv, hn5⟩ := HCT.out rfl
              have HLV := Lib.hid hlv
              obtain ⟨N0, hN0⟩ : ∃ N0, Hid (noneN l = N0) := ⟨_, rfl⟩
              have HG2 : Hid (2 * N0 + 1 ≤ gk) := by have := HGK.out; rw [hN0.out] at this; exact this
              have HN5 : Hid (n + N0 ≤ 5) := by rw [← hN0.out]; exact hn5
              have hn5' : n ≤ 5 := by omega
              rw [hN0.out] at HLV
              have k3 := HS.out.k.cell 3
              have k4 := HS.out.k.lt
              simp at k3
              clear HCT HCF HGK hlv hn5 hN0
              obtain ⟨wo, hwo⟩ : ∃ z : World, z = wr := ⟨_, rfl⟩
              subst hwo
              go_wp2_with fail
              go_loopw [10, 50] (fun s10 s50 wr => ∃ (k : Nat) (l : List Int) (ch : Bool), k ≤ q.n ∧ s10 = .bool ch ∧ s50 = .int .i64 k ∧ Hid (LvSt w wr q b5 bo l) ∧ Hid (Blk wr nb 3 #[.int .i64 (n : Int)]) ∧ Hid (LevR al f0 (n : Int) k 0 l ch N0)) (fun _ s _ => q.n - (intOf s).toNat)
              case atStart => exact ⟨0, l, false, Nat.zero_le _, rfl, rfl, HS, HN, HLV⟩
              case round =>
                clear HS HN HLV k3 k4
                obtain ⟨k, l, ch, hk, rfl, rfl, HS, HN, HLV⟩ := hrel
                by_cases hlt4 : k < q.n
                · have hkal : k < al.length := by rw [hal.out]; exact hlt4
                  have hka : al[k]? = some (acAt al k) := by unfold acAt; rw [List.getD_eq_getElem?_getD, List.getElem?_eq_getElem hkal]; rfl
                  obtain ⟨a, ha⟩ : ∃ a, acAt al k = a := ⟨_, rfl⟩
                  rw [ha] at hka
                  obtain ⟨b2, v, hAe, hat0⟩ := H.out.acts.2 k a hka
                  have HOK := Lib.hid (H.out.ok a (List.mem_of_getElem? hka))
                  have HATW := Lib.hid hat0
                  have hv34 : v.n3 ≤ 4 := by rw [← hat0.i2.len]; exact someI_len a.add 4
                  have HAA := Lib.hid ha
                  have hat := hat0.keep HS.out.b
                  have c0 := hat.k0
                  have c1 := hat.k1
                  have c2 := hat.k2
                  have c3 := hat.k3
                  have c4 := (cell_lt c0).1
                  have q0 : (0 : Int) ≤ (k : Int) := by omega
                  have q1 : (k : Int) < (q.n : Int) := by omega
                  have QE := Lib.hid hAe
                  rw [hAe]
                  clear hat hat0 ha hka hAe
                  go_wp2_with fail
                  obtain ⟨w7, hw7⟩ : ∃ z : World, z = wr.alloc (.cells #[.slice v.A1 v.n1 v.c1, .slice v.A2 v.n2 v.c2, .slice v.A3 v.n3 v.c3, .slice v.A4 v.n4 v.c4] 58) := ⟨_, rfl⟩
                  have hb7 : Below wr.heap.size wr w7 := by rw [hw7]; exact below_new _ _
                  have KA : Hid (Blk w7 wr.heap.size 58 #[.slice v.A1 v.n1 v.c1, .slice v.A2 v.n2 v.c2, .slice v.A3 v.n3 v.c3, .slice v.A4 v.n4 v.c4]) := by rw [hw7]; exact Blk.new _ _ _
                  rw [← hw7]
                  obtain ⟨bA, hbA⟩ : ∃ z : Nat, wr.heap.size = z := ⟨_, rfl⟩
                  have hbAn : nb < bA := by rw [← hbA]; exact HN.out.lt
                  rw [hbA] at KA ⊢
                  clear hbA
                  have HS7 := Lib.hid (HS.out.keep hb7)
                  have HN7 := Lib.hid (HN.out.keep hb7)
                  clear hw7 hb7 HS HN c0 c1 c2 c3 c4
                  obtain ⟨r, hr⟩ : ∃ r, Hid ((someF a.need).any (fun z => decide (lvl l z.toNat < 0) || decide ((n : Int) ≤ lvl l z.toNat)) = r) := ⟨_, rfl⟩
                  have HPR : Hid (Pred 43 #[.pointer (some ⟨b5, 0, none⟩), .pointer (some ⟨nb, 0, none⟩)] (someF a.need) (fun z => decide (lvl l z.toNat < 0) || decide ((n : Int) ≤ lvl l z.toNat)) w7) := by
                    intro W x hW hx
                    obtain ⟨f, hf4, _, rfl⟩ := mem_someI.1 hx
                    have hs9 := HS7.out.keep hW
                    have h5 : W.cell? ⟨b5, 0, none⟩ = some (.slice (some ⟨bo, 0, none⟩) 4 4) := hs9.o5.cell 0
                    have hn : W.cell? ⟨nb, 0, none⟩ = some (.int .i64 (n : Int)) := (HN7.out.keep hW).cell 0
                    exact (lev1_any l n f bo b5 nb W hf4 hs9.len h5 (hs9.cell hf4) hn _ (by simp)).mono fun _ _ hh => hh.v
                  have hI0 := Lib.hid (HATW.out.i0.keep HS7.out.b)
                  have ka0 := KA.out.cell 0
                  have kal := KA.out.lt
                  simp at ka0
                  go_wp2_with fail
                  refine (containsFunc_ints _ _ _ _ _ hI0.out _ _ enters_lev1 _ HPR.out r hr).mono ?_
                  rintro e w8 ⟨rfl, hb8⟩
                  have HS8 := Lib.hid (HS7.out.keep hb8)
                  have HN8 := Lib.hid (HN7.out.keep hb8)
                  have KA8 := Lib.hid (KA.out.keep hb8)
                  clear hb8 HS7 HN7 KA hI0 HPR ka0 kal
                  have ka2 := KA8.out.cell 2
                  have ka4 := KA8.out.lt
                  simp at ka2
                  rcases Bool.eq_false_or_eq_true r with hr0 | hr0
                  · have HLV2 : Hid (LevR al f0 (n : Int) (k + 1) 0 l ch N0) := HLV.out.skip (by
                      have h9 := hr.out
                      rw [hr0, List.any_eq_true] at h9
                      obtain ⟨z, hz, h10⟩ := h9
                      obtain ⟨f, hf4, hbit, rfl⟩ := mem_someI.1 hz
                      intro hnd
                      rw [HAA.out] at hnd
                      have h11 := hnd f hbit
                      simp at h10
                      omega)
                    subst hr0
                    clear hr
                    go_wp2_with fail
                    go_roundw
                    case rel => exact ⟨k + 1, l, ch, by omega, rfl, by go_num, HS8, HN8, HLV2⟩
                    case measure => simp [intOf] <;> omega
                  · have HND : Hid (NeedB l a ((n : Int) - 1)) := fun f hbit => by
                      have h9 := hr.out
                      rw [hr0, List.any_eq_false] at h9
                      have h10 := h9 (f : Int) (mem_someI.2 ⟨f, bit_hi HOK.out.n hbit, hbit, rfl⟩)
                      simp at h10
                      omega
                    subst hr0
                    clear hr
                    obtain ⟨wo, hwo⟩ : ∃ z : World, z = w8 := ⟨_, rfl⟩
                    subst hwo
                    go_wp2_with fail
                    go_loopw [10, 61] (fun s10 s61 wr => ∃ (j : Nat) (l : List Int) (ch : Bool), j ≤ v.n3 ∧ s10 = .bool ch ∧ s61 = .int .i64 j ∧ Hid (LvSt w wr q b5 bo l) ∧ Hid (Blk wr nb 3 #[.int .i64 (n : Int)]) ∧ Hid (LevR al f0 (n : Int) k 0 l ch N0) ∧ Hid (NeedB l a ((n : Int) - 1)) ∧ Hid (∀ f : Nat, ((f : Nat) : Int) ∈ (someF a.add).take j → 0 ≤ lvl l f ∧ lvl l f ≤ (n : Int))) (fun _ s _ => v.n3 - (intOf s).toNat)
                    case atStart => exact ⟨0, l, ch, Nat.zero_le _, rfl, rfl, HS8, HN8, HLV, HND, by simp [Hid]⟩
                    case round =>
                      clear HS8 HN8 HLV HND KA8 ka2 ka4
                      obtain ⟨j, l, ch, hj, rfl, rfl, HS, HN, HLV, HND, HAD⟩ := hrel
                      by_cases hlt5 : j < v.n3
                      · have hx := HATW.out.i2.keep HS.out.b
                        obtain ⟨b, off, y, hLe, hbb, hcell, y1, y2, hy⟩ := hx.round hlt5
                        have hyb := some_bd hy.out
                        obtain ⟨f, rfl⟩ : ∃ f : Nat, y = (f : Int) := ⟨y.toNat, by omega⟩
                        have hf4 : f < 4 := by omega
                        have fz := HS.out.frozen f
                        have cc := HS.out.cell hf4
                        have lo := (cell_lt cc).1
                        have c5 := HS.out.o5.cell 0
                        have l5 := HS.out.o5.lt
                        simp at c5
                        have cn := HN.out.cell 0
                        have ln := HN.out.lt
                        simp at cn
                        have q0 : (0 : Int) ≤ (j : Int) := by omega
                        have q1 : (j : Int) < (v.n3 : Int) := by omega
                        have q2 : (0 : Int) ≤ (f : Int) := by omega
                        have q3 : (f : Int) < 4 := by omega
                        have HY := Lib.hid hy.out
                        obtain ⟨x, hx0⟩ : ∃ x, Hid (lvl l f = x) := ⟨_, rfl⟩
                        rw [hx0.out] at cc
                        rw [hLe]
                        clear hx hy
                        by_cases hneg : x < 0
                        · have hneg2 : lvl l f < 0 := by rw [hx0.out]; exact hneg
                          have HS2 := Lib.hid (HS.out.put f (n : Int))
                          have HLV2 := Lib.hid (HLV.out.put0 HOKS.out hf4 hneg2)
                          have hlf := HS.out.len
                          have HND2 : Hid (NeedB (l.set f (n : Int)) a ((n : Int) - 1)) := fun i hi => by
                            have h9 := HND.out i hi
                            rw [lvl_set (by omega)]
                            split
                            · rename_i e9; subst e9; omega
                            · exact h9
                          have HAD2 : Hid (∀ i : Nat, ((i : Nat) : Int) ∈ (someF a.add).take (j + 1) → 0 ≤ lvl (l.set f (n : Int)) i ∧ lvl (l.set f (n : Int)) i ≤ (n : Int)) := fun i hi => by
                            rw [lvl_set (by omega)]
                            split
                            · omega
                            · rw [take_snoc_of HY.out] at hi
                              rcases List.mem_append.1 hi with hi | hi
                              · exact HAD.out i hi
                              · have := List.mem_singleton.1 hi
                                omega
                          have HN2 := Lib.hid (HN.out.far (p := ⟨bo, f, none⟩) (by have := HS.out.lo; show _ ≠ bo; omega) (.int .i64 (n : Int)))
                          clear hneg2 hlf
                          go_wp2_with fail
                          obtain ⟨wn, hwn⟩ : ∃ z : World, z = wr.setCell ⟨bo, f, none⟩ (.int .i64 (n : Int)) := ⟨_, rfl⟩
                          rw [← hwn] at HS2 HN2 ⊢
                          clear hwn cc fz lo c5 l5 cn ln hcell hbb
                          go_wp2_with fail
                          go_roundw
                          case rel => exact ⟨j + 1, l.set f (n : Int), true, by omega, rfl, by go_num, HS2, HN2, HLV2, HND2, HAD2⟩
                          case measure => simp [intOf] <;> omega
                        · have HAD2 : Hid (∀ i : Nat, ((i : Nat) : Int) ∈ (someF a.add).take (j + 1) → 0 ≤ lvl l i ∧ lvl l i ≤ (n : Int)) := fun i hi => by
                            rw [take_snoc_of HY.out] at hi
                            rcases List.mem_append.1 hi with hi | hi
                            · exact HAD.out i hi
                            · have h9 := List.mem_singleton.1 hi
                              obtain rfl : i = f := by omega
                              have h10 := HLV.out.rng i hf4
                              rw [hx0.out] at h10 ⊢
                              omega
                          go_wp2_with fail
                          go_roundw
                          case rel => exact ⟨j + 1, l, ch, by omega, rfl, by go_num, HS, HN, HLV, HND, HAD2⟩
                          case measure => simp [intOf] <;> omega
                      · have q1 : ¬ (j : Int) < (v.n3 : Int) := by omega
                        obtain rfl : j = v.n3 := by omega
                        have HLV2 : Hid (LevR al f0 (n : Int) (k + 1) 0 l ch N0) := HLV.out.next0 (fun f hbit => by
                          rw [HAA.out] at hbit
                          exact HAD.out f (by rw [← HATW.out.i2.len, List.take_length]; exact mem_someI.2 ⟨f, bit_hi HOK.out.p hbit, hbit, rfl⟩))
                        go_wp2_with fail
                        go_roundw
                        case rel => exact ⟨k + 1, l, ch, by omega, rfl, by go_num, HS, HN, HLV2⟩
                        case measure => simp [intOf] <;> omega
                · have q1 : ¬ (k : Int) < (q.n : Int) := by omega
                  obtain rfl : k = al.length := by rw [hal.out]; omega
                  have hcnt := HLV.out.cnt
                  obtain ⟨wn, hwn⟩ : ∃ z : World, z = wr.alloc (.cells #[.int .i64 (n : Int)] 3) := ⟨_, rfl⟩
                  have hbn : Below wr.heap.size wr wn := by rw [hwn]; exact below_new _ _
                  have HNn : Hid (Blk wn wr.heap.size 3 #[.int .i64 (n : Int)]) := by rw [hwn]; exact Blk.new _ _ _
                  have HSn := Lib.hid (HS.out.keep hbn)
                  have hlt9 := HS.out.o5.lt
                  have cn := HN.out.cell 0
                  have ln := HN.out.lt
                  simp at cn
                  obtain ⟨nc, hnc⟩ : ∃ z : Nat, Hid (wr.heap.size = z) := ⟨_, rfl⟩
                  have hnc5 : b5 < nc := by rw [← hnc.out]; exact hlt9
                  rw [hnc.out] at HNn
                  have HSz := Lib.hid (HSn.out.far (p := ⟨nc, 0, none⟩) hnc5 (.int .i64 ((n : Int) + 1)))
                  have HNz : Hid (Blk (wn.setCell ⟨nc, 0, none⟩ (.int .i64 ((n : Int) + 1))) nc 3 #[.int .i64 ((n + 1 : Nat) : Int)]) := by have := HNn.out.set_ 0 (.int .i64 ((n : Int) + 1)); simpa [Hid] using this
                  go_wp2_with fail
                  rw [hnc.out]
                  obtain ⟨wy, hwy⟩ : ∃ z : World, z = wn.setCell ⟨nc, 0, none⟩ (.int .i64 ((n : Int) + 1)) := ⟨_, rfl⟩
                  have hfold : wr.alloc (.cells #[.int .i64 ((n : Int) + 1)] 3) = wy := by rw [hwy, hwn]; exact (alloc_set wr _ _ _ nc hnc.out).symm
                  rw [hfold]
                  rw [← hwy] at HSz HNz
                  clear hfold hwy hwn hbn HSn HNn hlt9 cn ln HS HN hnc
                  cases ch
                  · have HLE := Lib.hid (HLV.out.fin HOKS.out)
                    have HLB : Hid (∀ z, z < 4 → -1 ≤ lvl l z ∧ lvl l z ≤ 1000) := fun z hz => by have := HLV.out.rng z hz; omega
                    go_roundg (2 * N0)
                    case measure => have := HG2.out; omega
                    case rel => exact ⟨nc, n + 1, l, false, rfl, rfl, hnc5, by omega, by omega, HSz, HNz, (fun h9 => by cases h9), fun _ => ⟨HLE.out, HLB.out⟩, by show _ ≤ _; simp; omega⟩
                  · have hon := HLV.out.on rfl
                    have HLV2 := Lib.hid HLV.out.again
                    have h5' := HN5.out
                    go_roundg (2 * N0)
                    case measure => have := HG2.out; omega
                    case rel => exact ⟨nc, n + 1, l, true, rfl, rfl, hnc5, by omega, by omega, HSz, HNz, fun _ => ⟨by have h9 := HLV2.out; rw [Int.natCast_add]; exact h9, by omega⟩, (fun h9 => by cases h9), by show _ ≤ _; simp; omega⟩
end Go.Proofs.Ytlfgcblijfflfaa

/- Contract of easy.Far. (Printed by wip/tools/far.py.) -/
namespace Go.Proofs.Ytlfgcblijfflfaa
open Go.RowKit
set_option linter.unusedSimpArgs false
set_option linter.unusedVariables false

def RetFar (al : List Ac) (f0 g : Nat) (w : World) (e : Ending) (w' : World) : Prop := ∃ (o : Int) (b : Bool) (l : List Int), e = .returned (.tuple #[.int .i64 o, .bool b, .agg #[.int .i64 0, .int .i64 0]]) ∧ Below w.heap.size w w' ∧ LevE al f0 l ∧
  (b = true → ∀ m : Int, 0 ≤ m → (∀ f, g.testBit f = true → lvl l f ≤ m) → o ≤ m) ∧ (b = false → ∃ f, g.testBit f = true ∧ lvl l f < 0)

set_option maxHeartbeats 4000000 in
set_option maxRecDepth 100000 in
theorem far_any (q : Qv) (f0 g : Nat) (al : List Ac) (w : World) (h : QstR w q f0 g al) :
    Calls Try.prog 6 #[.agg #[.int .i64 4, .slice q.F q.nF q.cF, .slice q.G q.nG q.cG, .slice q.A q.n q.c]] w (RetFar al f0 g w) := by
  have H := Lib.hid h
  have hg16 := h.g16
  have hnG : q.nG ≤ 4 := by rw [← h.iG.len]; exact someI_len g 4
  obtain ⟨w0, hw0⟩ : ∃ z : World, Hid (z = (w.alloc (.cells #[.int .i64 4, .slice q.F q.nF q.cF, .slice q.G q.nG q.cG, .slice q.A q.n q.c] 25)).alloc (.cells #[.int .i64 0, .int .i64 0] 28)) := ⟨_, rfl⟩
  have hb0 : Below w.heap.size w w0 := by rw [hw0.out]; exact below_alloc (below_new _ _) _
  have HK : Hid (Blk w0 w.heap.size 25 #[.int .i64 4, .slice q.F q.nF q.cF, .slice q.G q.nG q.cG, .slice q.A q.n q.c]) := by rw [Hid, hw0.out]; exact (Blk.new _ _ _).alloc _
  have HF : Hid (Blk w0 (w.heap.size + 1) 28 #[.int .i64 0, .int .i64 0]) := by rw [hw0.out]; have := Blk.new (w.alloc (.cells #[.int .i64 4, .slice q.F q.nF q.cF, .slice q.G q.nG q.cG, .slice q.A q.n q.c] 25)) 28 #[.int .i64 0, .int .i64 0]; simpa [Hid] using this
  have HB := Lib.hid hb0
  have HQ := Lib.hid (h.keep hb0)
  clear h hb0
  have hk_c0 := HK.out.cell 0
  have hk_c1 := HK.out.cell 1
  have hk_c2 := HK.out.cell 2
  have hk_c3 := HK.out.cell 3
  have hk_l := HK.out.lt
  simp at hk_c0 hk_c1 hk_c2 hk_c3
  go_enter Try.func6, Try.ntmps6
  go_wp2_with fail
  rw [← hw0.out]
  refine (levels_any q f0 g al w0 HQ.out).mono ?_
  rintro e w1 ⟨bo, l, rfl, hb1, hI1, hLE, hLB⟩
  have HLE := Lib.hid hLE
  have HLB := Lib.hid hLB
  have HI_a : Hid (Ints w1 (some ⟨bo, 0, none⟩) 4 4 l) := hI1
  clear hLE hLB hI1
  have HK_0 := Lib.hid (HK.out.keep hb1)
  have HF_0 := Lib.hid (HF.out.keep hb1)
  have HB_0 := Lib.hid (below_next HB.out hb1)
  clear hb1 HK HF HB hk_c0 hk_c1 hk_c2 hk_c3 hk_l
  have HI_0 := HI_a
  clear HI_a HQ
  have hk_c0 := HK_0.out.cell 0
  have hk_c1 := HK_0.out.cell 1
  have hk_c2 := HK_0.out.cell 2
  have hk_c3 := HK_0.out.cell 3
  have hk_l := HK_0.out.lt
  simp at hk_c0 hk_c1 hk_c2 hk_c3
  go_wp2_with fail
  obtain ⟨wq1, hwwq1⟩ : ∃ z : World, z = w1.alloc (.cells #[.int .i64 0, .int .i64 0] 28) := ⟨_, rfl⟩
  have hbq : Below w1.heap.size w1 wq1 := by rw [hwwq1]; exact below_new _ _
  have HK_1 := Lib.hid (HK_0.out.keep hbq)
  have HF_1 := Lib.hid (HF_0.out.keep hbq)
  have HI_1 := Lib.hid (HI_0.out.keep hbq)
  have HB_1 := Lib.hid (below_next HB_0.out hbq)
  clear hbq HK_0 HF_0 HI_0 HB_0 hk_c0 hk_c1 hk_c2 hk_c3 hk_l
  rw [← hwwq1]
  clear hwwq1
  go_loopw [7, 22] (fun s7 s22 wr => ∃ (i : Nat) (o : Int), i ≤ q.nG ∧ s7 = .int .i64 o ∧ s22 = .int .i64 i ∧ 0 ≤ o ∧ o ≤ 1000 ∧ Hid (Below w.heap.size w wr) ∧ Hid (Blk wr (w.heap.size + 1) 28 #[.int .i64 0, .int .i64 0]) ∧ Hid (Ints wr (some ⟨bo, 0, none⟩) 4 4 l) ∧ Hid (∀ m : Int, 0 ≤ m → (∀ f : Nat, ((f : Nat) : Int) ∈ (someF g).take i → lvl l f ≤ m) → o ≤ m)) (fun _ s _ => q.nG - (intOf s).toNat)
  case atStart => exact ⟨0, 0, Nat.zero_le _, rfl, rfl, by omega, by omega, HB_1, HF_1, HI_1, fun m hm _ => hm⟩
  case round =>
    clear HK_1 HF_1 HI_1 HB_1 
    obtain ⟨i, o, hi, rfl, rfl, ho0, ho1, HB, HF, HI, HM⟩ := hrel
    by_cases hlt : i < q.nG
    · have hx := H.out.iG.keep HB.out
      obtain ⟨b, off, y, hLe, hbb, hcell, y1, y2, hy⟩ := hx.round hlt
      have hyb := some_bd hy.out
      obtain ⟨f, rfl⟩ : ∃ f : Nat, y = (f : Int) := ⟨y.toNat, by omega⟩
      have hf4 : f < 4 := by omega
      obtain ⟨b2, off2, x, hLe2, hbb2, hcell2, x1, x2, hxk⟩ := HI.out.round hf4
      cases hLe2
      have hxl := lvl_get hxk.out
      have hxb := HLB.out f hf4
      rw [hxl] at hxb
      have HXL := Lib.hid hxl
      have HY := Lib.hid hy.out
      have q0 : (0 : Int) ≤ (i : Int) := by omega
      have q1 : (i : Int) < (q.nG : Int) := by omega
      have q2 : (0 : Int) ≤ (f : Int) := by omega
      have q3 : (f : Int) < 4 := by omega
      rw [Nat.zero_add] at hcell2
      rw [hLe]
      clear hx hy hxk hxl
      by_cases hneg : x < 0
      · have e0 := HF.out.cell 0
        have e1 := HF.out.cell 1
        have g0 := HF.out.frozen 0
        have g1 := HF.out.frozen 1
        simp at e0 e1
        have le := HF.out.lt
        have HBIT : Hid (g.testBit f = true) := by
          obtain ⟨k, _, h9, e9⟩ := mem_someI.1 (List.mem_of_getElem? HY.out)
          obtain rfl : f = k := by omega
          exact h9
        go_wp2_with fail
        exact bodyPost_ret (v := .tuple #[.int .i64 0, .bool false, .agg #[.int .i64 0, .int .i64 0]]) (by simp [results, Try.results6, go_sem, e0, e1, le]) rfl ⟨0, false, l, rfl, below_put2 HB.out (g := w.heap.size + 1) (Nat.le_succ _) _ _, HLE.out, (fun h9 => by cases h9), fun _ => ⟨f, HBIT.out, by rw [HXL.out]; exact hneg⟩⟩
      · have HM2 : ∀ r : Int, (r = o ∨ r = x) → Hid (∀ m : Int, 0 ≤ m → (∀ f : Nat, ((f : Nat) : Int) ∈ (someF g).take (i + 1) → lvl l f ≤ m) → r ≤ m) := fun r hr m hm hall => by
          rw [take_snoc_of HY.out] at hall
          rcases hr with rfl | rfl
          · exact HM.out m hm (fun f' hf' => hall f' (List.mem_append_left _ hf'))
          · rw [← HXL.out]; exact hall f (List.mem_append_right _ (List.mem_singleton.2 rfl))
        by_cases hmx : o < x
        · have d1 : decide (o < x) = true := decide_eq_true hmx
          have hmm : max o x = x := by omega
          go_wp2_with fail
          go_roundw
          case rel => exact ⟨i + 1, x, by omega, by first | rfl | rw [hmm], by go_num, by omega, by omega, HB, HF, HI, HM2 x (.inr rfl)⟩
          case measure => simp [intOf] <;> omega
        · have d1 : decide (o < x) = false := decide_eq_false hmx
          have hmm : max o x = o := by omega
          go_wp2_with fail
          go_roundw
          case rel => exact ⟨i + 1, o, by omega, by first | rfl | rw [hmm], by go_num, by omega, by omega, HB, HF, HI, HM2 o (.inl rfl)⟩
          case measure => simp [intOf] <;> omega
    · have q1 : ¬ (i : Int) < (q.nG : Int) := by omega
      obtain rfl : i = q.nG := by omega
      have HFIN : Hid (∀ m : Int, 0 ≤ m → (∀ f, g.testBit f = true → lvl l f ≤ m) → o ≤ m) := fun m hm hall => HM.out m hm (fun f hf => by
        obtain ⟨k, _, h9, e9⟩ := mem_someI.1 (List.mem_of_mem_take hf)
        obtain rfl : f = k := by omega
        exact hall f h9)
      have e0 := HF.out.cell 0
      have e1 := HF.out.cell 1
      have g0 := HF.out.frozen 0
      have g1 := HF.out.frozen 1
      simp at e0 e1
      have le := HF.out.lt
      go_wp2_with fail
      exact bodyPost_ret (v := .tuple #[.int .i64 o, .bool true, .agg #[.int .i64 0, .int .i64 0]]) (by simp [results, Try.results6, go_sem, e0, e1, le]) rfl ⟨o, true, l, rfl, below_put2 HB.out (g := w.heap.size + 1) (Nat.le_succ _) _ _, HLE.out, fun _ => HFIN.out, fun h9 => by cases h9⟩
end Go.Proofs.Ytlfgcblijfflfaa
