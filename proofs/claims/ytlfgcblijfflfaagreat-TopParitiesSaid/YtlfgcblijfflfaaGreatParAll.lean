/- ParAll: the texts ParPlain, Prs, ParSum, ParSort, ParChk, ParSolve, ParCls, ParCnf, ParLaw in one. -/
import Derived.Test.YtlfgcblijfflfaaGreatSortPlain
import Derived.Test.YtlfgcblijfflfaaGreatBitW
import Derived.Test.YtlfgcblijfflfaaGreatProg
import Derived.Test.YtlfgcblijfflfaaGreatOwn
import Derived.Test.YtlfgcblijfflfaaGreatPool
import Derived.Test.YtlfgcblijfflfaaGreatShelf2
import Derived.Test.YtlfgcblijfflfaaGreatRowSort
import Derived.Test.YtlfgcblijfflfaaGreatBoxes
import Derived.Test.YtlfgcblijfflfaaGreatSlices
import Derived.Test.YtlfgcblijfflfaaGreatShelf5
import Derived.Test.YtlfgcblijfflfaaGreatOrder
import Derived.Shelf.SlSortCmp.WholeK
import Derived.BigQuiet
import Derived.Test.YtlfgcblijfflfaaGreatNormal
import Derived.Test.YtlfgcblijfflfaaGreatTopA
import Derived.Test.YtlfgcblijfflfaaGreatClone
import Derived.Test.YtlfgcblijfflfaaGreatCdclAll
import Derived.Test.YtlfgcblijfflfaaGreatTail
import Derived.Test.YtlfgcblijfflfaaGreatClipR
import Derived.Test.YtlfgcblijfflfaaGreatNorm
/- Parities: their clauses, and what Gauss's way tells of them. Of no program. -/
namespace Go.Proofs.YtlfgcblijfflfaaGreat
set_option linter.unusedSimpArgs false
set_option linter.unusedVariables false

/-- A parity. -/
structure Pr where
  of : List Int
  odd : Bool
def litV (a : List Bool) (v : Int) : Bool := a[v.natAbs - 1]?.getD false
def xorL : List Bool → Bool
  | [] => false
  | b :: t => b != xorL t
def xorA (a : List Bool) (l : List Int) : Bool := xorL (l.map (litV a))
def parB (a : List Bool) (p : Pr) : Bool := xorA a p.of == p.odd
/-- Is it broken? -/
def brk (a : List Bool) (p : Pr) : Bool := xorA a p.of != p.odd
theorem parB_iff {a : List Bool} {p : Pr} : parB a p = true ↔ brk a p = false := by
  unfold parB brk
  cases xorA a p.of <;> cases p.odd <;> simp
theorem xorL_append : ∀ l m : List Bool, xorL (l ++ m) = (xorL l != xorL m)
  | [], m => by simp [xorL]
  | b :: t, m => by
    rw [List.cons_append, xorL, xorL, xorL_append t m]
    cases b <;> cases xorL t <;> cases xorL m <;> rfl
theorem xorL_perm {l m : List Bool} (h : l.Perm m) : xorL l = xorL m := by
  induction h with
  | nil => rfl
  | cons x _ ih => rw [xorL, xorL, ih]
  | swap x y l => simp only [xorL]; cases x <;> cases y <;> cases xorL l <;> rfl
  | trans _ _ h1 h2 => rw [h1, h2]
theorem xorA_perm {a : List Bool} {l m : List Int} (h : l.Perm m) : xorA a l = xorA a m := xorL_perm (h.map _)
theorem xorA_append (a : List Bool) (l m : List Int) : xorA a (l ++ m) = (xorA a l != xorA a m) := by unfold xorA; rw [List.map_append, xorL_append]
theorem xorA_cons (a : List Bool) (x : Int) (l : List Int) : xorA a (x :: l) = (litV a x != xorA a l) := rfl
theorem xorA_split (a : List Bool) (q : Int → Bool) : ∀ l : List Int, xorA a l = (xorA a (l.filter q) != xorA a (l.filter fun x => !q x))
  | [] => rfl
  | x :: t => by
    rw [List.filter_cons, List.filter_cons, xorA_cons, xorA_split a q t]
    cases hq : q x
    · simp only [Bool.not_false, if_true, Bool.false_eq_true, if_false, xorA_cons]
      cases litV a x <;> cases xorA a (t.filter q) <;> cases xorA a (t.filter fun x => !q x) <;> rfl
    · simp only [Bool.not_true, if_true, Bool.false_eq_true, if_false, xorA_cons]
      cases litV a x <;> cases xorA a (t.filter q) <;> cases xorA a (t.filter fun x => !q x) <;> rfl

/-- Rising numbers. -/
def Asc (l : List Int) : Prop := l.Pairwise (· < ·)
theorem asc_nodup {l : List Int} (h : Asc l) : l.Nodup := List.Pairwise.imp (fun h e => by omega) h
theorem asc_ext : ∀ {l m : List Int}, Asc l → Asc m → (∀ x, x ∈ l ↔ x ∈ m) → l = m
  | [], [], _, _, _ => rfl
  | [], b :: m, _, _, h => by have := (h b).2 (by simp); simp at this
  | a :: l, [], _, _, h => by have := (h a).1 (by simp); simp at this
  | a :: l, b :: m, h1, h2, h => by
    have p1 := List.pairwise_cons.1 h1
    have p2 := List.pairwise_cons.1 h2
    have hab : a = b := by
      rcases List.mem_cons.1 ((h a).1 (by simp)) with e | e
      · exact e
      · rcases List.mem_cons.1 ((h b).2 (by simp)) with e' | e'
        · exact e'.symm
        · have := p1.1 b e'; have := p2.1 a e; omega
    subst hab
    congr 1
    refine asc_ext p1.2 p2.2 fun x => ?_
    have hx := h x
    constructor
    · intro hl
      rcases List.mem_cons.1 (hx.1 (by simp [hl])) with e | e
      · subst e; have := p1.1 x hl; omega
      · exact e
    · intro hm
      rcases List.mem_cons.1 (hx.2 (by simp [hm])) with e | e
      · subst e; have := p2.1 x hm; omega
      · exact e
def sortI (l : List Int) : List Int := l.mergeSort fun x y => decide (x ≤ y)
theorem sortI_perm (l : List Int) : (sortI l).Perm l := List.mergeSort_perm l _
theorem sortI_le (l : List Int) : (sortI l).Pairwise (· ≤ ·) := by
  have := List.pairwise_mergeSort (le := fun x y : Int => decide (x ≤ y)) (fun a b c h1 h2 => by simp at *; omega) (fun a b => by simp; omega) l
  exact this.imp (fun h => by simpa using h)
theorem sortI_asc {l : List Int} (h : l.Nodup) : Asc (sortI l) := by
  have h1 := sortI_le l
  have h2 : (sortI l).Nodup := (sortI_perm l).nodup_iff.2 h
  exact (h1.and h2).imp (fun ⟨h1, h2⟩ => by omega)
theorem sortI_mem {l : List Int} {x : Int} : x ∈ sortI l ↔ x ∈ l := (sortI_perm l).mem_iff

/-- The parts of a sum ahead of their sorting. -/
def symF (p r : List Int) : List Int := p.filter (fun v => !hasB r v) ++ r.filter (fun v => !hasB p v)
def sumF (p r : Pr) : Pr := ⟨sortI (symF p.of r.of), p.odd != r.odd⟩
theorem symF_mem {p r : List Int} {v : Int} : v ∈ symF p r ↔ (v ∈ p ∧ v ∉ r) ∨ (v ∈ r ∧ v ∉ p) := by
  unfold symF
  rw [List.mem_append, List.mem_filter, List.mem_filter]
  have h1 : ∀ l : List Int, (!hasB l v) = true ↔ v ∉ l := fun l => by
    rw [← hasB_iff]; cases hasB l v <;> simp
  rw [h1, h1]
theorem symF_nodup {p r : List Int} (hp : p.Nodup) (hr : r.Nodup) : (symF p r).Nodup := by
  unfold symF
  rw [List.nodup_append]
  refine ⟨hp.filter _, hr.filter _, fun a ha b hb e => ?_⟩
  subst e
  rw [List.mem_filter] at ha hb
  have h1 : hasB p a = true := hasB_iff.2 ha.1
  rw [h1] at hb
  exact absurd hb.2 (by simp)
theorem sumF_mem {p r : Pr} {v : Int} : v ∈ (sumF p r).of ↔ (v ∈ p.of ∧ v ∉ r.of) ∨ (v ∈ r.of ∧ v ∉ p.of) := by
  rw [← symF_mem]; exact sortI_mem
theorem sumF_asc {p r : Pr} (hp : Asc p.of) (hr : Asc r.of) : Asc (sumF p r).of := sortI_asc (symF_nodup (asc_nodup hp) (asc_nodup hr))
theorem both_perm {p r : List Int} (hp : Asc p) (hr : Asc r) : p.filter (fun v => hasB r v) = r.filter (fun v => hasB p v) := by
  refine asc_ext (List.Pairwise.filter _ hp) (List.Pairwise.filter _ hr) fun x => ?_
  rw [List.mem_filter, List.mem_filter, hasB_iff, hasB_iff]
  exact And.comm
theorem brk_sum {a : List Bool} {p r : Pr} (hp : Asc p.of) (hr : Asc r.of) : brk a (sumF p r) = (brk a p != brk a r) := by
  unfold brk
  have h1 : xorA a (sumF p r).of = (xorA a (p.of.filter fun v => !hasB r.of v) != xorA a (r.of.filter fun v => !hasB p.of v)) := by
    show xorA a (sortI _) = _
    rw [xorA_perm (sortI_perm _), symF, xorA_append]
  rw [h1, xorA_split a (fun v => hasB r.of v) p.of, xorA_split a (fun v => hasB p.of v) r.of, both_perm hp hr]
  show (_ != (p.odd != r.odd)) = _
  cases xorA a (p.of.filter fun v => !hasB r.of v) <;> cases xorA a (r.of.filter fun v => !hasB p.of v) <;> cases xorA a (r.of.filter fun v => hasB p.of v) <;> cases p.odd <;> cases r.odd <;> rfl

def pivot (r : Pr) : Int := r.of.headD 0
/-- A parity of variables 1 .. n. -/
def Fine (n : Nat) (p : Pr) : Prop := Asc p.of ∧ ∀ v ∈ p.of, 1 ≤ v ∧ v ≤ n
theorem Fine.sum {n : Nat} {p r : Pr} (hp : Fine n p) (hr : Fine n r) : Fine n (sumF p r) := by
  refine ⟨sumF_asc hp.1 hr.1, fun v hv => ?_⟩
  rcases sumF_mem.1 hv with h | h
  · exact hp.2 v h.1
  · exact hr.2 v h.1
theorem pivot_mem {r : Pr} (h : r.of ≠ []) : pivot r ∈ r.of := by
  unfold pivot
  cases hr : r.of with
  | nil => exact absurd hr h
  | cons a t => simp
theorem pivot_le {r : Pr} (h : Asc r.of) {v : Int} (hv : v ∈ r.of) : pivot r ≤ v := by
  unfold pivot
  cases hr : r.of with
  | nil => rw [hr] at hv; cases hv
  | cons a t =>
    rw [hr] at hv h
    rcases List.mem_cons.1 hv with e | e
    · simp [e]
    · have := (List.pairwise_cons.1 h).1 v e
      simp; omega
theorem pivot_least {r : Pr} (h : Asc r.of) {m : Int} (hm : m ∈ r.of) (hl : ∀ v ∈ r.of, m ≤ v) : pivot r = m := by
  have h1 := pivot_le h hm
  have h2 := hl _ (pivot_mem (fun e => by rw [e] at hm; cases hm))
  omega

def redF (rows : List Pr) (p : Pr) : Pr := rows.foldl (fun p r => if hasB p.of (pivot r) then sumF p r else p) p
def putF (p r : Pr) : Pr := if hasB r.of (pivot p) then sumF r p else r
/-- Gauss's way; none: they cannot hold together. -/
def solveF : List Pr → List Pr → Option (List Pr)
  | [], rows => some rows
  | p :: t, rows =>
    if (redF rows p).of = [] then (if (redF rows p).odd then none else solveF t rows)
    else solveF t (rows.map (putF (redF rows p)) ++ [redF rows p])
def assignF (n : Nat) (rows : List Pr) : List Bool := rows.foldl (fun a r => a.set ((pivot r).toNat - 1) r.odd) (List.replicate n false)

/-- Rows reduced. -/
structure Ech (n : Nat) (rows : List Pr) : Prop where
  fine : ∀ r ∈ rows, Fine n r ∧ r.of ≠ []
  apart : rows.Pairwise (fun r s => pivot r ∉ s.of ∧ pivot s ∉ r.of)
theorem Ech.nil (n : Nat) : Ech n [] := ⟨by simp, List.Pairwise.nil⟩
theorem Ech.tail {n : Nat} {r : Pr} {rows : List Pr} (h : Ech n (r :: rows)) : Ech n rows := ⟨fun s hs => h.fine s (List.mem_cons_of_mem _ hs), (List.pairwise_cons.1 h.apart).2⟩
theorem Ech.perm {n : Nat} {rows rows' : List Pr} (h : Ech n rows) (hp : rows.Perm rows') : Ech n rows' :=
  ⟨fun r hr => h.fine r (hp.mem_iff.2 hr), hp.pairwise h.apart (fun h => ⟨h.2, h.1⟩)⟩

theorem redF_spec {n : Nat} : ∀ (rows : List Pr) (p : Pr) (pre : List Int), Ech n rows → Fine n p → (∀ x ∈ pre, x ∉ p.of ∧ ∀ r ∈ rows, x ∉ r.of) →
    Fine n (redF rows p) ∧ (∀ x ∈ pre, x ∉ (redF rows p).of) ∧ (∀ r ∈ rows, pivot r ∉ (redF rows p).of) ∧ ∀ a, (∀ r ∈ rows, brk a r = false) → brk a (redF rows p) = brk a p
  | [], p, pre, _, hf, hx => ⟨hf, fun x h => (hx x h).1, by simp, fun _ _ => rfl⟩
  | r :: t, p, pre, he, hf, hx => by
    have hr := he.fine r (by simp)
    have hap := List.pairwise_cons.1 he.apart
    obtain ⟨p', hp'⟩ : ∃ q, (if hasB p.of (pivot r) then sumF p r else p) = q := ⟨_, rfl⟩
    have hf' : Fine n p' := by
      rw [← hp']
      split
      · exact hf.sum hr.1
      · exact hf
    have hno : ∀ x, x ∉ p.of → x ∉ r.of → x ∉ p'.of := fun x h1 h2 => by
      rw [← hp']
      split
      · rw [sumF_mem]; rintro (h | h)
        · exact h1 h.1
        · exact h2 h.1
      · exact h1
    have hpv : pivot r ∉ p'.of := by
      rw [← hp']
      split
      · rename_i h
        rw [hasB_iff] at h
        rw [sumF_mem]; rintro (h' | h')
        · exact h'.2 (pivot_mem hr.2)
        · exact h'.2 h
      · rename_i h
        rw [hasB_iff] at h
        exact h
    have ih := redF_spec t p' (pivot r :: pre) he.tail hf' (fun x hxm => by
      rcases List.mem_cons.1 hxm with e | e
      · subst e
        exact ⟨hpv, fun s hs => (hap.1 s hs).1⟩
      · exact ⟨hno x (hx x e).1 ((hx x e).2 r (by simp)), fun s hs => (hx x e).2 s (List.mem_cons_of_mem _ hs)⟩)
    have e : redF (r :: t) p = redF t p' := by unfold redF; rw [List.foldl_cons, hp']
    rw [e]
    refine ⟨ih.1, fun x hxm => ih.2.1 x (List.mem_cons_of_mem _ hxm), fun s hs => ?_, fun a ha => ?_⟩
    · rcases List.mem_cons.1 hs with e | e
      · subst e; exact ih.2.1 _ (by simp)
      · exact ih.2.2.1 s e
    · rw [ih.2.2.2 a (fun s hs => ha s (List.mem_cons_of_mem _ hs)), ← hp']
      split
      · rw [brk_sum hf.1 hr.1.1, ha r (by simp)]; cases brk a p <;> rfl
      · rfl

theorem putF_spec {n : Nat} {p r : Pr} (hp : Fine n p) (hr : Fine n r) (hrn : r.of ≠ []) (hpn : p.of ≠ []) (hpr : pivot r ∉ p.of) :
    Fine n (putF p r) ∧ pivot (putF p r) = pivot r ∧ pivot r ∈ (putF p r).of ∧ pivot p ∉ (putF p r).of ∧ (∀ v, v ∉ r.of → v ∉ p.of → v ∉ (putF p r).of) ∧ ∀ a, brk a p = false → brk a (putF p r) = brk a r := by
  unfold putF
  split
  · rename_i h
    rw [hasB_iff] at h
    have hs := hr.sum hp
    have hm : pivot r ∈ (sumF r p).of := sumF_mem.2 (.inl ⟨pivot_mem hrn, hpr⟩)
    refine ⟨hs, pivot_least hs.1 hm (fun v hv => ?_), hm, ?_, fun v h1 h2 => ?_, fun a ha => ?_⟩
    · rcases sumF_mem.1 hv with h' | h'
      · exact pivot_le hr.1 h'.1
      · have h1 := pivot_le hp.1 h'.1
        have h2 := pivot_le hr.1 h
        omega
    · rw [sumF_mem]; rintro (h' | h')
      · exact h'.2 (pivot_mem hpn)
      · exact h'.2 h
    · rw [sumF_mem]; rintro (h' | h')
      · exact h1 h'.1
      · exact h2 h'.1
    · rw [brk_sum hr.1 hp.1, ha]; cases brk a r <;> rfl
  · rename_i h
    rw [hasB_iff] at h
    exact ⟨hr, rfl, pivot_mem hrn, h, fun v h1 _ => h1, fun a _ => rfl⟩

theorem Ech.put {n : Nat} {rows : List Pr} {p : Pr} (he : Ech n rows) (hp : Fine n p) (hpn : p.of ≠ []) (hno : ∀ r ∈ rows, pivot r ∉ p.of) : Ech n (rows.map (putF p) ++ [p]) := by
  have hs : ∀ r ∈ rows, _ := fun r hr => putF_spec hp (he.fine r hr).1 (he.fine r hr).2 hpn (hno r hr)
  refine ⟨fun s h => ?_, ?_⟩
  · rcases List.mem_append.1 h with h | h
    · obtain ⟨r, hr, rfl⟩ := List.mem_map.1 h
      exact ⟨(hs r hr).1, fun e => by have := (hs r hr).2.2.1; rw [e] at this; cases this⟩
    · rw [List.mem_singleton.1 h]; exact ⟨hp, hpn⟩
  · rw [List.pairwise_append]
    refine ⟨?_, List.pairwise_singleton _ _, fun s hsm q hq => ?_⟩
    · rw [List.pairwise_map]
      refine List.Pairwise.imp_of_mem ?_ he.apart
      intro r s hr hsm hap
      have h1 := hs r hr
      have h2 := hs s hsm
      exact ⟨by rw [h1.2.1]; exact h2.2.2.2.2.1 _ hap.1 (hno r hr), by rw [h2.2.1]; exact h1.2.2.2.2.1 _ hap.2 (hno s hsm)⟩
    · rw [List.mem_singleton.1 hq]
      obtain ⟨r, hr, rfl⟩ := List.mem_map.1 hsm
      exact ⟨by rw [(hs r hr).2.1]; exact hno r hr, (hs r hr).2.2.2.1⟩

theorem solve_spec {n : Nat} : ∀ (ps rows : List Pr), Ech n rows → (∀ p ∈ ps, Fine n p) →
    match solveF ps rows with
    | none => ∀ a, (∀ r ∈ rows, brk a r = false) → ∃ p ∈ ps, brk a p = true
    | some rs => Ech n rs ∧ ∀ a, (∀ r ∈ rs, brk a r = false) → (∀ r ∈ rows, brk a r = false) ∧ ∀ p ∈ ps, brk a p = false
  | [], rows, he, _ => ⟨he, fun a h => ⟨h, by simp⟩⟩
  | p :: t, rows, he, hf => by
    obtain ⟨h1, _, h2, h3⟩ := redF_spec rows p [] he (hf p (by simp)) (by simp)
    have hft : ∀ q ∈ t, Fine n q := fun q hq => hf q (List.mem_cons_of_mem _ hq)
    rw [solveF]
    by_cases h0 : (redF rows p).of = []
    · rw [if_pos h0]
      have hb : ∀ a, brk a (redF rows p) = (redF rows p).odd := fun a => by
        unfold brk xorA; rw [h0]; simp [xorL]
      cases ho : (redF rows p).odd
      · simp only [Bool.false_eq_true, if_false]
        have ih := solve_spec t rows he hft
        cases hs : solveF t rows with
        | none =>
          rw [hs] at ih
          intro a ha
          obtain ⟨q, hq, hqb⟩ := ih a ha
          exact ⟨q, List.mem_cons_of_mem _ hq, hqb⟩
        | some rs =>
          rw [hs] at ih
          refine ⟨ih.1, fun a ha => ?_⟩
          obtain ⟨i1, i2⟩ := ih.2 a ha
          refine ⟨i1, fun q hq => ?_⟩
          rcases List.mem_cons.1 hq with e | e
          · rw [e, ← h3 a i1, hb, ho]
          · exact i2 q e
      · simp only [if_true]
        intro a ha
        exact ⟨p, by simp, by rw [← h3 a ha, hb, ho]⟩
    · rw [if_neg h0]
      have he' := he.put h1 h0 h2
      have ih := solve_spec t _ he' hft
      have hrows : ∀ a, (∀ r ∈ rows.map (putF (redF rows p)) ++ [redF rows p], brk a r = false) ↔ (∀ r ∈ rows, brk a r = false) ∧ brk a (redF rows p) = false := fun a => by
        constructor
        · intro h
          have hp := h (redF rows p) (by simp)
          refine ⟨fun r hr => ?_, hp⟩
          have := h (putF (redF rows p) r) (List.mem_append_left _ (List.mem_map_of_mem hr))
          rwa [(putF_spec h1 (he.fine r hr).1 (he.fine r hr).2 h0 (h2 r hr)).2.2.2.2.2 a hp] at this
        · rintro ⟨h, hp⟩ s hs
          rcases List.mem_append.1 hs with hs | hs
          · obtain ⟨r, hr, rfl⟩ := List.mem_map.1 hs
            rw [(putF_spec h1 (he.fine r hr).1 (he.fine r hr).2 h0 (h2 r hr)).2.2.2.2.2 a hp]
            exact h r hr
          · rw [List.mem_singleton.1 hs]; exact hp
      cases hs : solveF t (rows.map (putF (redF rows p)) ++ [redF rows p]) with
      | none =>
        rw [hs] at ih
        intro a ha
        by_cases hp : brk a (redF rows p) = false
        · obtain ⟨q, hq, hqb⟩ := ih a ((hrows a).2 ⟨ha, hp⟩)
          exact ⟨q, List.mem_cons_of_mem _ hq, hqb⟩
        · exact ⟨p, by simp, by rw [← h3 a ha]; simpa using hp⟩
      | some rs =>
        rw [hs] at ih
        refine ⟨ih.1, fun a ha => ?_⟩
        obtain ⟨i1, i2⟩ := ih.2 a ha
        obtain ⟨i3, i4⟩ := (hrows a).1 i1
        refine ⟨i3, fun q hq => ?_⟩
        rcases List.mem_cons.1 hq with e | e
        · rw [e, ← h3 a i3, i4]
        · exact i2 q e

theorem assign_len : ∀ (rows : List Pr) (a : List Bool), (rows.foldl (fun a r => a.set ((pivot r).toNat - 1) r.odd) a).length = a.length
  | [], _ => rfl
  | r :: t, a => by rw [List.foldl_cons, assign_len t]; simp
theorem assignF_len (n : Nat) (rows : List Pr) : (assignF n rows).length = n := by unfold assignF; rw [assign_len]; simp
/-- What stands at a variable: its row's, if it leads one. -/
theorem assign_at {n : Nat} : ∀ (rows : List Pr) (a : List Bool), a.length = n → (∀ r ∈ rows, 1 ≤ pivot r ∧ pivot r ≤ n) → rows.Pairwise (fun r s => pivot r ≠ pivot s) →
    (∀ r ∈ rows, litV (rows.foldl (fun a r => a.set ((pivot r).toNat - 1) r.odd) a) (pivot r) = r.odd) ∧ ∀ v, 1 ≤ v → (∀ r ∈ rows, v ≠ pivot r) → litV (rows.foldl (fun a r => a.set ((pivot r).toNat - 1) r.odd) a) v = litV a v
  | [], a, _, _, _ => ⟨by simp, fun _ _ _ => rfl⟩
  | r :: t, a, hl, hr, hd => by
    have hd' := List.pairwise_cons.1 hd
    have ih := assign_at t (a.set ((pivot r).toNat - 1) r.odd) (by simpa using hl) (fun s hs => hr s (List.mem_cons_of_mem _ hs)) hd'.2
    have hb := hr r (by simp)
    rw [List.foldl_cons]
    refine ⟨fun s hs => ?_, fun v hv hn => ?_⟩
    · rcases List.mem_cons.1 hs with e | e
      · subst e
        rw [ih.2 (pivot s) hb.1 (fun q hq => hd'.1 q hq)]
        unfold litV
        rw [show (pivot s).natAbs - 1 = (pivot s).toNat - 1 by omega, List.getElem?_set_self (by omega)]
        rfl
      · exact ih.1 s e
    · rw [ih.2 v hv (fun q hq => hn q (List.mem_cons_of_mem _ hq))]
      unfold litV
      rw [List.getElem?_set_ne]
      have := hn r (by simp)
      omega
theorem Ech.pivots {n : Nat} {rows : List Pr} (h : Ech n rows) : (∀ r ∈ rows, 1 ≤ pivot r ∧ pivot r ≤ n) ∧ rows.Pairwise (fun r s => pivot r ≠ pivot s) := by
  refine ⟨fun r hr => (h.fine r hr).1.2 _ (pivot_mem (h.fine r hr).2), ?_⟩
  refine List.Pairwise.imp_of_mem ?_ h.apart
  intro r s hr hs hap e
  exact hap.1 (by rw [e]; exact pivot_mem (h.fine s hs).2)
theorem xorA_false {a : List Bool} : ∀ {l : List Int}, (∀ v ∈ l, litV a v = false) → xorA a l = false
  | [], _ => rfl
  | x :: t, h => by rw [xorA_cons, h x (by simp), xorA_false (fun v hv => h v (List.mem_cons_of_mem _ hv))]; rfl
theorem pw_mem {R : Pr → Pr → Prop} (hs : ∀ r s, R r s → R s r) : ∀ {l : List Pr}, l.Pairwise R → ∀ r ∈ l, ∀ s ∈ l, r = s ∨ R r s
  | [], _, r, hr, _, _ => by cases hr
  | x :: t, h, r, hr, s, hsm => by
    have h' := List.pairwise_cons.1 h
    rcases List.mem_cons.1 hr with e | e
    · rcases List.mem_cons.1 hsm with e' | e'
      · exact .inl (e.trans e'.symm)
      · exact .inr (by rw [e]; exact h'.1 s e')
    · rcases List.mem_cons.1 hsm with e' | e'
      · exact .inr (hs _ _ (by rw [e']; exact h'.1 r e))
      · exact pw_mem hs h'.2 r e s e'
theorem assign_holds {n : Nat} {rows : List Pr} (h : Ech n rows) : ∀ r ∈ rows, brk (assignF n rows) r = false := fun r hr => by
  obtain ⟨hp, hd⟩ := h.pivots
  obtain ⟨ha, hb⟩ := assign_at rows (List.replicate n false) (by simp) hp hd
  obtain ⟨hf, hne⟩ := h.fine r hr
  have hall : ∀ v ∈ r.of, v ≠ pivot r → litV (assignF n rows) v = false := fun v hv hn => by
    show litV (rows.foldl _ _) v = false
    rw [hb v (hf.2 v hv).1 (fun s hs e => ?_)]
    · unfold litV
      rw [List.getElem?_replicate]; split <;> rfl
    · rcases pw_mem (fun r s h => ⟨h.2, h.1⟩) h.apart r hr s hs with e' | e'
      · subst e'; exact hn e
      · exact e'.2 (by rw [← e]; exact hv)
  unfold brk
  have hof : r.of = pivot r :: r.of.tail := by
    unfold pivot
    cases hc : r.of with
    | nil => exact absurd hc hne
    | cons x t => rfl
  have htl : ∀ v ∈ r.of.tail, pivot r < v := by
    have := hf.1
    rw [hof] at this
    exact (List.pairwise_cons.1 this).1
  rw [hof, xorA_cons, xorA_false (fun v hv => hall v (List.mem_of_mem_tail hv) (by have := htl v hv; omega))]
  have := ha r hr
  rw [show litV (assignF n rows) (pivot r) = r.odd from this]
  cases r.odd <;> rfl
/-- THE PLAIN LAW OF SOLVE. -/
theorem solve_none {n : Nat} {ps : List Pr} (hf : ∀ p ∈ ps, Fine n p) (h : solveF ps [] = none) (a : List Bool) : ∃ p ∈ ps, parB a p = false := by
  have := solve_spec (n := n) ps [] (Ech.nil n) hf
  rw [h] at this
  obtain ⟨p, hp, hb⟩ := this a (by simp)
  refine ⟨p, hp, ?_⟩
  rw [Bool.eq_false_iff]
  intro hc
  rw [parB_iff.1 hc] at hb
  cases hb
theorem solve_some {n : Nat} {ps rows rows' : List Pr} (hf : ∀ p ∈ ps, Fine n p) (h : solveF ps [] = some rows) (hp : rows.Perm rows') : ∀ p ∈ ps, parB (assignF n rows') p = true := by
  have := solve_spec (n := n) ps [] (Ech.nil n) hf
  rw [h] at this
  have he := this.1.perm hp
  have hh := assign_holds he
  exact fun p hpm => parB_iff.2 ((this.2 _ (fun r hr => hh r (hp.mem_iff.1 hr))).2 p hpm)

/-- The clause that one assignment of a parity's variables breaks. -/
def clauseW (of : List Int) (bs : List Bool) : List Int := List.zipWith (fun v b => if b then -v else v) of bs
def setsF (p : Pr) (s : Nat) : Option (List Int) := if xorL (bitW p.of.length s) != p.odd then some (clauseW p.of (bitW p.of.length s)) else none
def rawF (p : Pr) : List (List Int) := (List.range (2 ^ p.of.length)).filterMap (setsF p)
theorem sat_clauseW {a : List Bool} : ∀ (of : List Int) (bs : List Bool), (∀ v ∈ of, 1 ≤ v) → bs.length = of.length → (satB a (clauseW of bs) = false ↔ bs = of.map (litV a))
  | [], [], _, _ => by simp [clauseW, satB]
  | [], b :: t, _, h => by simp at h
  | v :: t, [], _, h => by simp at h
  | v :: t, b :: u, hv, hl => by
    have ih := sat_clauseW (a := a) t u (fun x hx => hv x (List.mem_cons_of_mem _ hx)) (by simpa using hl)
    have h1 := hv v (by simp)
    have e : satB a (clauseW (v :: t) (b :: u)) = (litB a (if b then -v else v) || satB a (clauseW t u)) := rfl
    have hb : litB a (if b then -v else v) = (litV a v != b) := by
      unfold litB litV
      cases b
      · rw [if_neg (by simp), decide_eq_true (by omega : 0 < v)]
        cases a[v.natAbs - 1]?.getD false <;> rfl
      · rw [if_pos rfl, decide_eq_false (by omega : ¬ 0 < -v), Int.natAbs_neg]
        cases a[v.natAbs - 1]?.getD false <;> rfl
    rw [e, hb, Bool.or_eq_false_iff, ih, List.map_cons, List.cons.injEq]
    constructor
    · rintro ⟨h1, h2⟩
      exact ⟨by cases hl : litV a v <;> cases b <;> simp_all, h2⟩
    · rintro ⟨h1, h2⟩
      exact ⟨by rw [h1]; cases litV a v <;> rfl, h2⟩
theorem all_raw {a : List Bool} {p : Pr} (hv : ∀ v ∈ p.of, 1 ≤ v) : allB (rawF p) a = parB a p := by
  rw [Bool.eq_iff_iff]
  unfold allB
  rw [List.all_eq_true]
  constructor
  · intro h
    rw [parB_iff, Bool.eq_false_iff]
    intro hb
    obtain ⟨s, hs1, hs2⟩ := bitW_all (p.of.map (litV a))
    rw [List.length_map] at hs1 hs2
    have hm : clauseW p.of (p.of.map (litV a)) ∈ rawF p := by
      unfold rawF
      rw [List.mem_filterMap]
      refine ⟨s, List.mem_range.2 hs1, ?_⟩
      unfold setsF
      have hb' : (xorL (p.of.map (litV a)) != p.odd) = true := hb
      rw [hs2, if_pos hb']
    have := h _ hm
    rw [(sat_clauseW p.of _ hv (by simp)).2 rfl] at this
    cases this
  · intro h c hc
    unfold rawF at hc
    rw [List.mem_filterMap] at hc
    obtain ⟨s, _, hs⟩ := hc
    unfold setsF at hs
    split at hs
    · rename_i hx
      injection hs with hs
      subst hs
      rw [← Bool.not_eq_false]
      intro hf
      have := (sat_clauseW p.of _ hv (bitW_len _ _)).1 hf
      rw [this] at hx
      rw [parB_iff] at h
      unfold brk xorA at h
      rw [hx] at h
      cases h
    · cases hs
theorem clauseW_len (of : List Int) (bs : List Bool) : (clauseW of bs).length ≤ of.length := by unfold clauseW; rw [List.length_zipWith]; omega
theorem clauseW_abs : ∀ (of : List Int) (bs : List Bool), ∀ x ∈ clauseW of bs, ∃ v ∈ of, x = v ∨ x = -v
  | [], bs, x, h => by simp [clauseW] at h
  | v :: t, [], x, h => by simp [clauseW] at h
  | v :: t, b :: u, x, h => by
    rcases List.mem_cons.1 (show x ∈ (if b then -v else v) :: clauseW t u from h) with e | e
    · refine ⟨v, by simp, ?_⟩
      rw [e]; split
      · exact .inr rfl
      · exact .inl rfl
    · obtain ⟨y, hy, h'⟩ := clauseW_abs t u x e
      exact ⟨y, List.mem_cons_of_mem _ hy, h'⟩
theorem clauseW_lits {vars : Int} : ∀ (of : List Int) (bs : List Bool), Asc of → (∀ v ∈ of, 1 ≤ v ∧ v ≤ vars) → Lits vars (clauseW of bs)
  | [], bs, _, _ => ⟨by simp [clauseW], by simp [clauseW]⟩
  | v :: t, [], _, _ => ⟨by simp [clauseW], by simp [clauseW]⟩
  | v :: t, b :: u, ha, hv => by
    have ha' := List.pairwise_cons.1 ha
    have ih := clauseW_lits t u ha'.2 (fun x hx => hv x (List.mem_cons_of_mem _ hx))
    have h1 := hv v (by simp)
    have e : clauseW (v :: t) (b :: u) = (if b then -v else v) :: clauseW t u := rfl
    have hx : (if b then -v else v) = v ∨ (if b then -v else v) = -v := by cases b <;> simp
    obtain ⟨x, hxe⟩ : ∃ x, (if b then -v else v) = x := ⟨_, rfl⟩
    rw [hxe] at hx
    rw [e, hxe]
    refine ⟨fun y hy => ?_, List.Pairwise.cons (fun y hy => ?_) ih.2⟩
    · rcases List.mem_cons.1 hy with e | e
      · subst e; omega
      · exact ih.1 y e
    · obtain ⟨w, hw, hyw⟩ := clauseW_abs t u y hy
      have := ha'.1 w hw
      omega
theorem rawF_len (p : Pr) : (rawF p).length ≤ 2 ^ p.of.length := by
  have := List.length_filterMap_le (setsF p) (List.range (2 ^ p.of.length))
  rw [List.length_range] at this
  exact this
theorem rawF_mem {vars : Nat} {p : Pr} (hf : Fine vars p) : ∀ c ∈ rawF p, c.length ≤ p.of.length ∧ Lits vars c := fun c hc => by
  unfold rawF at hc
  rw [List.mem_filterMap] at hc
  obtain ⟨s, _, hs⟩ := hc
  unfold setsF at hs
  split at hs
  · injection hs with hs
    subst hs
    exact ⟨clauseW_len _ _, clauseW_lits _ _ hf.1 hf.2⟩
  · cases hs
/-- The clauses of a parity. -/
def clausesF (p : Pr) : List (List Int) := normF (rawF p)
theorem all_clauses {a : List Bool} {p : Pr} (hv : ∀ v ∈ p.of, 1 ≤ v) : allB (clausesF p) a = parB a p := by
  unfold clausesF
  rw [allB_norm, all_raw hv]
theorem clausesF_mem {vars : Nat} {p : Pr} (hf : Fine vars p) : ∀ c ∈ clausesF p, c.length ≤ p.of.length ∧ Lits vars c := fun c hc => by
  obtain ⟨x, hx, rfl⟩ := normF_mem.1 hc
  have := rawF_mem hf x hx
  exact ⟨by rw [sortF_len]; exact this.1, this.2.sortF⟩
theorem clausesF_len (p : Pr) : (clausesF p).length ≤ 2 ^ p.of.length := Nat.le_trans (normF_len _) (rawF_len p)
end Go.Proofs.YtlfgcblijfflfaaGreat

/- A slice of parities of the call's own: made, grown, stored into, read. -/
namespace Go.Proofs.YtlfgcblijfflfaaGreat
open Go.RowKit
set_option linter.unusedSimpArgs false
set_option linter.unusedVariables false

section
variable {P : Program} (w : World)
/-- One element of K cells is appended to a row of the call's own. -/
theorem wpList_append_k {ops : Array Oper} {rest : List Oper} {o : Oper} {a : Act} {Q : Exit → Act → World → Prop} (hgd : o.guard = none) (s x : Operand) (t : TypeId)
    (ho : o.op = .call { callee := .builtin .append, args := #[s, x], argTypes := #[t, t] }) (K by_ : Nat)
    (base : Nat) (e : TypeId) (i : TypeInfo) (z : Value) (ht : P.underlying t = some (.slice e)) (hi : P.info? e = some i) (hz : i.zero = some z)
    (hsize : i.size = K) (hby : i.bytes = by_) (hzs : z.cells.size = K) (hK : 0 < K)
    (B : Option Addr) (n d : Nat) (xs : List Value) (hs : a.eval s = .slice B n d) (hown : w.ownsRow base e K (.slice B n d) n xs)
    (b : Nat) (news : List Value) (hx : a.eval x = .slice (some ⟨b, 0, none⟩) 1 1) (hl : news.length = K) (hc : ∀ j u, news[j]? = some u → w.cell? ⟨b, j, none⟩ = some u) (h1 : ∀ u ∈ news, u.oneCell' = true)
    (h63 : n + 1 ≤ maxLen) (hbytes : (n + 1) * by_ ≤ 140737488355328) (hbase : base ≤ w.heap.size)
    (h : ∀ B' d' w', w'.ownsRow base e K (.slice B' (n + 1) d') (n + 1) (xs ++ news) → w.grownBy w' (blockOf B) → wpList P ops Q rest (a.put o.dst (.slice B' (n + 1) d')) w') : wpList P ops Q (o :: rest) a w := by
  refine wpList_plain hgd fun _ hKK => ?_
  have form : ∀ (v' : Value) (w' : World), w'.ownsRow base e K v' (n + 1) (xs ++ news) → ∃ B' d', v' = Value.slice B' (n + 1) d' := fun v' w' h => by
    rcases h.2 with ⟨hv, hn⟩ | ⟨g, cap, cur, hv, _⟩
    · omega
    · exact ⟨_, _, hv⟩
  obtain ⟨v', w', hrun, h2, h3, _, h5⟩ := run_append_own_at (P := P) w base t o.type e i z K by_ ht hi hz hsize hby hzs hK (.slice B n d) n xs hown ⟨b, 0, none⟩ 1 1 news (by rw [hl]; simp) (fun j u hj => by
    have := hc j u hj
    unfold Addr.add
    by_cases h0 : j = 0
    · subst h0; simpa using this
    · simpa [h0] using this) h1 h63 hbytes hbase
  obtain ⟨B', d', rfl⟩ := form v' w' h2
  rw [blockOf_own] at h3
  unfold Oper.wp execOp
  simp only [ho, resolve, invoke, builtin, Sem.run_bind, Sem.run_pure, Result.andThen_ok, List.map_toArray, List.map_cons, List.map_nil, hs, hx, hrun]
  exact hKK _ _ (h B' d' w' h2 h3)
end

/-- A parity as it lies: its slice, its bool. -/
abbrev Pv := Option Addr × Nat × Nat × Bool
def cells2 (v : Pv) : List Value := [.slice v.1 v.2.1 v.2.2.1, .bool v.2.2.2]
theorem cells2_len (v : Pv) : (cells2 v).length = 2 := rfl
theorem par_info : (Tryz.prog.info? 39).map (fun i => (i.zero, i.size, i.bytes)) = some (some (.agg #[.slice none 0 0, .bool false]), 2, 32) := by kernel_rfl
def OwnD (w : World) (base : Nat) (B : Option Addr) (n d : Nat) (xs : List Value) : Prop := w.ownsRow base 39 2 (.slice B n d) n xs
theorem OwnD.form {w : World} {base n d : Nat} {B : Option Addr} {xs : List Value} (h : OwnD w base B n d xs) : (B = none ∧ n = 0 ∧ d = 0 ∧ xs = []) ∨ ∃ g cur, B = some ⟨g, 0, none⟩ ∧ base ≤ g ∧ w.heap[g]? = some (.cells cur 39 (0, 0)) ∧ n ≤ d ∧ d ≤ maxLen ∧ cur.size = d * 2 ∧ cur.toList.take (n * 2) = xs := by
  rcases h.2 with ⟨h2, h3⟩ | ⟨g, cap, cur, h2, h3, h4, h5, h6, h7, h8⟩
  · left
    injection h2 with a1 a2 a3
    have := h.1
    subst h3
    simp at this
    exact ⟨a1, rfl, a3, this⟩
  · right
    injection h2 with a1 a2 a3
    subst a3
    exact ⟨g, cur, a1, h3, h4, h5, h6, by simpa using h7, by simpa using h8⟩
theorem OwnD.keep {w w' : World} {base n d : Nat} {B : Option Addr} {xs : List Value} (h : OwnD w base B n d xs) (hb : Below w.heap.size w w') : OwnD w' base B n d xs := by
  refine ⟨h.1, ?_⟩
  rcases h.2 with h2 | ⟨g, cap, cur, hv, hg, hh, r⟩
  · exact .inl h2
  · have hlt : g < w.heap.size := by
      rcases Nat.lt_or_ge g w.heap.size with hlt | hge
      · exact hlt
      · rw [Array.getElem?_eq_none hge] at hh; cases hh
    exact .inr ⟨g, cap, cur, hv, hg, (hb.block g hlt).trans hh, r⟩
theorem OwnD.kept {w w' : World} {base n d : Nat} {B : Option Addr} {xs : List Value} {row : Option Nat} (h : OwnD w base B n d xs) (hg : w.grownBy w' row) (hne : blockOf B = none ∨ blockOf B ≠ row) : OwnD w' base B n d xs :=
  World.ownsRow.kept h hg (by rw [blockOf_own]; exact hne)
theorem OwnD.ne_typed {w : World} {base n d g : Nat} {t : TypeId} {B : Option Addr} {xs : List Value} (h : OwnD w base B n d xs) (hT : Typed t w g) (hne : 39 ≠ t) : blockOf B = none ∨ blockOf B ≠ some g := by
  rcases h.form with ⟨rfl, _⟩ | ⟨g', cur, rfl, _, hh, _⟩
  · exact .inl rfl
  · right
    intro e
    simp [blockOf] at e
    subst e
    obtain ⟨cs, fz, hcs⟩ := hT
    rw [hh] at hcs
    injection hcs with hcs
    injection hcs with _ ht
    exact hne ht
theorem OwnD.geb {w : World} {base n d k : Nat} {B : Option Addr} {xs : List Value} (h : OwnD w base B n d xs) (hk : k < base) : blockOf B = none ∨ blockOf B ≠ some k := by
  rcases h.form with ⟨rfl, _⟩ | ⟨g', cur, rfl, hg, _⟩
  · exact .inl rfl
  · right
    intro e
    simp [blockOf] at e
    omega
theorem OwnD.base {w : World} {base n d k : Nat} {B : Option Addr} {xs : List Value} (h : OwnD w base B n d xs) (hk : blockOf B = some k) : base ≤ k ∧ Typed 39 w k := by
  rcases h.form with ⟨rfl, _⟩ | ⟨g', cur, rfl, hg, hh, _⟩
  · cases hk
  · cases hk; exact ⟨hg, ⟨_, _, hh⟩⟩
/-- The slices of the parities ps, each apart from what is written from low on at another type than int. -/
def PvIn (w : World) (low : Nat) (vs : List Pv) (ps : List Pr) : Prop :=
  vs.length = ps.length ∧ ∀ (k : Nat) (v : Pv) (p : Pr), vs[k]? = some v → ps[k]? = some p → v.2.2.2 = p.odd ∧ Ints w v.1 v.2.1 v.2.2.1 p.of ∧ Away 3 w low v.1 v.2.1
theorem PvIn.keep {w w' : World} {low : Nat} {vs : List Pv} {ps : List Pr} (h : PvIn w low vs ps) (hb : Below w.heap.size w w') : PvIn w' low vs ps :=
  ⟨h.1, fun k v p hv hp => ⟨(h.2 k v p hv hp).1, (h.2 k v p hv hp).2.1.keep hb, (h.2 k v p hv hp).2.2.keep hb⟩⟩
theorem away_kept {w w' : World} {low n c : Nat} {A : Option Addr} {xs : List Int} {row : Option Nat} {t : TypeId} (hi : Ints w A n c xs) (ha : Away 3 w low A n) (hg : w.grownBy w' row) (hr : ∀ g, row = some g → low ≤ g ∧ Typed t w g) (nt : (3 : TypeId) ≠ t) : Ints w' A n c xs ∧ Away 3 w' low A n := by
  have hrow : RowsP 3 w low [Value.slice A n c] [xs] := ⟨rfl, fun k' v hv => by
    match k', hv with
    | 0, hv => simp at hv; subst hv; exact ⟨_, _, _, xs, rfl, rfl, hi, ha⟩
    | k' + 1, hv => simp at hv⟩
  obtain ⟨A', n', c', ys, e1, e2, e3, e4⟩ := (hrow.kept hg hr nt).2 0 _ rfl
  cases e1
  simp at e2
  subst e2
  exact ⟨e3, e4⟩
theorem PvIn.kept {w w' : World} {low : Nat} {vs : List Pv} {ps : List Pr} {row : Option Nat} {t : TypeId} (h : PvIn w low vs ps) (hg : w.grownBy w' row) (hr : ∀ g, row = some g → low ≤ g ∧ Typed t w g) (nt : (3 : TypeId) ≠ t) : PvIn w' low vs ps :=
  ⟨h.1, fun k v p hv hp => by
    have := away_kept (h.2 k v p hv hp).2.1 (h.2 k v p hv hp).2.2 hg hr nt
    exact ⟨(h.2 k v p hv hp).1, this.1, this.2⟩⟩
theorem PvIn.snoc {w : World} {low n c : Nat} {A : Option Addr} {vs : List Pv} {ps : List Pr} {p : Pr} (h : PvIn w low vs ps) (hi : Ints w A n c p.of) (ha : Away 3 w low A n) : PvIn w low (vs ++ [(A, n, c, p.odd)]) (ps ++ [p]) := by
  refine ⟨by simp [h.1], fun k v q hv hq => ?_⟩
  rcases Nat.lt_or_ge k vs.length with hk | hk
  · rw [List.getElem?_append_left hk] at hv
    rw [List.getElem?_append_left (by rw [← h.1]; exact hk)] at hq
    exact h.2 k v q hv hq
  · have hk0 : k = vs.length := by
      have := (List.getElem?_eq_some_iff.1 hv).1
      simp at this
      omega
    subst hk0
    rw [List.getElem?_concat_length] at hv
    rw [h.1, List.getElem?_concat_length] at hq
    cases hv
    cases hq
    exact ⟨rfl, hi, ha⟩
theorem PvIn.set_ {w : World} {low n c i : Nat} {A : Option Addr} {vs : List Pv} {ps : List Pr} {p : Pr} (h : PvIn w low vs ps) (hi : Ints w A n c p.of) (ha : Away 3 w low A n) : PvIn w low (vs.set i (A, n, c, p.odd)) (ps.set i p) := by
  refine ⟨by simp [h.1], fun k v q hv hq => ?_⟩
  by_cases hk : i = k
  · subst hk
    have h1 := (List.getElem?_eq_some_iff.1 hv).1
    have h2 := (List.getElem?_eq_some_iff.1 hq).1
    rw [List.length_set] at h1 h2
    rw [List.getElem?_set_self h1] at hv
    rw [List.getElem?_set_self h2] at hq
    cases hv
    cases hq
    exact ⟨rfl, hi, ha⟩
  · rw [List.getElem?_set_ne hk] at hv hq
    exact h.2 k v q hv hq
def OwnPr (w : World) (base low : Nat) (B : Option Addr) (n d : Nat) (ps : List Pr) : Prop := ∃ vs : List Pv, OwnD w base B n d (vs.flatMap cells2) ∧ PvIn w low vs ps
theorem flat2_len (vs : List Pv) : (vs.flatMap cells2).length = vs.length * 2 := by
  induction vs with
  | nil => rfl
  | cons a r ih => rw [List.flatMap_cons, List.length_append, ih, cells2_len, List.length_cons]; omega
theorem flat2 (vs : List Pv) (k j : Nat) (v : Pv) (hv : vs[k]? = some v) (hj : j < 2) : (vs.flatMap cells2)[k * 2 + j]? = (cells2 v)[j]? := by
  induction vs generalizing k with
  | nil => simp at hv
  | cons a r ih =>
    rw [List.flatMap_cons]
    cases k with
    | zero =>
      simp at hv
      subst hv
      rw [List.getElem?_append_left (by rw [cells2_len]; omega), Nat.zero_mul, Nat.zero_add]
    | succ k =>
      rw [List.getElem?_append_right (by rw [cells2_len]; omega), cells2_len, show (k + 1) * 2 + j - 2 = k * 2 + j by omega]
      exact ih k (by simpa using hv)
theorem flat2_set (vs : List Pv) (k : Nat) (v : Pv) (hk : k < vs.length) : ((vs.flatMap cells2).set (k * 2) (.slice v.1 v.2.1 v.2.2.1)).set (k * 2 + 1) (.bool v.2.2.2) = (vs.set k v).flatMap cells2 := by
  induction vs generalizing k with
  | nil => simp at hk
  | cons a r ih =>
    cases k with
    | zero => rfl
    | succ k =>
      rw [List.set_cons_succ, List.flatMap_cons, List.flatMap_cons, ← ih k (by simpa using hk), List.set_append_right _ _ (by rw [cells2_len]; omega), List.set_append_right _ _ (by rw [cells2_len]; omega), cells2_len,
        show (k + 1) * 2 - 2 = k * 2 by omega, show (k + 1) * 2 + 1 - 2 = k * 2 + 1 by omega]
section
variable {w w' : World} {base low n d : Nat} {B : Option Addr} {ps : List Pr}
theorem OwnPr.nil (w : World) (base low : Nat) : OwnPr w base low none 0 0 [] := ⟨[], World.ownsRow_nil _ _ _ _, rfl, by simp⟩
theorem OwnPr.keep (h : OwnPr w base low B n d ps) (hb : Below w.heap.size w w') : OwnPr w' base low B n d ps := by
  obtain ⟨vs, h1, h2⟩ := h
  exact ⟨vs, h1.keep hb, h2.keep hb⟩
theorem OwnPr.len (h : OwnPr w base low B n d ps) : ps.length = n := by
  obtain ⟨vs, h1, h2, _⟩ := h
  have := h1.1
  rw [flat2_len] at this
  omega
/-- A block of a third element type is written. -/
theorem OwnPr.kept {row : Option Nat} {t : TypeId} (h : OwnPr w base low B n d ps) (hg : w.grownBy w' row) (hr : ∀ g, row = some g → low ≤ g ∧ Typed t w g) (ne : 39 ≠ t) (nt : (3 : TypeId) ≠ t) : OwnPr w' base low B n d ps := by
  obtain ⟨vs, h1, h2⟩ := h
  refine ⟨vs, h1.kept hg ?_, h2.kept hg hr nt⟩
  cases row with
  | none => by_cases h0 : blockOf B = none
            · exact .inl h0
            · exact .inr h0
  | some g => exact h1.ne_typed (hr g rfl).2 ne
/-- What a round at k meets. -/
theorem OwnPr.round (h : OwnPr w base low B n d ps) {k : Nat} (hk : k < n) : ∃ (g : Nat) (A : Option Addr) (m c : Nat) (p : Pr), B = some ⟨g, 0, none⟩ ∧ base ≤ g ∧ g < w.heap.size ∧ w.cell? ⟨g, k * 2, none⟩ = some (.slice A m c) ∧ w.cell? ⟨g, k * 2 + 1, none⟩ = some (.bool p.odd) ∧
    w.frozen? ⟨g, k * 2, none⟩ = false ∧ w.frozen? ⟨g, k * 2 + 1, none⟩ = false ∧ Ints w A m c p.of ∧ Away 3 w low A m ∧ Hid (ps[k]? = some p) := by
  have hl := h.len
  obtain ⟨vs, h1, h2, h3⟩ := h
  rcases h1.form with ⟨_, h0, _⟩ | ⟨g, cur, rfl, hg, hh, hnd, hdm, _⟩
  · omega
  · have hkv : k < vs.length := by omega
    have hkp : k < ps.length := by omega
    have hv : vs[k]? = some vs[k] := List.getElem?_eq_getElem hkv
    have hp : ps[k]? = some ps[k] := List.getElem?_eq_getElem hkp
    obtain ⟨e1, e2, e3⟩ := h3 k _ _ hv hp
    refine ⟨g, _, _, _, ps[k], rfl, hg, ?_, ?_, ?_, World.ownsRow.frozenAt h1 _, World.ownsRow.frozenAt h1 _, e2, e3, hp⟩
    · rcases Nat.lt_or_ge g w.heap.size with hlt | hge
      · exact hlt
      · rw [Array.getElem?_eq_none hge] at hh; cases hh
    · have := World.ownsRow.cellAt h1 (k * 2 + 0) (by omega)
      rw [flat2 vs k 0 _ hv (by omega)] at this
      exact this
    · have := World.ownsRow.cellAt h1 (k * 2 + 1) (by omega)
      rw [flat2 vs k 1 _ hv (by omega)] at this
      rw [this, ← e1]
      rfl
/-- One more. -/
theorem OwnPr.push {w' : World} {B2 A : Option Addr} {d2 m c : Nat} {vs : List Pv} {p : Pr} (h1 : OwnD w base B n d (vs.flatMap cells2)) (h2 : PvIn w low vs ps) (hbl : low ≤ base) (hi : Ints w A m c p.of) (ha : Away 3 w low A m)
    (ho : OwnD w' base B2 (n + 1) d2 (vs.flatMap cells2 ++ cells2 (A, m, c, p.odd))) (hg : w.grownBy w' (blockOf B)) : OwnPr w' base low B2 (n + 1) d2 (ps ++ [p]) := by
  refine ⟨vs ++ [(A, m, c, p.odd)], by rw [List.flatMap_append]; simpa using ho, ?_⟩
  exact (h2.snoc hi ha).kept hg (fun g hg' => ⟨Nat.le_trans hbl (h1.base hg').1, (h1.base hg').2⟩) (by decide)
/-- One is stored anew. -/
theorem OwnPr.put {g k : Nat} {A : Option Addr} {m c : Nat} {p : Pr} (h : OwnPr w base low (some ⟨g, 0, none⟩) n d ps) (hbl : low ≤ base) (hk : k < n) (hi : Ints w A m c p.of) (ha : Away 3 w low A m) :
    OwnPr ((w.setCell ⟨g, k * 2, none⟩ (.slice A m c)).setCell ⟨g, k * 2 + 1, none⟩ (.bool p.odd)) base low (some ⟨g, 0, none⟩) n d (ps.set k p) := by
  have hl := h.len
  obtain ⟨vs, h1, h2⟩ := h
  have hs := (World.ownsRow.stored (World.ownsRow.stored h1 (k * 2) (.slice A m c)).1 (k * 2 + 1) (.bool p.odd)).1
  rw [flat2_set vs k (A, m, c, p.odd) (by have := h2.1; omega)] at hs
  obtain ⟨hb, hT⟩ := h1.base (k := g) rfl
  have g1 := grown_setCell w ⟨g, k * 2, none⟩ (.slice A m c)
  have g2 := grown_setCell (w.setCell ⟨g, k * 2, none⟩ (.slice A m c)) ⟨g, k * 2 + 1, none⟩ (.bool p.odd)
  obtain ⟨hb2, hT2⟩ := OwnD.base (n := n) (World.ownsRow.stored h1 (k * 2) (.slice A m c)).1 (k := g) rfl
  exact ⟨_, hs, ((h2.set_ hi ha).kept g1 (fun q hq => by cases hq; exact ⟨Nat.le_trans hbl hb, hT⟩) (by decide)).kept g2 (fun q hq => by cases hq; exact ⟨Nat.le_trans hbl hb2, hT2⟩) (by decide)⟩
end
end Go.Proofs.YtlfgcblijfflfaaGreat

/- Contracts of slices.Sort at a row of the call's own, and of par.sum. -/
namespace Go.Proofs.YtlfgcblijfflfaaGreat
open Go.RowKit Go.Sort
set_option linter.unusedSimpArgs false
set_option linter.unusedVariables false

theorem int_info_p : (Tryz.prog.info? 3).map (fun i => (i.zero, i.size, i.bytes)) = some (some (.int .i64 0), 1, 8) := by kernel_rfl

/-- slices.Sort at a row of the call's own. -/
theorem sort_own_ints (base n c : Nat) (A : Option Addr) (l : List Int) (w : World) (h : Own 3 w base A n c (l.map (Value.int .i64))) (hn : n ≤ 1000000) :
    Calls Tryz.prog 67 #[.slice A n c] w fun e w' => e = .returned (.tuple #[]) ∧ Own 3 w' base A n c ((sortI l).map (Value.int .i64)) ∧ w.grownBy w' (blockOf A) := by
  have hl : l.length = n := by have h1 := h.len; simpa using h1
  rcases h.form with ⟨rfl, rfl, rfl, h0⟩ | ⟨g, cur, rfl, _, hh, _⟩
  · have hl0 : l = [] := by simpa using h0
    subst hl0
    refine (Tryz.slices_Sort_int_none none 0 w).mono ?_
    rintro e w' ⟨rfl, hw⟩
    rw [hw]
    exact ⟨rfl, by simpa [sortI] using h, World.grownBy.refl w _⟩
  · have hH := holds_own h (Value.int .i64) l.toArray (by simp)
    have hcon := Tryz.slices_Sort_int g 0 c l w hH (heap_lt hh) (by omega)
    rw [hl] at hcon
    refine hcon.mono ?_
    rintro e w' ⟨rfl, m, os, hw⟩
    have hMl : (sortI l).toArray.size = n := by have := (sortI_perm l).length_eq; simp; omega
    have hown := own_sorted (m := m) h (Value.int .i64) (sortI l).toArray hMl os
    have hw2 : w' = sortWorld (Value.int .i64) w g 0 m (sortI l).toArray os := hw
    rw [← hw2] at hown
    exact ⟨rfl, by simpa using hown, by rw [hw2]; exact sortWorld_grown _ _ _ _ _ _⟩

/-- A parity, its numbers the call's own. -/
def RetPar (q : Pr) (w : World) (e : Ending) (w' : World) : Prop :=
  ∃ A n c, e = .returned (.agg #[.slice A n c, .bool q.odd]) ∧ Own 3 w' w.heap.size A n c (q.of.map (Value.int .i64)) ∧ Below w.heap.size w w'

/-- The state of sum: the boxes of both, the result, and what grows. -/
structure SumSt (w wr : World) (A B : Option Addr) (n c m d : Nat) (o1 o2 : Bool) (O : Option Addr) (k cO : Nat) (l : List Int) : Prop where
  bl : Below w.heap.size w wr
  b2 : Blk wr w.heap.size 39 #[.slice A n c, .bool o1]
  b3 : Blk wr (w.heap.size + 1) 39 #[.slice B m d, .bool o2]
  b4 : Blk wr (w.heap.size + 1 + 1) 39 #[.slice none 0 0, .bool false]
  b5 : Blk wr (w.heap.size + 1 + 1 + 1) 39 #[.slice O k cO, .bool (o1 != o2)]
  ow : Own 3 wr (w.heap.size + 4) O k cO (l.map (Value.int .i64))
  hi : w.heap.size + 4 ≤ wr.heap.size
section
variable {w wr w' : World} {A B : Option Addr} {n c m d : Nat} {o1 o2 : Bool} {O : Option Addr} {k cO : Nat} {l : List Int}
theorem SumSt.keep (s : SumSt w wr A B n c m d o1 o2 O k cO l) (hb : Below wr.heap.size wr w') : SumSt w w' A B n c m d o1 o2 O k cO l :=
  ⟨below_next s.bl hb, s.b2.keep hb, s.b3.keep hb, s.b4.keep hb, s.b5.keep hb, s.ow.keep hb, Nat.le_trans s.hi hb.size⟩
/-- What grows has turned, and is stored. -/
theorem SumSt.put {w6 : World} {O2 : Option Addr} {k2 c2 : Nat} {l2 : List Int} (s : SumSt w wr A B n c m d o1 o2 O k cO l) (ho : Own 3 w6 (w.heap.size + 4) O2 k2 c2 (l2.map (Value.int .i64))) (hg : wr.grownBy w6 (blockOf O)) :
    SumSt w (w6.setCell ⟨w.heap.size + 1 + 1 + 1, 0, none⟩ (.slice O2 k2 c2)) A B n c m d o1 o2 O2 k2 c2 l2 := by
  have hi := s.hi
  have hB : Below (w.heap.size + 4) wr w6 := (Below.refl _ wr).grown hg hi (fun k hk => by
    rcases s.ow.form with ⟨rfl, _⟩ | ⟨g, cur, rfl, hg', _⟩
    · cases hk
    · cases hk; show _ ≤ g; omega)
  have h5 := s.b5.below hB (by omega)
  refine ⟨(s.bl.trans (hB.mono (by omega))).setCell (p := ⟨w.heap.size + 1 + 1 + 1, 0, none⟩) (show w.heap.size ≤ w.heap.size + 1 + 1 + 1 by omega) _, (s.b2.below hB (by omega)).far (p := ⟨w.heap.size + 1 + 1 + 1, 0, none⟩) (show w.heap.size ≠ w.heap.size + 1 + 1 + 1 by omega) _,
    (s.b3.below hB (by omega)).far (p := ⟨w.heap.size + 1 + 1 + 1, 0, none⟩) (show w.heap.size + 1 ≠ w.heap.size + 1 + 1 + 1 by omega) _, (s.b4.below hB (by omega)).far (p := ⟨w.heap.size + 1 + 1 + 1, 0, none⟩) (show w.heap.size + 1 + 1 ≠ w.heap.size + 1 + 1 + 1 by omega) _, ?_,
    ho.kept (grown_setCell w6 ⟨w.heap.size + 1 + 1 + 1, 0, none⟩ _) (Own.ne_typed ho (Typed.of_blk h5) (by decide)), by have := hB.size; have := (grown_setCell w6 ⟨w.heap.size + 1 + 1 + 1, 0, none⟩ (.slice O2 k2 c2)).size; omega⟩
  have := h5.set_ 0 (.slice O2 k2 c2)
  simpa using this
theorem SumSt.start (w : World) (A B : Option Addr) (n c m d : Nat) (o1 o2 : Bool) : SumSt w ((((w.alloc (.cells #[.slice A n c, .bool o1] 39)).alloc (.cells #[.slice B m d, .bool o2] 39)).alloc (.cells #[.slice none 0 0, .bool false] 39)).alloc (.cells #[.slice none 0 0, .bool (o1 != o2)] 39)) A B n c m d o1 o2 none 0 0 [] := by
  obtain ⟨k1, k2, k3, hb, hs⟩ := blk3 (w := w) (t := 39) (t' := 39) (t'' := 39) (cs := #[.slice A n c, .bool o1]) (cs' := #[.slice B m d, .bool o2]) (cs'' := #[.slice none 0 0, .bool false]) (Below.refl _ _)
  have hz : (((w.alloc (.cells #[.slice A n c, .bool o1] 39)).alloc (.cells #[.slice B m d, .bool o2] 39)).alloc (.cells #[.slice none 0 0, .bool false] 39)).heap.size = w.heap.size + 1 + 1 + 1 := by simp
  refine ⟨below_alloc hb _, k1.alloc _, k2.alloc _, k3.alloc _, ?_, Own.nil _ _ _, by simp⟩
  have := Blk.new (((w.alloc (.cells #[.slice A n c, .bool o1] 39)).alloc (.cells #[.slice B m d, .bool o2] 39)).alloc (.cells #[.slice none 0 0, .bool false] 39)) 39 #[.slice none 0 0, .bool (o1 != o2)]
  rw [hz] at this
  exact this
end

set_option maxHeartbeats 2000000 in
set_option maxRecDepth 100000 in
theorem sum_any (A B : Option Addr) (n c m d : Nat) (p r : Pr) (w : World) (h : Ints w A n c p.of) (h' : Ints w B m d r.of) (hn : n ≤ 1000) (hm : m ≤ 1000) :
    Calls Tryz.prog 34 #[.agg #[.slice A n c, .bool p.odd], .agg #[.slice B m d, .bool r.odd]] w (RetPar (sumF p r) w) := by
  have HS := Lib.hid (SumSt.start w A B n c m d p.odd r.odd)
  have HP := Lib.hid h
  have HR := Lib.hid h'
  have HL := Lib.hid h.len
  have HL' := Lib.hid h'.len
  have hbd := h.bd
  have hbd' := h'.bd
  obtain ⟨i0, hi0, hz0, hz1, hz2⟩ := info_parts int_info_p
  clear h h'
  go_enter Tryz.func34, Tryz.ntmps34
  go_wp2_with fail
  go_loopw [19] (fun t19 wr => ∃ (j k cO : Nat) (O : Option Addr) (l : List Int), j ≤ n ∧ k ≤ j ∧ t19 = .int .i64 j ∧ Hid (SumSt w wr A B n c m d p.odd r.odd O k cO l) ∧ Hid (l ++ (p.of.drop j).filter (fun v => !hasB r.of v) = p.of.filter (fun v => !hasB r.of v))) (fun q _ => n - (intOf q).toNat)
  case atStart => exact ⟨0, 0, 0, none, [], Nat.zero_le _, Nat.le_refl _, rfl, HS, rfl⟩
  case round =>
    clear HS
    obtain ⟨j, k, cO, O, l, hj, hk, rfl, ST, HF⟩ := hrel
    have hx := HP.out.keep ST.out.bl
    have hy := HR.out.keep ST.out.bl
    by_cases hjn : j < n
    · obtain ⟨b, off, v, rfl, hb, hc, y1, y2, hv⟩ := hx.round hjn
      obtain ⟨q, Hq⟩ : ∃ q, Hid (hasB r.of v = q) := ⟨_, rfl⟩
      have v1 : (j : Int) < (n : Int) := by omega
      have v2 : (0 : Int) ≤ (j : Int) := by omega
      have s30 := ST.out.b3.cell 0
      have s34 := ST.out.b3.lt
      simp at s30
      have HF2 : Hid (l ++ ((if !q then v :: (p.of.drop (j + 1)).filter (fun v => !hasB r.of v) else (p.of.drop (j + 1)).filter (fun v => !hasB r.of v))) = p.of.filter (fun v => !hasB r.of v)) := by
        have h1 := HF.out
        rw [drop_cons_of hv.out, List.filter_cons, Hq.out] at h1
        exact h1
      clear HF
      go_wp2_with fail
      refine (contains_ints B m d r.of v wr hy q Hq).mono ?_
      rintro e w4 ⟨rfl, m4, rfl⟩
      obtain ⟨wq, hwq⟩ : ∃ z : World, z = wr.drewN m4 := ⟨_, rfl⟩
      have hbq : Below wr.heap.size wr wq := by rw [hwq]; exact below_drewN _ _
      have STQ := Lib.hid (ST.out.keep hbq)
      rw [← hwq]
      clear hwq hbq ST hx hy hc hb s30 s34
      cases q
      · have s50 := STQ.out.b5.cell 0
        have s54 := STQ.out.b5.lt
        simp at s50
        have STB := Lib.hid (STQ.out.keep (below_new wq (.cells #[.int .i64 v] 3)))
        have hS := ints_made wq 3 [v] rfl (by simp [I64]; omega) (by simp [maxLen])
        have hhi := STQ.out.hi
        clear STQ
        go_wp2_with (first
          | (at_builtin
             refine wpList_append_sl _ rfl (.tmp 29) (.tmp 31) _ rfl (w.heap.size + 4) 3 i0 _ 8 Tryz.underlying22 hi0 hz0 hz1 hz2 rfl O k cO _ rfl STB.out.ow (some ⟨wq.heap.size, 0, none⟩) 1 1 _ rfl hS.sl (ints_one _) (by simp only [maxLen]; omega) (by omega) (by simp; omega) ?_
             intro O2 cO2 w6 hO2 hg6 hat6
             have ST6 := Lib.hid (STB.out.put (l2 := l ++ [v]) (k2 := k + 1) (c2 := cO2) (by rw [List.map_append]; exact hO2) hg6)
             have hB6 : Below (w.heap.size + 4) (wq.alloc (.cells #[.int .i64 v] 3)) w6 := (Below.refl _ _).grown hg6 (by simp; omega) (fun k hk => by
               rcases STB.out.ow.form with ⟨rfl, _⟩ | ⟨g, cur, rfl, hg', _⟩
               · cases hk
               · cases hk; show _ ≤ g; omega)
             have ob6 := STB.out.b5.below hB6 (by omega)
             have s1 := ob6.cell 0
             have sf1 := ob6.frozen 0
             have sl6 := ob6.lt
             simp at s1
             clear hO2 hg6 hat6 ob6 hB6))
        go_roundw
        case rel => exact ⟨j + 1, k + 1, cO2, O2, l ++ [v], by omega, by omega, by go_num, ST6, by have := HF2.out; show _ = _; rw [List.append_assoc]; exact this⟩
        case measure => simp [intOf] <;> omega
      · go_wp2_with fail
        go_roundw
        case rel => exact ⟨j + 1, k, cO, O, l, by omega, by omega, by go_num, STQ, HF2⟩
        case measure => simp [intOf] <;> omega
    · have HFE : Hid (l = p.of.filter (fun v => !hasB r.of v)) := by
        have h1 := HF.out
        rw [List.drop_of_length_le (by rw [HL.out]; omega)] at h1
        simpa [Hid] using h1
      have v1 : ¬ (j : Int) < (n : Int) := by omega
      have s30 := ST.out.b3.cell 0
      have s34 := ST.out.b3.lt
      simp at s30
      clear HF hx hy
      obtain ⟨wo, hwo⟩ : ∃ wo : World, wo = wr := ⟨_, rfl⟩
      subst hwo
      go_wp2_with fail
      go_loopw [38] (fun t38 wr => ∃ (i k cO : Nat) (O : Option Addr) (l : List Int), i ≤ m ∧ k ≤ n + i ∧ t38 = .int .i64 i ∧ Hid (SumSt w wr A B n c m d p.odd r.odd O k cO l) ∧ Hid (l ++ (r.of.drop i).filter (fun v => !hasB p.of v) = symF p.of r.of)) (fun q _ => m - (intOf q).toNat)
      case atStart => exact ⟨0, k, cO, O, l, Nat.zero_le _, by omega, rfl, ST, by show _ = _; rw [HFE.out]; rfl⟩
      case round =>
        clear ST HFE s30 s34
        obtain ⟨i, k, cO, O, l, hi, hk, rfl, ST, HF⟩ := hrel
        have hx := HP.out.keep ST.out.bl
        have hy := HR.out.keep ST.out.bl
        by_cases him : i < m
        · obtain ⟨b, off, v, rfl, hb, hc, y1, y2, hv⟩ := hy.round him
          obtain ⟨q, Hq⟩ : ∃ q, Hid (hasB p.of v = q) := ⟨_, rfl⟩
          have v3 : (i : Int) < (m : Int) := by omega
          have v4 : (0 : Int) ≤ (i : Int) := by omega
          have s20 := ST.out.b2.cell 0
          have s24 := ST.out.b2.lt
          simp at s20
          have HF2 : Hid (l ++ ((if !q then v :: (r.of.drop (i + 1)).filter (fun v => !hasB p.of v) else (r.of.drop (i + 1)).filter (fun v => !hasB p.of v))) = symF p.of r.of) := by
            have h1 := HF.out
            rw [drop_cons_of hv.out, List.filter_cons, Hq.out] at h1
            exact h1
          clear HF
          go_wp2_with fail
          refine (contains_ints A n c p.of v wr hx q Hq).mono ?_
          rintro e w4 ⟨rfl, m4, rfl⟩
          obtain ⟨wq, hwq⟩ : ∃ z : World, z = wr.drewN m4 := ⟨_, rfl⟩
          have hbq : Below wr.heap.size wr wq := by rw [hwq]; exact below_drewN _ _
          have STQ := Lib.hid (ST.out.keep hbq)
          rw [← hwq]
          clear hwq hbq ST hx hy hc hb s20 s24
          cases q
          · have s50 := STQ.out.b5.cell 0
            have s54 := STQ.out.b5.lt
            simp at s50
            have STB := Lib.hid (STQ.out.keep (below_new wq (.cells #[.int .i64 v] 3)))
            have hS := ints_made wq 3 [v] rfl (by simp [I64]; omega) (by simp [maxLen])
            have hhi := STQ.out.hi
            clear STQ
            go_wp2_with (first
              | (at_builtin
                 refine wpList_append_sl _ rfl (.tmp 48) (.tmp 50) _ rfl (w.heap.size + 4) 3 i0 _ 8 Tryz.underlying22 hi0 hz0 hz1 hz2 rfl O k cO _ rfl STB.out.ow (some ⟨wq.heap.size, 0, none⟩) 1 1 _ rfl hS.sl (ints_one _) (by simp only [maxLen]; omega) (by omega) (by simp; omega) ?_
                 intro O2 cO2 w6 hO2 hg6 hat6
                 have ST6 := Lib.hid (STB.out.put (l2 := l ++ [v]) (k2 := k + 1) (c2 := cO2) (by rw [List.map_append]; exact hO2) hg6)
                 have hB6 : Below (w.heap.size + 4) (wq.alloc (.cells #[.int .i64 v] 3)) w6 := (Below.refl _ _).grown hg6 (by simp; omega) (fun k hk => by
                   rcases STB.out.ow.form with ⟨rfl, _⟩ | ⟨g, cur, rfl, hg', _⟩
                   · cases hk
                   · cases hk; show _ ≤ g; omega)
                 have ob6 := STB.out.b5.below hB6 (by omega)
                 have s1 := ob6.cell 0
                 have sf1 := ob6.frozen 0
                 have sl6 := ob6.lt
                 simp at s1
                 clear hO2 hg6 hat6 ob6 hB6))
            go_roundw
            case rel => exact ⟨i + 1, k + 1, cO2, O2, l ++ [v], by omega, by omega, by go_num, ST6, by have := HF2.out; show _ = _; rw [List.append_assoc]; exact this⟩
            case measure => simp [intOf] <;> omega
          · go_wp2_with fail
            go_roundw
            case rel => exact ⟨i + 1, k, cO, O, l, by omega, by omega, by go_num, STQ, HF2⟩
            case measure => simp [intOf] <;> omega
        · have HFE : Hid (l = symF p.of r.of) := by
            have h1 := HF.out
            rw [List.drop_of_length_le (by rw [HL'.out]; omega)] at h1
            simpa [Hid] using h1
          have v3 : ¬ (i : Int) < (m : Int) := by omega
          have s50 := ST.out.b5.cell 0
          have s54 := ST.out.b5.lt
          simp at s50
          have hhi := ST.out.hi
          clear HF hx hy
          go_wp2_with fail
          refine (sort_own_ints (w.heap.size + 4) k cO O l wr ST.out.ow (by omega)).mono ?_
          rintro e w7 ⟨rfl, hO7, hg7⟩
          have hB7 : Below (w.heap.size + 4) wr w7 := (Below.refl _ _).grown hg7 hhi (fun k hk => by
            rcases ST.out.ow.form with ⟨rfl, _⟩ | ⟨g, cur, rfl, hg', _⟩
            · cases hk
            · cases hk; show _ ≤ g; omega)
          have c5 := ST.out.b5.below hB7 (by omega)
          have c4 := ST.out.b4.below hB7 (by omega)
          have t0 := c5.cell 0
          have t1 := c5.cell 1
          have t4 := c5.lt
          have r0 := c4.cell 0
          have r1 := c4.cell 1
          have r2 := c4.frozen 0
          have r3 := c4.frozen 1
          have r4 := c4.lt
          simp at t0 t1 r0 r1
          have HB := Lib.hid (ST.out.bl.trans (hB7.mono (by omega)))
          have g1 := grown_setCell w7 ⟨w.heap.size + 1 + 1, 0, none⟩ (.slice O k cO)
          have g2 := grown_setCell (w7.setCell ⟨w.heap.size + 1 + 1, 0, none⟩ (.slice O k cO)) ⟨w.heap.size + 1 + 1, 1, none⟩ (.bool (p.odd != r.odd))
          have hO8 := hO7.kept g1 (Own.ne_typed hO7 (Typed.of_blk c4) (by decide))
          have hO9 := Lib.hid (hO8.kept g2 (Own.ne_typed hO8 (Typed.of_blk (c4.set_ 0 (.slice O k cO))) (by decide)))
          clear hO7 hO8 g1 g2 hg7 hB7 c4 c5 ST s50 s54
          go_wp2_with fail
          exact bodyPost_ret (v := .agg #[.slice O k cO, .bool (p.odd != r.odd)]) (by simp [results, Tryz.results34, go_sem, r0, r1, r4]) rfl
            ⟨O, k, cO, rfl, by rw [HFE.out] at hO9; exact hO9.out.mono (by omega), below_put2 HB.out (g := w.heap.size + 1 + 1) (by omega) _ _⟩
end Go.Proofs.YtlfgcblijfflfaaGreat

/- Contract of slices.SortFunc at parities, by their first numbers: the same parities, in some order. -/
namespace Go.Proofs.YtlfgcblijfflfaaGreat
open Go.RowKit Go.Sort
set_option linter.unusedSimpArgs false
set_option linter.unusedVariables false

set_option maxHeartbeats 1000000 in
theorem cmp_par (A B : Option Addr) (n c m d : Nat) (xs ys : List Int) (o1 o2 : Bool) (a b : Int) (w : World) (h : Ints w A n c xs) (h' : Ints w B m d ys) (ha : xs[0]? = some a) (hb : ys[0]? = some b) :
    Calls Tryz.prog 36 #[.agg #[.slice A n c, .bool o1], .agg #[.slice B m d, .bool o2]] w (RetG (.int .i64 (cmpI a b)) w) := by
  have hn : 0 < n := by have h1 := h.len; have := (List.getElem?_eq_some_iff.1 ha).1; omega
  have hm : 0 < m := by have h1 := h'.len; have := (List.getElem?_eq_some_iff.1 hb).1; omega
  obtain ⟨b1, f1, y1, rfl, l1, c1, _, _, e1⟩ := h.round hn
  obtain ⟨b2, f2, y2, rfl, l2, c2, _, _, e2⟩ := h'.round hm
  obtain rfl : y1 = a := by have := e1.out; rw [ha] at this; exact (Option.some.inj this).symm
  obtain rfl : y2 = b := by have := e2.out; rw [hb] at this; exact (Option.some.inj this).symm
  rw [Nat.add_zero] at c1 c2
  have v1 : (0 : Int) < (n : Int) := by omega
  have v2 : (0 : Int) < (m : Int) := by omega
  clear h h' ha hb e1 e2
  go_enter Tryz.func36, Tryz.ntmps36
  go_wp2_with fail
  go_quiet ((go_at_call 37; exact RetQ.quiet (compare_any _ _ _)))
  all_goals go_wp2_with fail
  all_goals go_ret
  all_goals (refine ⟨rfl, nq, #[.cells #[.slice (some ⟨b1, f1, none⟩) n c, .bool o1] 39, .cells #[.slice (some ⟨b2, f2, none⟩) m d, .bool o2] 39], ?_⟩; rw [alloc_eq_grow, alloc_eq_grow, grow_grow]; rfl)

theorem sortK_eq {α : Type} [Inhabited α] (enc : α → List Value) (w : World) (g m : Nat) (dk : Array α) (os : Array Obj) : sortWorldK enc 2 w g 0 m dk os = sortWorld id w g 0 m (flatK enc 2 dk) os := rfl
theorem flatK_list {α : Type} [Inhabited α] (enc : α → List Value) (hk : ∀ x, (enc x).length = 2) (d : List α) : (flatK enc 2 d.toArray).toList = d.flatMap enc := by
  apply List.ext_getElem?
  intro t
  have hfl : ∀ l : List α, (l.flatMap enc).length = l.length * 2 := fun l => by
    induction l with
    | nil => rfl
    | cons a r ih => rw [List.flatMap_cons, List.length_append, ih, hk, List.length_cons]; omega
  have hat : ∀ (l : List α) (k j : Nat) (v : α), l[k]? = some v → j < 2 → (l.flatMap enc)[k * 2 + j]? = (enc v)[j]? := fun l => by
    induction l with
    | nil => intro k j v hv; simp at hv
    | cons a r ih =>
      intro k j v hv hj
      rw [List.flatMap_cons]
      cases k with
      | zero =>
        simp at hv
        subst hv
        rw [List.getElem?_append_left (by rw [hk]; omega), Nat.zero_mul, Nat.zero_add]
      | succ k =>
        rw [List.getElem?_append_right (by rw [hk]; omega), hk, show (k + 1) * 2 + j - 2 = k * 2 + j by omega]
        exact ih k j v (by simpa using hv) hj
  by_cases ht : t < d.length * 2
  · have h1 : t / 2 < d.length := by omega
    have h2 := hat d (t / 2) (t % 2) d[t / 2] (List.getElem?_eq_getElem h1) (by omega)
    rw [show t / 2 * 2 + t % 2 = t by omega] at h2
    rw [h2]
    have h3 : (enc d[t / 2])[t % 2]? = some (enc d[t / 2])[t % 2]! := by
      rw [List.getElem!_eq_getElem?_getD, List.getElem?_eq_getElem (by rw [hk]; omega)]; rfl
    rw [h3]
    simp [flatK, ht, h1]
  · rw [List.getElem?_eq_none (by simp; omega), List.getElem?_eq_none (by rw [hfl]; omega)]

/-- A parity of the row, apart from the row's block g. -/
structure PvV (w : World) (low g : Nat) where
  v : Pv
  p : Pr
  ho : v.2.2.2 = p.odd
  hi : Ints w v.1 v.2.1 v.2.2.1 p.of
  ha : Away 3 w low v.1 v.2.1
  hne : 0 < v.2.1 → blockOf v.1 = none ∨ blockOf v.1 ≠ some g
  h0 : p.of[0]? = some (pivot p)
def PvV.enc {w : World} {low g : Nat} (r : PvV w low g) : List Value := cells2 r.v
def pvCmp {w : World} {low g : Nat} (x y : PvV w low g) : Int := cmpI (pivot x.p) (pivot y.p)
theorem pv_lt {w : World} {low g : Nat} (x y : PvV w low g) : ltOf pvCmp x y = decide (pivot x.p < pivot y.p) := by
  unfold ltOf pvCmp cmpI
  by_cases h : pivot x.p < pivot y.p
  · simp [h]
  · by_cases h2 : pivot y.p < pivot x.p <;> simp [h, h2]
theorem pv_swo {w : World} {low g : Nat} : SWO (ltOf (pvCmp (w := w) (low := low) (g := g))) where
  irrefl x := by rw [pv_lt]; simp
  trans x y z h1 h2 := by rw [pv_lt] at *; simp at *; omega
  ntrans x y z h1 h2 := by rw [pv_lt] at *; simp at *; omega
theorem pv_lays (w : World) (low g size : Nat) [Inhabited (PvV w low g)] : CmpLays Tryz.prog 36 #[] (PvV.enc (w := w) (low := low) (g := g)) 2 pvCmp g 0 size w := fun m os dk _ x y => by
  have hg := sortWorld_grown id w g m (flatK PvV.enc 2 dk) os
  exact cmp_par x.v.1 y.v.1 x.v.2.1 x.v.2.2.1 y.v.2.1 y.v.2.2.1 x.p.of y.p.of x.v.2.2.2 y.v.2.2.2 (pivot x.p) (pivot y.p) (sortWorldK PvV.enc 2 w g 0 m dk os) (x.hi.kept0 hg x.hne) (y.hi.kept0 hg y.hne) x.h0 y.h0
theorem enters_ps : ∀ args w, (callFunc 36 args).run Tryz.prog w = .ok (.enter 36 args) w := enters_of Tryz.func36 (by kernel_rfl) rfl
theorem pv_list {Q : Pv → Pr → Prop} : ∀ (vs : List Pv) (ps : List Pr), vs.length = ps.length → (∀ (k : Nat) (v : Pv) (x : Pr), vs[k]? = some v → ps[k]? = some x → Q v x) → ∃ L : List { p : Pv × Pr // Q p.1 p.2 }, L.map (fun p => p.1.1) = vs ∧ L.map (fun p => p.1.2) = ps
  | [], [], _, _ => ⟨[], rfl, rfl⟩
  | [], _ :: _, h, _ => by simp at h
  | _ :: _, [], h, _ => by simp at h
  | v :: vs, x :: xss, h, hQ => by
    obtain ⟨L, h1, h2⟩ := pv_list vs xss (by simpa using h) (fun k v x hv hx => hQ (k + 1) v x (by simpa using hv) (by simpa using hx))
    exact ⟨⟨(v, x), hQ 0 v x rfl rfl⟩ :: L, by simp [h1], by simp [h2]⟩
theorem pivot_at {p : Pr} (h : p.of ≠ []) : p.of[0]? = some (pivot p) := by
  unfold pivot
  cases hp : p.of with
  | nil => exact absurd hp h
  | cons a t => rfl
theorem flatD {w : World} {base n d g : Nat} {xs : List Value} (h : OwnD w base (some ⟨g, 0, none⟩) n d xs) : xs.length = n * 2 := by have := h.1; omega
/-- The row holds what was sorted. -/
theorem ownD_sorted {α : Type} [Inhabited α] {w : World} {base g n c m : Nat} {xs : List Value} (h : OwnD w base (some ⟨g, 0, none⟩) n c xs) (F : Array Value) (hd : F.size = n * 2) (os : Array Obj) : OwnD (sortWorld id w g 0 m F os) base (some ⟨g, 0, none⟩) n c F.toList := by
  rcases h.form with ⟨h0, _⟩ | ⟨g', cur, h0, hg, hh, h1, h2, h3, h4⟩
  · cases h0
  · cases h0
    refine ⟨by simp [hd], .inr ⟨g, c, putCells id 0 F cur, rfl, hg, sortWorld_heap id w g m F os hh, h1, h2, by simp [putCells, h3], ?_⟩⟩
    have := putCells_take id F cur (by omega)
    rw [hd] at this
    simpa using this

set_option maxHeartbeats 1000000 in
theorem sort_prs (base low n d : Nat) (B : Option Addr) (ps : List Pr) (w : World) (h : OwnPr w base low B n d ps) (hlow : low ≤ base) (hn : n ≤ 1000000) (hne : ∀ p ∈ ps, p.of ≠ []) :
    Calls Tryz.prog 35 #[.slice B n d, .func (.func 36) #[] #[]] w fun e w' => e = .returned (.tuple #[]) ∧ w.grownBy w' (blockOf B) ∧ ∃ qs : List Pr, ps.Perm qs ∧ OwnPr w' base low B n d qs := by
  have hlen := h.len
  obtain ⟨vs, ho, hr⟩ := h
  rcases ho.form with ⟨rfl, rfl, rfl, h0⟩ | ⟨g, cur, rfl, hg, hh, hnd, hdm, hcs, _⟩
  · refine (Tryz.slices_SortFunc_none_f35 (α := Nat) none 0 _ w).mono ?_
    rintro e w' ⟨rfl, hw⟩
    rw [hw]
    exact ⟨rfl, World.grownBy.refl w _, ps, List.Perm.refl _, vs, ho, hr⟩
  · have hT : Typed 39 w g := ⟨cur, (0, 0), hh⟩
    obtain ⟨L, hL1, hL2⟩ := pv_list (Q := fun v x => ∃ r : PvV w low g, r.v = v ∧ r.p = x) vs ps hr.1 (fun k v x hv hx => by
      obtain ⟨e1, e2, e3⟩ := hr.2 k v x hv hx
      exact ⟨⟨v, x, e1, e2, e3, fun hp => (e3 hp).ne (Nat.le_trans hlow hg) hT (by decide), pivot_at (hne x (List.mem_of_getElem? hx))⟩, rfl, rfl⟩)
    obtain ⟨D, hD1, hD2⟩ : ∃ D : List (PvV w low g), D.map PvV.v = vs ∧ D.map PvV.p = ps := by
      refine ⟨L.map (fun p => p.2.choose), ?_, ?_⟩
      · rw [List.map_map, ← hL1]
        exact List.map_congr_left fun p _ => p.2.choose_spec.1
      · rw [List.map_map, ← hL2]
        exact List.map_congr_left fun p _ => p.2.choose_spec.2
    cases hDc : D with
    | nil =>
      rw [hDc] at hD2
      have hps : ps = [] := hD2.symm
      have hn0 : n = 0 := by rw [← hlen, hps]; rfl
      subst hn0
      refine (Tryz.slices_SortFunc_none_f35 (α := Nat) (some ⟨g, 0, none⟩) d _ w).mono ?_
      rintro e w' ⟨rfl, hw⟩
      rw [hw]
      exact ⟨rfl, World.grownBy.refl w _, ps, List.Perm.refl _, vs, ho, hr⟩
    | cons x0 _ =>
      haveI : Inhabited (PvV w low g) := ⟨x0⟩
      clear hDc
      have hsz : D.toArray.size = n := by rw [← hlen, ← hD2]; simp
      have hxs : vs.flatMap cells2 = D.flatMap PvV.enc := by rw [← hD1, List.flatMap_map]; rfl
      have hfl := flatK_list (PvV.enc (w := w) (low := low) (g := g)) (fun _ => rfl) D
      have hH : HoldsK PvV.enc 2 w g 0 D.toArray := by
        intro j hj
        refine ⟨?_, World.ownsRow.frozenAt ho (0 + j)⟩
        rw [size_flatK, hsz] at hj
        have h1 := World.ownsRow.cellAt ho j (by omega)
        rw [Nat.zero_add, h1, hxs, ← hfl, Array.getElem?_toList]
        have : j < (flatK PvV.enc 2 D.toArray).size := by rw [size_flatK, hsz]; omega
        rw [getElem?_pos (flatK PvV.enc 2 D.toArray) j this, getElem!_pos (flatK PvV.enc 2 D.toArray) j this]
        rfl
      have hcon := Tryz.slices_SortFunc_k_f35 2 (fun w => by kernel_rfl) (fun w => by kernel_rfl) PvV.enc (fun _ => rfl) (fun x v hv => by
        simp [PvV.enc, cells2] at hv
        rcases hv with rfl | rfl <;> rfl) pvCmp pv_swo 36 #[] g 0 d D.toArray w enters_ps (pv_lays w low g _) hH (heap_lt hh) (by omega)
      rw [hsz] at hcon
      refine hcon.mono ?_
      rintro e w' ⟨rfl, d', m, os, hp, _, rfl⟩
      obtain ⟨p1, p2⟩ := permIn_list hsz hp
      have hgr := sortWorld_grown id w g m (flatK PvV.enc 2 d') os
      have hfl' := flatK_list (PvV.enc (w := w) (low := low) (g := g)) (fun _ => rfl) d'.toList
      refine ⟨rfl, hgr, d'.toList.map PvV.p, ?_, d'.toList.map PvV.v, ?_, by simp, fun k v q hv hq => ?_⟩
      · have := p2.map PvV.p
        rw [show D.toArray.toList = D from rfl, hD2] at this
        exact this.symm
      · have := ownD_sorted (α := Nat) (m := m) ho (flatK PvV.enc 2 d') (by rw [size_flatK, p1]) os
        rw [show (flatK PvV.enc 2 d') = flatK PvV.enc 2 d'.toList.toArray by simp, hfl'] at this
        rw [List.flatMap_map]
        exact this
      · rw [List.getElem?_map, Option.map_eq_some_iff] at hv hq
        obtain ⟨r, hr1, rfl⟩ := hv
        obtain ⟨r', hr2, rfl⟩ := hq
        rw [hr1] at hr2
        cases hr2
        exact ⟨r.ho, r.hi.kept0 hgr r.hne, fun hp => (r.ha hp).kept hgr (r.hne hp)⟩
end Go.Proofs.YtlfgcblijfflfaaGreat

/- Contracts of par.Check (at parities that may be), par.clauses, par.Cnf; of models. -/
namespace Go.Proofs.YtlfgcblijfflfaaGreat
open Go.RowKit
set_option linter.unusedSimpArgs false
set_option linter.unusedVariables false

theorem int_info_q : (Tryz.prog.info? 3).map (fun i => (i.zero, i.size, i.bytes)) = some (some (.int .i64 0), 1, 8) := by kernel_rfl
theorem row_info_q : (Tryz.prog.info? 22).map (fun i => (i.zero, i.size, i.bytes)) = some (some (.slice none 0 0), 1, 24) := by kernel_rfl
/-- A parity in a row of its own. -/
theorem OwnPr.one {w : World} {base low n c b : Nat} {A : Option Addr} {p : Pr} (hb : b = w.heap.size) (hi : Ints w A n c p.of) (ha : Away 3 w low A n) (hB : base ≤ w.heap.size) : OwnPr (w.alloc (.cells #[.slice A n c, .bool p.odd] 39)) base low (some ⟨b, 0, none⟩) 1 1 [p] := by
  subst hb
  refine ⟨[(A, n, c, p.odd)], ⟨rfl, .inr ⟨w.heap.size, 1, #[.slice A n c, .bool p.odd], rfl, hB, heap_alloc_new w _, Nat.le_refl _, by simp [maxLen], rfl, rfl⟩⟩, rfl, fun k v q hv hq => ?_⟩
  have h0 := below_new w (.cells #[.slice A n c, .bool p.odd] 39)
  match k, hv, hq with
  | 0, hv, hq =>
    simp at hv hq
    subst hv hq
    exact ⟨rfl, hi.keep h0, ha.keep h0⟩
  | k + 1, hv, hq => simp at hv
theorem asc_len : ∀ (l : List Int) (lo hi : Int), Asc l → (∀ v ∈ l, lo < v ∧ v ≤ hi) → lo ≤ hi → (l.length : Int) ≤ hi - lo
  | [], lo, hi, _, _, h => by simp; omega
  | x :: t, lo, hi, ha, hv, h => by
    have hp := List.pairwise_cons.1 ha
    have hx := hv x (by simp)
    have := asc_len t x hi hp.2 (fun v hm => ⟨hp.1 v hm, (hv v (List.mem_cons_of_mem _ hm)).2⟩) hx.2
    rw [List.length_cons]
    omega
theorem fine_len {n : Nat} {p : Pr} (h : Fine n p) : p.of.length ≤ n := by
  have := asc_len p.of 0 n h.1 (fun v hv => by have := h.2 v hv; omega) (by omega)
  omega
theorem asc_at {l : List Int} (h : Asc l) {i j : Nat} {x y : Int} (hij : i < j) (hx : l[i]? = some x) (hy : l[j]? = some y) : x < y := by
  obtain ⟨h1, rfl⟩ := List.getElem?_eq_some_iff.1 hx
  obtain ⟨h2, rfl⟩ := List.getElem?_eq_some_iff.1 hy
  exact List.pairwise_iff_getElem.1 h i j h1 h2 hij

set_option maxHeartbeats 2000000 in
set_option maxRecDepth 100000 in
theorem check_par (B : Option Addr) (n d base low : Nat) (ps : List Pr) (w : World) (h : OwnPr w base low B n d ps) (hn : n ≤ 400) (hd : d ≤ 9223372036854775807) (hf : ∀ p ∈ ps, Fine 5 p) :
    Calls Tryz.prog 31 #[.int .i64 5, .slice B n d] w (RetV (.agg #[.int .i64 0, .int .i64 0]) w) := by
  have HP := Lib.hid h
  have HF := Lib.hid hf
  have hb0 := below_new w (.cells #[.int .i64 0, .int .i64 0] 28)
  have HB0 := Lib.hid hb0
  have hk : Hid (Blk (w.alloc (.cells #[.int .i64 0, .int .i64 0] 28)) w.heap.size 28 #[.int .i64 0, .int .i64 0]) := Blk.new _ _ _
  have v0 : ¬ (400 : Int) < (n : Int) := by omega
  have v00 : decide ((400 : Int) < (n : Int)) = false := decide_eq_false v0
  clear h hf hb0
  go_enter Tryz.func31, Tryz.ntmps31
  go_wp2_with fail
  go_loopw [24] (fun t24 wr => ∃ j : Nat, j ≤ n ∧ t24 = .int .i64 j ∧ Hid (Below w.heap.size w wr) ∧ Hid (Blk wr w.heap.size 28 #[.int .i64 0, .int .i64 0])) (fun q _ => n - (intOf q).toNat)
  case atStart => exact ⟨0, Nat.zero_le _, rfl, HB0, hk⟩
  case round =>
    clear HB0 hk
    obtain ⟨j, hj, rfl, HB, HK⟩ := hrel
    by_cases hjn : j < n
    · obtain ⟨g, A, m, c, p, rfl, _, hg, c0, c1, _, _, hi, ha, hp⟩ := (HP.out.keep HB.out).round hjn
      have hfp := HF.out p (List.mem_of_getElem? hp.out)
      have HFP := Lib.hid hfp
      have hml : Hid (p.of.length = m) := hi.len
      have hm5 : m ≤ 5 := by have h1 := fine_len hfp; rw [hml.out] at h1; exact h1
      have hbd := hi.bd
      have v1 : (j : Int) < (n : Int) := by omega
      have v2 : (0 : Int) ≤ (j : Int) := by omega
      obtain ⟨wo, hwo⟩ : ∃ wo : World, wo = wr := ⟨_, rfl⟩
      subst hwo
      obtain ⟨w1, hw1⟩ : ∃ z : World, z = wo.alloc (.cells #[.slice A m c, .bool p.odd] 39) := ⟨_, rfl⟩
      have hb1 : Below wo.heap.size wo w1 := by rw [hw1]; exact below_new _ _
      have HI1 := Lib.hid (hi.keep hb1)
      have HB1 := Lib.hid (below_next HB.out hb1)
      have HK1 := Lib.hid (HK.out.keep hb1)
      have KP : Hid (Blk w1 wo.heap.size 39 #[.slice A m c, .bool p.odd]) := by rw [hw1]; exact Blk.new _ _ _
      obtain ⟨bP, hbP⟩ : ∃ z : Nat, wo.heap.size = z := ⟨_, rfl⟩
      clear hi ha hp hfp HB HK
      go_wp2_with fail
      go_loopw [32] (fun t32 wr => ∃ k : Nat, k ≤ m ∧ t32 = .int .i64 k ∧ Hid (Below w1.heap.size w1 wr)) (fun q _ => m - (intOf q).toNat)
      case atStart => exact ⟨0, Nat.zero_le _, rfl, by show Below _ _ _; rw [hw1]; exact Below.refl _ _⟩
      case round =>
        rw [hbP] at KP
        clear hw1 hb1 hbP
        obtain ⟨k, hkm, rfl, HBK⟩ := hrel
        have hi := HI1.out.keep HBK.out
        have kp0 := (KP.out.keep HBK.out).cell 0
        have kp4 := (KP.out.keep HBK.out).lt
        simp at kp0
        by_cases hkn : k < m
        · obtain ⟨b, off, v, rfl, hbv, hcv, _, _, hv⟩ := hi.round hkn
          have hv5 := HFP.out.2 v (List.mem_of_getElem? hv.out)
          have v3 : (k : Int) < (m : Int) := by omega
          have v4 : (0 : Int) ≤ (k : Int) := by omega
          have d1 : ¬ v < 1 := by omega
          have d2 : ¬ (5 : Int) < v := by omega
          by_cases hk0 : k = 0
          · subst hk0
            rw [Nat.add_zero] at hcv
            clear hv hi
            go_wp2_with fail
            go_roundw
            case rel => exact ⟨0 + 1, by omega, by go_num, HBK⟩
            case measure => simp [intOf] <;> omega
          · have d3 : (0 : Int) < (k : Int) := by omega
            obtain ⟨_, _, u, e1, _, hcu, _, _, hu⟩ := hi.round (k := k - 1) (by omega)
            cases e1
            have huv : u < v := asc_at HFP.out.1 (by omega) hu.out hv.out
            have d4 : ¬ v ≤ u := by omega
            have v5 : (k : Int) - 1 < (m : Int) := by omega
            have v6 : (0 : Int) ≤ (k : Int) - 1 := by omega
            have hsub : ((k : Int) - 1).toNat = k - 1 := by omega
            clear hv hu hi
            go_wp2_with fail
            go_roundw
            case rel => exact ⟨k + 1, by omega, by go_num, HBK⟩
            case measure => simp [intOf] <;> omega
        · have v3 : ¬ (k : Int) < (m : Int) := by omega
          clear hi
          go_wp2_with fail
          go_roundw
          case rel => exact ⟨j + 1, by omega, by go_num, below_next HB1.out HBK.out, HK1.out.keep HBK.out⟩
          case measure => simp [intOf] <;> omega
    · have v1 : ¬ (j : Int) < (n : Int) := by omega
      have r0 := HK.out.cell 0
      have r1 := HK.out.cell 1
      have r2 := HK.out.frozen 0
      have r3 := HK.out.frozen 1
      have r4 := HK.out.lt
      simp at r0 r1
      go_wp2_with fail
      exact bodyPost_ret (v := .agg #[.int .i64 0, .int .i64 0]) (by simp [results, Tryz.results31, go_sem, r0, r1, r4]) rfl
        ⟨rfl, below_put2 HB.out (g := w.heap.size) (Nat.le_refl _) _ _⟩
end Go.Proofs.YtlfgcblijfflfaaGreat

/- Contract of par.Solve at parities of five variables. (Printed by wip/tools/parsolve.py.) -/
namespace Go.Proofs.YtlfgcblijfflfaaGreat
open Go.RowKit
set_option linter.unusedSimpArgs false
set_option linter.unusedVariables false

/-- What Solve tells: none can hold, or an assignment that Gauss's rows give. -/
def RetSolve (ps : List Pr) (w : World) (e : Ending) (w' : World) : Prop :=
  ∃ (st : Int) (R : Option Addr) (nr dr : Nat) (X : Option Addr) (nx dx : Nat), e = .returned (.tuple #[.int .i64 st, .slice R nr dr, .slice X nx dx, .agg #[.int .i64 0, .int .i64 0]]) ∧ Below w.heap.size w w' ∧
    ((st = 2 ∧ solveF ps [] = none) ∨ (st = 1 ∧ nx = 5 ∧ ∃ qs : List Pr, Own 4 w' w.heap.size X nx dx ((assignF 5 qs).map Value.bool) ∧ ∃ rows, solveF ps [] = some rows ∧ rows.Perm qs))

set_option maxHeartbeats 8000000 in
set_option maxRecDepth 100000 in
theorem solve_any (B : Option Addr) (n d base low : Nat) (ps : List Pr) (w : World) (h : OwnPr w base low B n d ps) (hn : n ≤ 4) (hd : d ≤ 9223372036854775807) (hf : ∀ p ∈ ps, Fine 5 p) :
    Calls Tryz.prog 13 #[.int .i64 5, .slice B n d] w (RetSolve ps w) := by
  obtain ⟨FF, hFF⟩ : ∃ z, Hid (solveF ps [] = z) := ⟨_, rfl⟩
  have HPL := Lib.hid h.len
  have HPP := Lib.hid h
  have HFA := Lib.hid hf
  obtain ⟨l0, hl0, hx0, hx1, hx2⟩ := info_parts par_info
  obtain ⟨w1, hw1⟩ : ∃ z : World, z = w.alloc (.cells #[.int .i64 0, .int .i64 0] 28) := ⟨_, rfl⟩
  have hb1 : Below w.heap.size w w1 := by rw [hw1]; exact below_new _ _
  have K1 : Hid (Blk w1 w.heap.size 28 #[.int .i64 0, .int .i64 0]) := by rw [hw1]; exact Blk.new _ _ _
  have HP1 := Lib.hid (h.keep hb1)
  have HB1 := Lib.hid hb1
  have hs1 : w.heap.size + 1 ≤ w1.heap.size := by rw [hw1]; simp
  have HS1 := Lib.hid hs1
  unfold RetSolve
  rw [hFF.out]
  clear h hf hb1 hs1
  go_enter Tryz.func13, Tryz.ntmps13
  go_wp2_with fail
  rw [← hw1]
  clear hw1
  refine (check_par B n d base low ps w1 HP1.out (by omega) hd HFA.out).mono ?_
  rintro e w2 ⟨rfl, hb2⟩
  obtain ⟨w3, hw3⟩ : ∃ z : World, z = w2.alloc (.cells #[.int .i64 0, .int .i64 0] 28) := ⟨_, rfl⟩
  have hb3 : Below w2.heap.size w2 w3 := by rw [hw3]; exact below_new _ _
  have HBS := Lib.hid (below_next (below_next HB1.out hb2) hb3)
  have HKS := Lib.hid ((K1.out.keep hb2).keep hb3)
  have HSS : Hid (w.heap.size + 1 ≤ w3.heap.size) := by show _ ≤ _; have := hb2.size; have := hb3.size; have := HS1.out; omega
  clear hb2 hb3 HB1 K1 HP1 HS1
  go_wp2_with fail
  go_loopw [9, 28] (fun t9 t28 wr => ∃ (i k dR : Nat) (R : Option Addr) (rows : List Pr), i ≤ n ∧ k ≤ i ∧ t28 = .int .i64 i ∧ t9 = .slice R k dR ∧ Hid (Below w.heap.size w wr) ∧ Hid (Blk wr w.heap.size 28 #[.int .i64 0, .int .i64 0]) ∧ Hid (OwnPr wr (w.heap.size + 1) (w.heap.size + 1) R k dR rows) ∧ Hid (Ech 5 rows) ∧ Hid (solveF (ps.drop i) rows = FF) ∧ Hid (w.heap.size + 1 ≤ wr.heap.size)) (fun _ q _ => n - (intOf q).toNat)
  case atStart => exact ⟨0, 0, 0, none, [], Nat.zero_le _, Nat.le_refl _, rfl, rfl, by rw [← hw3]; exact HBS, by rw [← hw3]; exact HKS, OwnPr.nil _ _ _, Ech.nil 5, hFF, by rw [← hw3]; exact HSS⟩
  case round =>
    clear HBS HKS HSS hFF hw3
    obtain ⟨i, k, dR, R, rows, hi, hk, rfl, rfl, HBL, HK7, HRW, HE, HSO, HSZ⟩ := hrel
    have HRL : Hid (rows.length = k) := HRW.out.len
    by_cases hin : i < n
    · obtain ⟨g0, A0, n0, cc0, p, rfl, _, hg0, z0, z1, _, _, hi0, _, hp⟩ := (HPP.out.keep HBL.out).round hin
      have HPS := Lib.hid hp.out
      have HFP := Lib.hid (HFA.out p (List.mem_of_getElem? hp.out))
      have hn0l : Hid (p.of.length = n0) := hi0.len
      have hn05 : n0 ≤ 5 := by have h1 := fine_len HFP.out; rw [hn0l.out] at h1; exact h1
      have hbd0 := hi0.bd
      have v1 : (i : Int) < (n : Int) := by omega
      have v2 : (0 : Int) ≤ (i : Int) := by omega
      obtain ⟨wo, hwo⟩ : ∃ wo : World, wo = wr := ⟨_, rfl⟩
      subst hwo
      obtain ⟨w4, hw4⟩ : ∃ z : World, z = wo.alloc (.cells #[.slice A0 n0 cc0, .bool p.odd] 39) := ⟨_, rfl⟩
      have hb4 : Below wo.heap.size wo w4 := by rw [hw4]; exact below_new _ _
      have K4 : Hid (Blk w4 wo.heap.size 39 #[.slice A0 n0 cc0, .bool p.odd]) := by rw [hw4]; exact Blk.new _ _ _
      have HI4 := Lib.hid (hi0.keep hb4)
      have HB4 := Lib.hid hb4
      have hsz := HSZ.out
      have HGW : Hid (∀ g, R = some ⟨g, 0, none⟩ → g < wo.heap.size) := fun g hg => by
        obtain ⟨vs, ho, _⟩ := HRW.out
        rcases ho.form with ⟨h0, _⟩ | ⟨g', cur, h0, _, hh, _⟩
        · rw [h0] at hg; cases hg
        · rw [h0] at hg; cases hg; exact heap_lt hh
      obtain ⟨bP, hbP⟩ : ∃ z : Nat, wo.heap.size = z := ⟨_, rfl⟩
      have HBW : Hid (wo.heap.size ≤ bP) := by show _ ≤ _; omega
      have HBP : Hid ((w.heap.size + 1) ≤ bP) := by show _ ≤ _; omega
      rw [hbP] at K4
      clear hi0 hp hb4
      go_wp2_with fail
      try rw [← hw4]
      clear hw4 z0 z1 hg0 hbP
      refine (clone_ints A0 n0 cc0 p.of w4 HI4.out (by omega)).mono ?_
      rintro e w5 ⟨P0, m0, c0, rfl, hP0, hb5⟩
      have k5 := K4.out.keep hb5
      have k50 := k5.cell 0
      have k51 := k5.cell 1
      have k52 := k5.frozen 0
      have k54 := k5.lt
      simp at k50 k51
      have hpi : Ints w5 P0 m0 c0 p.of := hP0.ints (fun x hx => by have := HFP.out.2 x hx; unfold I64; omega)
      have g1 := grown_setCell w5 ⟨bP, 0, none⟩ (.slice P0 m0 c0)
      have hbp := HBP.out
      have A1 := away_kept hpi (Away.own (low := (w.heap.size + 1)) hP0) g1 (fun z hz => by cases hz; exact ⟨hbp, Typed.of_blk k5⟩) (by decide)
      have HPI := Lib.hid A1.1
      have HPA := Lib.hid A1.2
      have HKP : Hid (Blk (w5.setCell ⟨bP, 0, none⟩ (.slice P0 m0 c0)) bP 39 #[.slice P0 m0 c0, .bool p.odd]) := by have := k5.set_ 0 (.slice P0 m0 c0); simpa [Hid] using this
      have HLT2 : Hid (bP < (w5.setCell ⟨bP, 0, none⟩ (.slice P0 m0 c0)).heap.size) := HKP.out.lt
      have HB2 : Hid (Below wo.heap.size wo (w5.setCell ⟨bP, 0, none⟩ (.slice P0 m0 c0))) := (below_next HB4.out hb5).setCell (p := ⟨bP, 0, none⟩) HBW.out _
      clear hpi g1 A1 hP0 hb5 k5 K4 HI4 HB4
      go_wp2_with fail
      go_loopw [38] (fun t38 wr => ∃ (j m c : Nat) (P : Option Addr) (q : Pr), j ≤ k ∧ t38 = .int .i64 j ∧ Hid (Below wo.heap.size wo wr) ∧ Hid (bP < wr.heap.size) ∧ Hid (Blk wr bP 39 #[.slice P m c, .bool q.odd]) ∧ Hid (Ints wr P m c q.of) ∧ Hid (Away 3 wr (w.heap.size + 1) P m) ∧ Hid (Fine 5 q) ∧ Hid (redF (rows.drop j) q = redF rows p)) (fun q _ => k - (intOf q).toNat)
      case atStart => exact ⟨0, m0, c0, P0, p, Nat.zero_le _, rfl, HB2, HLT2, HKP, HPI, HPA, HFP, rfl⟩
      case round =>
        clear HB2 HLT2 HKP HPI HPA
        obtain ⟨j, m, c, P, q, hj, rfl, HB2, HLT2, HKP, HPI, HPA, HFQ, HRD⟩ := hrel
        have kp0 := HKP.out.cell 0
        have kp1 := HKP.out.cell 1
        have kp2 := HKP.out.frozen 0
        have kp3 := HKP.out.frozen 1
        have kp4 := HKP.out.lt
        simp at kp0 kp1
        have hml : Hid (q.of.length = m) := HPI.out.len
        have hm5 : m ≤ 5 := by have h1 := fine_len HFQ.out; rw [hml.out] at h1; exact h1
        have hbdm := HPI.out.bd
        by_cases hjk : j < k
        · obtain ⟨g, A, n1, c1, r, rfl, _, hg, x0, x1, _, _, hi, ha, hr⟩ := (HRW.out.keep HB2.out).round hjk
          have her := HE.out.fine r (List.mem_of_getElem? hr.out)
          have HER := Lib.hid her
          have hnl : Hid (r.of.length = n1) := hi.len
          have hn5 : n1 ≤ 5 := by have h1 := fine_len her.1; rw [hnl.out] at h1; exact h1
          have hn0 : 0 < n1 := by have h1 := List.length_pos_iff.2 her.2; rw [hnl.out] at h1; exact h1
          obtain ⟨b, off, v, rfl, hb, hcv, _, _, hv⟩ := hi.round hn0
          have hvp : Hid (v = pivot r) := by have h1 := pivot_at her.2; have h2 := hv.out; rw [h1] at h2; exact (Option.some.inj h2).symm
          rw [Nat.add_zero] at hcv
          have hbdn := hi.bd
          obtain ⟨t, ht⟩ : ∃ t, Hid (hasB q.of v = t) := ⟨_, rfl⟩
          have HRD2 : Hid (redF (rows.drop (j + 1)) (if t then sumF q r else q) = redF rows p) := by
            have h1 := HRD.out
            rw [drop_cons_of hr.out] at h1
            have h2 : redF (r :: rows.drop (j + 1)) q = redF (rows.drop (j + 1)) (if hasB q.of (pivot r) then sumF q r else q) := rfl
            rw [h2, ← hvp.out, ht.out] at h1
            exact h1
          have v1 : (j : Int) < (k : Int) := by omega
          have v2 : (0 : Int) ≤ (j : Int) := by omega
          have v3 : (0 : Int) < (n1 : Int) := by omega
          have HII := Lib.hid hi
          obtain ⟨w1, hw1⟩ : ∃ z : World, z = wr.alloc (.cells #[.slice (some ⟨b, off, none⟩) n1 c1, .bool r.odd] 39) := ⟨_, rfl⟩
          have hb1 : Below wr.heap.size wr w1 := by rw [hw1]; exact below_new _ _
          clear hr her hi ha hv HRD
          go_wp2_with fail
          go_quiet ((go_at_call 33; exact RetQ.quiet (contains_ints P m c q.of v _ ((HPI.out.keep (below_new _ _)).keep (below_drewN _ _)) t ht)))
          obtain ⟨wq, hwq⟩ : ∃ z : World, z = w1.drewN nq := ⟨_, rfl⟩
          have hbq : Below wr.heap.size wr wq := by rw [hwq]; exact below_next hb1 (below_drewN _ _)
          have KT : Hid (Blk wq wr.heap.size 39 #[.slice (some ⟨b, off, none⟩) n1 c1, .bool r.odd]) := by rw [hwq, hw1]; exact (Blk.new _ _ _).keep (below_drewN _ _)
          have HB3 := Lib.hid (below_next HB2.out hbq)
          have HKQ := Lib.hid (HKP.out.keep hbq)
          have HPIQ := Lib.hid (HPI.out.keep hbq)
          have HPAQ := Lib.hid (HPA.out.keep hbq)
          have HIIQ := Lib.hid (HII.out.keep hbq)
          have hlq : Hid (bP < wq.heap.size) := HKQ.out.lt
          try rw [← hw1]
          try rw [← hwq]
          obtain ⟨bT, hbT⟩ : ∃ z : Nat, wr.heap.size = z := ⟨_, rfl⟩
          rw [hbT] at KT
          clear hw1 hwq hb1 hbq HKP HPI HPA HII kp0 kp1 kp2 kp3 kp4 HB2 HLT2 x0 x1 hcv hb hg
          cases t
          · go_wp2_with fail
            go_roundw
            case rel => exact ⟨j + 1, m, c, P, q, by omega, by go_num, HB3, hlq, HKQ, HPIQ, HPAQ, HFQ, HRD2⟩
            case measure => simp [intOf] <;> omega
          · have kq0 := HKQ.out.cell 0
            have kq1 := HKQ.out.cell 1
            have kt0 := KT.out.cell 0
            have kt1 := KT.out.cell 1
            have kt4 := KT.out.lt
            have kq4 := HKQ.out.lt
            simp at kq0 kq1 kt0 kt1
            try rw [hbT]
            go_wp2_with fail
            refine (sum_any P (some ⟨b, off, none⟩) m c n1 c1 q r wq HPIQ.out HIIQ.out (by omega) (by omega)).mono ?_
            rintro e w5 ⟨Q, mq, cq, rfl, hoq, hb5⟩
            have HK5 := HKQ.out.keep hb5
            have k50 := HK5.cell 0
            have k51 := HK5.cell 1
            have k52 := HK5.frozen 0
            have k53 := HK5.frozen 1
            have k54 := HK5.lt
            simp at k50 k51
            have HFS := Lib.hid (HFQ.out.sum HER.out.1)
            have hqi : Ints w5 Q mq cq (sumF q r).of := hoq.ints (fun x hx => by have := HFS.out.2 x hx; unfold I64; omega)
            have g1 := grown_setCell w5 ⟨bP, 0, none⟩ (.slice Q mq cq)
            have g2 := grown_setCell (w5.setCell ⟨bP, 0, none⟩ (.slice Q mq cq)) ⟨bP, 1, none⟩ (.bool (q.odd != r.odd))
            have T1 := Typed.of_blk HK5
            have T2 := Typed.of_blk (HK5.set_ 0 (.slice Q mq cq))
            have hbp := HBP.out
            have A1 := away_kept hqi (Away.own (low := (w.heap.size + 1)) hoq) g1 (fun z hz => by cases hz; exact ⟨by show _ ≤ bP; omega, T1⟩) (by decide)
            have A2 := away_kept A1.1 A1.2 g2 (fun z hz => by cases hz; exact ⟨by show _ ≤ bP; omega, T2⟩) (by decide)
            have HI6 := Lib.hid A2.1
            have HA6 := Lib.hid A2.2
            have HB6 := Lib.hid (below_put2 (below_next HB3.out hb5) (g := bP) HBW.out (.slice Q mq cq) (.bool (q.odd != r.odd)))
            have HK6 : Hid (Blk ((w5.setCell ⟨bP, 0, none⟩ (.slice Q mq cq)).setCell ⟨bP, 1, none⟩ (.bool (q.odd != r.odd))) bP 39 #[.slice Q mq cq, .bool (sumF q r).odd]) := by
              have := (HK5.set_ 0 (.slice Q mq cq)).set_ 1 (.bool (q.odd != r.odd))
              simpa [Hid, sumF] using this
            have hl6 : Hid (bP < ((w5.setCell ⟨bP, 0, none⟩ (.slice Q mq cq)).setCell ⟨bP, 1, none⟩ (.bool (q.odd != r.odd))).heap.size) := HK6.out.lt
            clear hqi hoq g1 g2 T1 T2 A1 A2 HK5 hb5 HKQ HPIQ HPAQ HIIQ kq0 kq1 kt0 kt1 kt4 kq4 HB3 KT
            go_wp2_with fail
            go_roundw
            case rel => exact ⟨j + 1, mq, cq, Q, sumF q r, by omega, by go_num, HB6, hl6, HK6, HI6, HA6, HFS, HRD2⟩
            case measure => simp [intOf] <;> omega
        · have HQE : Hid (q = redF rows p) := by
            have h1 := HRD.out
            rw [List.drop_of_length_le (by rw [HRL.out]; omega)] at h1
            exact h1
          have v1 : ¬ (j : Int) < (k : Int) := by omega
          clear HRD
          by_cases h0 : m = 0
          · skip
            obtain rfl : m = 0 := h0
            have hqn : q.of = [] := List.eq_nil_of_length_eq_zero hml.out
            have hro : (redF rows p).of = [] := by rw [← HQE.out]; exact hqn
            obtain ⟨o, ho⟩ : ∃ o : Bool, q.odd = o := ⟨_, rfl⟩
            have hoo : (redF rows p).odd = o := by rw [← HQE.out]; exact ho
            rw [ho] at kp1
            have HSV := HSO.out
            rw [drop_cons_of HPS.out, solveF, if_pos hro, hoo] at HSV
            cases o
            · have HSV2 : Hid (solveF (ps.drop (i + 1)) rows = FF) := by simpa [Hid] using HSV
              have HRW2 := Lib.hid (HRW.out.keep HB2.out)
              have HK72 := Lib.hid (HK7.out.keep HB2.out)
              have HBL2 := Lib.hid (below_next HBL.out HB2.out)
              have hz2 := HB2.out.size
              have hz3 := HSZ.out
              clear HSV hoo hro ho HQE
              go_wp2_with fail
              go_roundw
              case rel => exact ⟨i + 1, k, dR, R, rows, by omega, by omega, by go_num, rfl, HBL2, HK72, HRW2, HE, HSV2, by show _ ≤ _; omega⟩
              case measure => simp [intOf] <;> omega
            · have HSV2 : Hid (none = FF) := by simpa [Hid] using HSV
              have HK72 := Lib.hid (HK7.out.keep HB2.out)
              have HBL2 := Lib.hid (below_next HBL.out HB2.out)
              have hz2 := HB2.out.size
              have hz3 := HSZ.out
              have r0 := HK72.out.cell 0
              have r1 := HK72.out.cell 1
              have r2 := HK72.out.frozen 0
              have r3 := HK72.out.frozen 1
              have r4 := HK72.out.lt
              simp at r0 r1
              clear HSV hoo hro ho HQE
              go_wp2_with fail
              exact bodyPost_ret (v := .tuple #[.int .i64 2, .slice (some ⟨wr.heap.size, 0, none⟩) 1 1, .slice none 0 0, .agg #[.int .i64 0, .int .i64 0]]) (by simp [results, Tryz.results13, go_sem, r0, r1, r4]) rfl
                ⟨2, some ⟨wr.heap.size, 0, none⟩, 1, 1, none, 0, 0, rfl, below_alloc (below_put2 HBL2.out (g := w.heap.size) (Nat.le_refl _) _ _) _, Or.inl ⟨rfl, HSV2.out.symm⟩⟩
          · skip
            have hqn : q.of ≠ [] := fun e => h0 (by rw [← hml.out, e]; rfl)
            have hm0 : 0 < m := by omega
            obtain ⟨bq, oq, vq, rfl, hbq, hcq, _, _, hvq⟩ := HPI.out.round hm0
            have hvp : Hid (vq = pivot q) := by have h1 := pivot_at hqn; have h2 := hvq.out; rw [h1] at h2; exact (Option.some.inj h2).symm
            rw [Nat.add_zero] at hcq
            have hspec := redF_spec rows p [] HE.out HFP.out (by simp)
            rw [← HQE.out] at hspec
            have HNO : Hid (∀ r ∈ rows, pivot r ∉ q.of) := hspec.2.2.1
            have HSV2 : Hid (solveF (ps.drop (i + 1)) (rows.map (putF q) ++ [q]) = FF) := by
              have h1 := HSO.out
              rw [drop_cons_of HPS.out, solveF, ← HQE.out, if_neg hqn] at h1
              exact h1
            have HE2 : Hid (Ech 5 (rows.map (putF q) ++ [q])) := HE.out.put HFQ.out hqn HNO.out
            have HRW2 : Hid (OwnPr wr (w.heap.size + 1) (w.heap.size + 1) R k dR ((rows.take 0).map (putF q) ++ rows.drop 0)) := HRW.out.keep HB2.out
            have HK72 := Lib.hid (HK7.out.keep HB2.out)
            have HBL2 := Lib.hid (below_next HBL.out HB2.out)
            have hz2 := HB2.out.size
            have hz3 := HSZ.out
            have HQN := Lib.hid hqn
            have v5 : (0 : Int) < (m : Int) := by omega
            have d0 : ((m : Int) == 0) = false := beq_eq_false_iff_ne.2 (by omega)
            obtain ⟨w3, hw3⟩ : ∃ z : World, z = wr := ⟨_, rfl⟩
            subst hw3
            clear HSO HQE hspec hqn hvq HRW HK7 HBL
            go_wp2_with fail
            go_loopw [64] (fun t64 wr => ∃ j : Nat, j ≤ k ∧ t64 = .int .i64 j ∧ Hid (Below w.heap.size w wr) ∧ Hid (w3.heap.size ≤ wr.heap.size) ∧ Hid (Blk wr w.heap.size 28 #[.int .i64 0, .int .i64 0]) ∧ Hid (Blk wr bP 39 #[.slice (some ⟨bq, oq, none⟩) m c, .bool q.odd]) ∧ Hid (Ints wr (some ⟨bq, oq, none⟩) m c q.of) ∧ Hid (Away 3 wr (w.heap.size + 1) (some ⟨bq, oq, none⟩) m) ∧ Hid (OwnPr wr (w.heap.size + 1) (w.heap.size + 1) R k dR ((rows.take j).map (putF q) ++ rows.drop j)) ∧ Hid (∀ g, R = some ⟨g, 0, none⟩ → g < wo.heap.size)) (fun q _ => k - (intOf q).toNat)
            case atStart => exact ⟨0, Nat.zero_le _, rfl, HBL2, Nat.le_refl _, HK72, HKP, HPI, HPA, HRW2, HGW⟩
            case round =>
              clear HBL2 HK72 HKP HPI HPA HRW2 kp0 kp1 kp2 kp3 kp4 hcq hbq
              obtain ⟨j, hj, rfl, HBL3, HZ3, HK73, HKP, HPI, HPA, HRW3, HGW⟩ := hrel
              have kp0 := HKP.out.cell 0
              have kp1 := HKP.out.cell 1
              have kp4 := HKP.out.lt
              simp at kp0 kp1
              by_cases hjk : j < k
              · obtain ⟨r, hr⟩ : ∃ r, rows[j]? = some r := ⟨_, List.getElem?_eq_getElem (by rw [HRL.out]; exact hjk)⟩
                obtain ⟨g, A, n1, c1, r', hRg, hbg, hg, x0, x1, x2, x3, hi, ha, hr'⟩ := HRW3.out.round hjk
                subst hRg
                obtain rfl : r' = r := by
                  have h1 := hr'.out
                  rw [List.getElem?_append_right (by rw [List.length_map, List.length_take]; omega), List.length_map, List.length_take, Nat.min_eq_left (by rw [HRL.out]; omega), Nat.sub_self, drop_cons_of hr] at h1
                  exact (Option.some.inj h1).symm
                have HRR := Lib.hid hr
                have hgw := HGW.out g rfl
                have her := HE.out.fine r' (List.mem_of_getElem? hr)
                have HER := Lib.hid her
                have hnl : Hid (r'.of.length = n1) := hi.len
                have hn5 : n1 ≤ 5 := by have h1 := fine_len her.1; rw [hnl.out] at h1; exact h1
                have hbdn := hi.bd
                obtain ⟨bq', oq', vq', e9, hbq, hcq, _, _, hvq⟩ := HPI.out.round hm0
                cases e9
                obtain rfl : vq' = vq := by have h1 := pivot_at HQN.out; have h2 := hvq.out; rw [h1] at h2; rw [hvp.out]; exact (Option.some.inj h2).symm
                rw [Nat.add_zero] at hcq
                obtain ⟨t, ht⟩ : ∃ t, Hid (hasB r'.of vq' = t) := ⟨_, rfl⟩
                have HPF : Hid (putF q r' = if t then sumF r' q else r') := by show _ = _; unfold putF; rw [← hvp.out, ht.out]
                have HTK : Hid ((rows.take (j + 1)).map (putF q) ++ rows.drop (j + 1) = ((rows.take j).map (putF q) ++ rows.drop j).set j (putF q r')) := by
                  show _ = _
                  rw [List.set_append_right _ _ (by rw [List.length_map, List.length_take]; omega), List.length_map, List.length_take, Nat.min_eq_left (by rw [HRL.out]; omega), Nat.sub_self, take_snoc_of hr, List.map_append, drop_cons_of hr, List.set_cons_zero, List.append_assoc]
                  rfl
                have v1 : (j : Int) < (k : Int) := by omega
                have v2 : (0 : Int) ≤ (j : Int) := by omega
                have HII := Lib.hid hi
                obtain ⟨w1, hw1⟩ : ∃ z : World, z = wr.alloc (.cells #[.slice A n1 c1, .bool r'.odd] 39) := ⟨_, rfl⟩
                have hb1 : Below wr.heap.size wr w1 := by rw [hw1]; exact below_new _ _
                have hbw := HBW.out
                clear hr her hi ha hr' hvq
                go_wp2_with fail
                go_quiet ((go_at_call 33; exact RetQ.quiet (contains_ints A n1 c1 r'.of vq' _ ((HII.out.keep (below_new _ _)).keep (below_drewN _ _)) t ht)))
                obtain ⟨wq, hwq⟩ : ∃ z : World, z = w1.drewN nq := ⟨_, rfl⟩
                have hbq2 : Below wr.heap.size wr wq := by rw [hwq]; exact below_next hb1 (below_drewN _ _)
                have KT : Hid (Blk wq wr.heap.size 39 #[.slice A n1 c1, .bool r'.odd]) := by rw [hwq, hw1]; exact (Blk.new _ _ _).keep (below_drewN _ _)
                have HBQ := Lib.hid (below_next HBL3.out hbq2)
                have HK7Q := Lib.hid (HK73.out.keep hbq2)
                have HKQ := Lib.hid (HKP.out.keep hbq2)
                have HPIQ := Lib.hid (HPI.out.keep hbq2)
                have HPAQ := Lib.hid (HPA.out.keep hbq2)
                have HIIQ := Lib.hid (HII.out.keep hbq2)
                have HRWQ := Lib.hid (HRW3.out.keep hbq2)
                have hzq := hbq2.size
                have hz9 := HZ3.out
                try rw [← hw1]
                try rw [← hwq]
                obtain ⟨bT, hbT⟩ : ∃ z : Nat, wr.heap.size = z := ⟨_, rfl⟩
                rw [hbT] at KT
                clear hw1 hwq hb1 hbq2 HKP HPI HPA HII HRW3 HBL3 HK73 kp0 kp1 kp4 x0 x1 x2 x3 hcq hbq hg
                cases t
                · have HRW4 : Hid (OwnPr wq (w.heap.size + 1) (w.heap.size + 1) (some ⟨g, 0, none⟩) k dR ((rows.take (j + 1)).map (putF q) ++ rows.drop (j + 1))) := by
                    show OwnPr _ _ _ _ _ _ _
                    rw [HTK.out]
                    have h1 := HRWQ.out
                    have hset : ((rows.take j).map (putF q) ++ rows.drop j).set j (putF q r') = (rows.take j).map (putF q) ++ rows.drop j := by
                      rw [HPF.out]
                      apply List.ext_getElem?
                      intro z
                      by_cases hz : j = z
                      · subst hz
                        obtain ⟨_, _, _, _, r2, _, _, _, _, _, _, _, _, _, hr2⟩ := h1.round hjk
                        have h2 := hr2.out
                        rw [List.getElem?_set_self (by have := h1.len; omega)]
                        have h4 : (rows.drop j) = r' :: rows.drop (j + 1) := drop_cons_of HRR.out
                        rw [List.getElem?_append_right (by rw [List.length_map, List.length_take]; omega), List.length_map, List.length_take, Nat.min_eq_left (by rw [HRL.out]; omega), Nat.sub_self, h4]
                        rfl
                      · rw [List.getElem?_set_ne hz]
                    rw [hset]
                    exact h1
                  go_wp2_with fail
                  go_roundw
                  case rel => exact ⟨j + 1, by omega, by go_num, HBQ, by show _ ≤ _; omega, HK7Q, HKQ, HPIQ, HPAQ, HRW4, HGW⟩
                  case measure => simp [intOf] <;> omega
                · have kq0 := HKQ.out.cell 0
                  have kq1 := HKQ.out.cell 1
                  have kt0 := KT.out.cell 0
                  have kt1 := KT.out.cell 1
                  have kt4 := KT.out.lt
                  have kq4 := HKQ.out.lt
                  simp at kq0 kq1 kt0 kt1
                  try rw [hbT]
                  go_wp2_with fail
                  refine (sum_any A (some ⟨bq, oq, none⟩) n1 c1 m c r' q wq HIIQ.out HPIQ.out (by omega) (by omega)).mono ?_
                  rintro e w5 ⟨Q, mq, cq, rfl, hoq, hb5⟩
                  have HFS := Lib.hid (HER.out.1.sum HFQ.out)
                  have hqi : Ints w5 Q mq cq (sumF r' q).of := hoq.ints (fun x hx => by have := HFS.out.2 x hx; unfold I64; omega)
                  have HRW5 := HRWQ.out.keep hb5
                  obtain ⟨_, _, _, _, _, e8, _, hg5, y0, y1, y2, y3, _, _, _⟩ := HRW5.round hjk
                  cases e8
                  obtain ⟨vs5, ho5, _⟩ := HRW5
                  have hT5 := ho5.base (k := g) rfl
                  have hT6 := OwnD.base (n := k) (World.ownsRow.stored ho5 (j * 2) (.slice Q mq cq)).1 (k := g) rfl
                  have HRW5 := HRWQ.out.keep hb5
                  have HRW6 := Lib.hid (HRW5.put (p := sumF r' q) (Nat.le_refl _) hjk hqi (Away.own (low := (w.heap.size + 1)) hoq))
                  have g1 := grown_setCell w5 ⟨g, j * 2, none⟩ (.slice Q mq cq)
                  have g2 := grown_setCell (w5.setCell ⟨g, j * 2, none⟩ (.slice Q mq cq)) ⟨g, j * 2 + 1, none⟩ (.bool (r'.odd != q.odd))
                  have A0 := HPIQ.out.keep hb5
                  have A1 := away_kept A0 (HPAQ.out.keep hb5) g1 (fun z hz => by cases hz; exact hT5) (by decide)
                  have A2 := away_kept A1.1 A1.2 g2 (fun z hz => by cases hz; exact hT6) (by decide)
                  have HI6 := Lib.hid A2.1
                  have HA6 := Lib.hid A2.2
                  have HK6 := Lib.hid (((HKQ.out.keep hb5).far (p := ⟨g, j * 2, none⟩) (show bP ≠ g by omega) (.slice Q mq cq)).far (p := ⟨g, j * 2 + 1, none⟩) (show bP ≠ g by omega) (.bool (r'.odd != q.odd)))
                  have HK76 := Lib.hid (((HK7Q.out.keep hb5).far (p := ⟨g, j * 2, none⟩) (show w.heap.size ≠ g by omega) (.slice Q mq cq)).far (p := ⟨g, j * 2 + 1, none⟩) (show w.heap.size ≠ g by omega) (.bool (r'.odd != q.odd)))
                  have HB6 := Lib.hid (((below_next HBQ.out hb5).setCell (p := ⟨g, j * 2, none⟩) (show w.heap.size ≤ g by omega) (.slice Q mq cq)).setCell (p := ⟨g, j * 2 + 1, none⟩) (show w.heap.size ≤ g by omega) (.bool (r'.odd != q.odd)))
                  have hz5 := hb5.size
                  have hz6 := g1.size
                  have hz7 := g2.size
                  have hZ6 : Hid (w3.heap.size ≤ ((w5.setCell ⟨g, j * 2, none⟩ (.slice Q mq cq)).setCell ⟨g, j * 2 + 1, none⟩ (.bool (r'.odd != q.odd))).heap.size) := by show _ ≤ _; omega
                  have HRW7 : Hid (OwnPr ((w5.setCell ⟨g, j * 2, none⟩ (.slice Q mq cq)).setCell ⟨g, j * 2 + 1, none⟩ (.bool (r'.odd != q.odd))) (w.heap.size + 1) (w.heap.size + 1) (some ⟨g, 0, none⟩) k dR ((rows.take (j + 1)).map (putF q) ++ rows.drop (j + 1))) := by
                    show OwnPr _ _ _ _ _ _ _
                    rw [HTK.out, HPF.out]
                    exact HRW6.out
                  clear hqi hoq g1 g2 A0 A1 A2 HRW5 HRW6 hT5 hT6 ho5 hb5 HKQ HPIQ HPAQ HIIQ kq0 kq1 kt0 kt1 kt4 kq4 HBQ KT HRWQ HK7Q
                  go_wp2_with fail
                  go_roundw
                  case rel => exact ⟨j + 1, by omega, by go_num, HB6, hZ6, HK76, HK6, HI6, HA6, HRW7, HGW⟩
                  case measure => simp [intOf] <;> omega
              · have HRWE : Hid (OwnPr wr (w.heap.size + 1) (w.heap.size + 1) R k dR (rows.map (putF q))) := by
                  have h1 := HRW3.out
                  rw [List.take_of_length_le (by rw [HRL.out]; omega), List.drop_of_length_le (by rw [HRL.out]; omega), List.append_nil] at h1
                  exact h1
                have v1 : ¬ (j : Int) < (k : Int) := by omega
                clear HRW3
                obtain ⟨vs, hO, hV⟩ := HRWE.out
                have hbn := below_new wr (.cells #[.slice (some ⟨bq, oq, none⟩) m c, .bool q.odd] 39)
                have HOn := Lib.hid (hO.keep hbn)
                have HVn := Lib.hid (hV.keep hbn)
                have HPn := Lib.hid (HPI.out.keep hbn)
                have HAn := Lib.hid (HPA.out.keep hbn)
                have HKn := Lib.hid (HK73.out.keep hbn)
                have HBn := Lib.hid (below_next HBL3.out hbn)
                have hnc : ∀ j u, (cells2 (some ⟨bq, oq, none⟩, m, c, q.odd))[j]? = some u → (wr.alloc (.cells #[.slice (some ⟨bq, oq, none⟩) m c, .bool q.odd] 39)).cell? ⟨wr.heap.size, j, none⟩ = some u := fun j u hu => by
                  rw [(Blk.new wr 39 #[.slice (some ⟨bq, oq, none⟩) m c, .bool q.odd]).cell j]
                  simpa [cells2] using hu
                have HNC := Lib.hid hnc
                have h1c : ∀ u ∈ cells2 (some ⟨bq, oq, none⟩, m, c, q.odd), u.oneCell' = true := fun u hu => by
                  simp [cells2] at hu
                  rcases hu with rfl | rfl <;> rfl
                have H1C := Lib.hid h1c
                have hz9 := HZ3.out
                clear hO hV hbn hnc h1c HRWE HPI HPA HK73 HBL3
                go_wp2_with (first
                  | (at_builtin
                     refine wpList_append_k _ rfl (.tmp 83) (.tmp 85) _ rfl 2 32 (w.heap.size + 1) 39 l0 _ Tryz.underlying36 hl0 hx0 hx1 hx2 rfl (by omega) R k dR _ rfl HOn.out wr.heap.size (cells2 (some ⟨bq, oq, none⟩, m, c, q.odd)) rfl rfl HNC.out H1C.out (by simp only [maxLen]; omega) (by omega) (by simp; omega) ?_
                     intro R2 dR2 w6 hR2 hg6
                     have HRW6 := Lib.hid (OwnPr.push (p := q) HOn.out HVn.out (Nat.le_refl _) HPn.out HAn.out hR2 hg6)
                     have HB6 : Hid (Below w.heap.size w w6) := HBn.out.grown hg6 HBn.out.size (fun z hz => by have := (HOn.out.base hz).1; omega)
                     have HK6 := Lib.hid (HKn.out.grown hg6 (fun e => by have := (HOn.out.base e.symm).1; omega))
                     have hz6 := hg6.size
                     simp at hz6
                     clear hR2 hg6))
                go_roundw
                case rel => exact ⟨i + 1, k + 1, dR2, R2, rows.map (putF q) ++ [q], by omega, by omega, by go_num, rfl, HB6, HK6, HRW6, HE2, HSV2, by show _ ≤ _; omega⟩
                case measure => simp [intOf] <;> omega
    · skip
      have v0 : ¬ (i : Int) < (n : Int) := by omega
      have hFF : FF = some rows := by
        have h1 := HSO.out
        rw [List.drop_of_length_le (by rw [HPL.out]; omega), solveF] at h1
        exact h1.symm
      have HFF := Lib.hid hFF
      have hk4 : k ≤ 1000000 := by omega
      have hzz := HSZ.out
      clear HSO hFF
      go_wp2_with fail
      refine (sort_prs (w.heap.size + 1) (w.heap.size + 1) k dR R rows wr HRW.out (Nat.le_refl _) hk4 (fun r hr => (HE.out.fine r hr).2)).mono ?_
      rintro e w1 ⟨rfl, hg1, qs, hpq, hR1⟩
      have hb1 : Below (w.heap.size + 1) wr w1 := (Below.refl _ wr).grown hg1 hzz (fun z hz => by obtain ⟨vs, ho, _⟩ := HRW.out; exact (ho.base hz).1)
      have HR1 := Lib.hid hR1
      have HE1 := Lib.hid (HE.out.perm hpq)
      have HPQ := Lib.hid hpq
      have HB1 := Lib.hid (HBL.out.trans (hb1.mono (by omega)))
      have HK1 := Lib.hid (HK7.out.below hb1 (by omega))
      have hql : Hid (qs.length = k) := hR1.len
      have hz1 := hb1.size
      clear hg1 hb1 hR1 HRW HE HBL HK7 hpq
      obtain ⟨w2, hw2⟩ : ∃ z : World, z = w1.alloc (.cells (madeCells #[.bool false] 5) 4) := ⟨_, rfl⟩
      have hb2 : Below w1.heap.size w1 w2 := by rw [hw2]; exact below_new _ _
      have HX : Hid (Own 4 w2 w.heap.size (some ⟨w1.heap.size, 0, none⟩) 5 5 ((List.replicate 5 false).map Value.bool)) := by rw [hw2]; exact made_own w1 5 w.heap.size HB1.out.size (by simp [maxLen])
      have HR2 := Lib.hid (HR1.out.keep hb2)
      have HB2 := Lib.hid (below_next HB1.out hb2)
      have HK2 := Lib.hid (HK1.out.keep hb2)
      have hz2 := hb2.size
      obtain ⟨bA, hbA⟩ : ∃ z : Nat, w1.heap.size = z := ⟨_, rfl⟩
      have hbA1 : w.heap.size < bA := by omega
      obtain ⟨iB, hiB, hBz, hBs, hBb⟩ := bool_parts_
      have hmk : (Instr.makeSlice 33 (.int .i64 5) (.int .i64 5)).run Tryz.prog w1 = .ok (.slice (some ⟨w1.heap.size, 0, none⟩) 5 5) (w1.alloc (.cells (madeCells #[.bool false] 5) 4)) := run_make_row _ _ iB (.bool false) Tryz.underlying33 hiB hBz hBs rfl .i64 .i64 5 (by rw [hBb]; omega) (by omega) w1
      clear HR1 HB1 HK1 hiB hBz hBs hBb
      go_wp2_with fail
      try rw [← hw2]
      rw [hbA] at HX
      clear hw2 hb2
      go_loopw [94] (fun t94 wr => ∃ j : Nat, j ≤ k ∧ t94 = .int .i64 j ∧ Hid (Below w.heap.size w wr) ∧ Hid (Blk wr w.heap.size 28 #[.int .i64 0, .int .i64 0]) ∧ Hid (OwnPr wr (w.heap.size + 1) (w.heap.size + 1) R k dR qs) ∧ Hid (Own 4 wr w.heap.size (some ⟨bA, 0, none⟩) 5 5 (((qs.take j).foldl (fun a r => a.set ((pivot r).toNat - 1) r.odd) (List.replicate 5 false)).map Value.bool))) (fun q _ => k - (intOf q).toNat)
      case atStart => exact ⟨0, Nat.zero_le _, rfl, HB2, HK2, HR2, HX⟩
      case round =>
        clear HX HR2 HB2 HK2 hbA
        obtain ⟨j, hj, rfl, HB, HK, HR, HX⟩ := hrel
        by_cases hjk : j < k
        · obtain ⟨g, A, n1, c1, r, rfl, hbg, hg, x0, x1, _, _, hi, ha, hr⟩ := HR.out.round hjk
          have her := HE1.out.fine r (List.mem_of_getElem? hr.out)
          have hpv := HE1.out.pivots.1 r (List.mem_of_getElem? hr.out)
          have hn0 : 0 < n1 := by have h1 := List.length_pos_iff.2 her.2; rw [hi.len] at h1; exact h1
          obtain ⟨bv, ov, v, rfl, hbv, hcv, _, _, hv⟩ := hi.round hn0
          have hvp : v = pivot r := by have h1 := pivot_at her.2; have h2 := hv.out; rw [h1] at h2; exact (Option.some.inj h2).symm
          rw [Nat.add_zero] at hcv
          have HTS : Hid ((qs.take (j + 1)).foldl (fun a r => a.set ((pivot r).toNat - 1) r.odd) (List.replicate 5 false) = ((qs.take j).foldl (fun a r => a.set ((pivot r).toNat - 1) r.odd) (List.replicate 5 false)).set (v.toNat - 1) r.odd) := by show _ = _; rw [take_snoc_of hr.out, List.foldl_append, hvp]; rfl
          have hv1 : 1 ≤ v := by rw [hvp]; exact hpv.1
          have hv5 : v ≤ 5 := by rw [hvp]; exact hpv.2
          obtain ⟨z, rfl⟩ : ∃ z : Nat, v = (z : Int) + 1 := ⟨(v - 1).toNat, by omega⟩
          have hz5 : z < 5 := by omega
          have HTS2 : Hid ((qs.take (j + 1)).foldl (fun a r => a.set ((pivot r).toNat - 1) r.odd) (List.replicate 5 false) = ((qs.take j).foldl (fun a r => a.set ((pivot r).toNat - 1) r.odd) (List.replicate 5 false)).set z r.odd) := by have h1 := HTS.out; rw [show ((z : Int) + 1).toNat - 1 = z by omega] at h1; exact h1
          have hbdn := hi.bd
          have v1 : (j : Int) < (k : Int) := by omega
          have v2 : (0 : Int) ≤ (j : Int) := by omega
          have v3 : (0 : Int) < (n1 : Int) := by omega
          have v4 : (0 : Int) ≤ (z : Int) := by omega
          have v5 : (z : Int) < 5 := by omega
          have hwz : IntKind.i64.wrap (z : Int) = (z : Int) := IntWalk.i64_in _ (by omega)
          clear her hpv hv hvp hr HTS ha hi hv1 hv5
          go_wp2_with fail
          obtain ⟨wd, hwd⟩ : ∃ q : World, q = (wr.alloc (.cells #[.slice (some ⟨bv, ov, none⟩) n1 c1, .bool r.odd] 39)).drew := ⟨_, rfl⟩
          have hbd : Below wr.heap.size wr wd := by rw [hwd]; exact below_next (below_new _ _) (below_drewN _ 1)
          have KX : Blk wd wr.heap.size 39 #[.slice (some ⟨bv, ov, none⟩) n1 c1, .bool r.odd] := by rw [hwd]; exact (Blk.new _ _ _).keep (below_drewN _ 1)
          have hx0 := KX.cell 0
          have hx1 := KX.cell 1
          simp at hx0 hx1
          have hcv2 := keepBox hbd hcv
          obtain ⟨bX, hbX⟩ : ∃ q : Nat, wr.heap.size = q := ⟨_, rfl⟩
          rw [hbX] at hx0 hx1
          have hS : wd.cell? ⟨bX, 0, none⟩ = some (.slice (some ⟨bv, ov, none⟩) n1 c1) ∧ wd.cell? ⟨bX, 1, none⟩ = some (.bool r.odd) ∧ wd.cell? ⟨bv, ov, none⟩ = some (.int .i64 ((z : Int) + 1)) := ⟨hx0, hx1, hcv2⟩
          have z1 := (cell_lt hx0).1
          have z2 := (cell_lt hcv2).1
          have HXD := HX.out.keep hbd
          obtain ⟨_, uA, eA, _, z3, hcA, hfA, _⟩ := HXD.at_ hz5
          cases eA
          have HX6 : Hid (Own 4 (wd.setCell ⟨bA, z, none⟩ (.bool r.odd)) w.heap.size (some ⟨bA, 0, none⟩) 5 5 (((qs.take (j + 1)).foldl (fun a r => a.set ((pivot r).toNat - 1) r.odd) (List.replicate 5 false)).map Value.bool)) := by
            have h1 := HXD.set_ z (.bool r.odd)
            show Own _ _ _ _ _ _ _
            rw [HTS2.out, List.map_set]
            exact h1
          have hgs := grown_setCell wd ⟨bA, z, none⟩ (.bool r.odd)
          have HB6 := Lib.hid ((below_next HB.out hbd).setCell (p := ⟨bA, z, none⟩) (show w.heap.size ≤ bA by omega) (.bool r.odd))
          have HK6 := Lib.hid ((HK.out.keep hbd).far (p := ⟨bA, z, none⟩) (show w.heap.size ≠ bA by omega) (.bool r.odd))
          have HR6 := Lib.hid ((HR.out.keep hbd).kept hgs (fun q hq => by cases hq; exact ⟨by show _ ≤ bA; omega, Typed.of_own HXD⟩) (by decide) (by decide))
          try rw [hbX]
          clear hbX KX hbd HXD hgs x0 x1 hcv HB HK HR HX hg hbv
          refine wp_region_tail (fun w' => w'.cell? ⟨bX, 0, none⟩ = some (.slice (some ⟨bv, ov, none⟩) n1 c1) ∧ w'.cell? ⟨bX, 1, none⟩ = some (.bool r.odd) ∧ w'.cell? ⟨bv, ov, none⟩ = some (.int .i64 ((z : Int) + 1))) [9] (by kernel_rfl) ?_
          change wpAnyT _ _ _ _ _ _ _ _ _ (wr.alloc (.cells #[.slice (some ⟨bv, ov, none⟩) n1 c1, .bool r.odd] 39)).drew
          rw [← hwd]
          clear hwd
          refine take0 (i := 0) (oi := _) (v := ?_) rfl (by kernel_rfl) (by kernel_rfl) (by kernel_rfl) (fun _ _ _ h => h) rfl (Or.inl ⟨by rfl, ?_⟩) (fun _ => hS) ?_
          rotate_left
          · intro w0; go_simp; with_reducible rfl
          (try simp only [Act.put, List.setIfInBounds_toArray, List.set_cons_zero, List.set_cons_succ])
          refine take0 (i := 1) (oi := _) (v := ?_) rfl (by kernel_rfl) (by kernel_rfl) (by kernel_rfl) (fun _ _ _ h => h) rfl (Or.inl ⟨by rfl, ?_⟩) (fun _ => hS) ?_
          rotate_left
          · intro w0; go_simp; with_reducible rfl
          (try simp only [Act.put, List.setIfInBounds_toArray, List.set_cons_zero, List.set_cons_succ])
          refine takeS (i := 2) (oi := _) (v := ?_) rfl (by kernel_rfl) (by kernel_rfl) (by kernel_rfl) (fun _ _ _ h => h) rfl (by kernel_rfl) (by kernel_rfl) (Or.inl ⟨by rfl, ?_⟩) hS ?_
          rotate_left
          · intro w0 hSw; (try dsimp only at hSw); go_simp; with_reducible rfl
          (try simp only [Act.put, List.setIfInBounds_toArray, List.set_cons_zero, List.set_cons_succ])
          refine take0 (i := 3) (oi := _) (v := ?_) rfl (by kernel_rfl) (by kernel_rfl) (by kernel_rfl) (fun _ _ _ h => h) rfl (Or.inl ⟨by rfl, ?_⟩) (fun _ => hS) ?_
          rotate_left
          · intro w0; go_simp; with_reducible rfl
          (try simp only [Act.put, List.setIfInBounds_toArray, List.set_cons_zero, List.set_cons_succ])
          refine takeS (i := 4) (oi := _) (v := ?_) rfl (by kernel_rfl) (by kernel_rfl) (by kernel_rfl) (fun _ _ _ h => h) rfl (by kernel_rfl) (by kernel_rfl) (Or.inl ⟨by rfl, ?_⟩) hS ?_
          rotate_left
          · intro w0 hSw; (try dsimp only at hSw); go_simp; with_reducible rfl
          (try simp only [Act.put, List.setIfInBounds_toArray, List.set_cons_zero, List.set_cons_succ])
          refine take0 (i := 5) (oi := _) (v := ?_) rfl (by kernel_rfl) (by kernel_rfl) (by kernel_rfl) (fun _ _ _ h => h) rfl (Or.inl ⟨by rfl, ?_⟩) (fun _ => hS) ?_
          rotate_left
          · intro w0; go_simp; with_reducible rfl
          (try simp only [Act.put, List.setIfInBounds_toArray, List.set_cons_zero, List.set_cons_succ])
          refine take0 (i := 6) (oi := _) (v := ?_) rfl (by kernel_rfl) (by kernel_rfl) (by kernel_rfl) (fun _ _ _ h => h) rfl (Or.inl ⟨by rfl, ?_⟩) (fun _ => hS) ?_
          rotate_left
          · intro w0; go_simp; with_reducible rfl
          (try simp only [Act.put, List.setIfInBounds_toArray, List.set_cons_zero, List.set_cons_succ])
          refine takeS (i := 7) (oi := _) (v := ?_) rfl (by kernel_rfl) (by kernel_rfl) (by kernel_rfl) (fun _ _ _ h => h) rfl (by kernel_rfl) (by kernel_rfl) (Or.inl ⟨by rfl, ?_⟩) hS ?_
          rotate_left
          · intro w0 hSw; (try dsimp only at hSw); go_simp; with_reducible rfl
          (try simp only [Act.put, List.setIfInBounds_toArray, List.set_cons_zero, List.set_cons_succ])
          refine take0 (i := 8) (oi := _) (v := ?_) rfl (by kernel_rfl) (by kernel_rfl) (by kernel_rfl) (fun _ _ _ h => h) rfl (Or.inl ⟨by rfl, ?_⟩) (fun _ => hS) ?_
          rotate_left
          · intro w0; go_simp; with_reducible rfl
          (try simp only [Act.put, List.setIfInBounds_toArray, List.set_cons_zero, List.set_cons_succ])
          refine oneT (i := 9) (by kernel_rfl) rfl (by rfl) (fun Kq hK => ?_)
          go_simp
          refine hK _ _ (noT_no (by kernel_rfl)) ?_
          clear hK
          (try simp only [Act.put, List.setIfInBounds_toArray, List.set_cons_zero, List.set_cons_succ])
          refine doneT (by kernel_rfl) ?_ _
          go_wp2_with fail
          go_roundw
          case rel => exact ⟨j + 1, by omega, by go_num, HB6, HK6, HR6, HX6⟩
          case measure => simp [intOf] <;> omega
        · have hXE : Hid (Own 4 wr w.heap.size (some ⟨bA, 0, none⟩) 5 5 ((assignF 5 qs).map Value.bool)) := by
            have h1 := HX.out
            rw [List.take_of_length_le (by rw [hql.out]; omega)] at h1
            exact h1
          have v1 : ¬ (j : Int) < (k : Int) := by omega
          have r0 := HK.out.cell 0
          have r1 := HK.out.cell 1
          have r2 := HK.out.frozen 0
          have r3 := HK.out.frozen 1
          have r4 := HK.out.lt
          simp at r0 r1
          have g1 := grown_setCell wr ⟨w.heap.size, 0, none⟩ (.int .i64 0)
          have g2 := grown_setCell (wr.setCell ⟨w.heap.size, 0, none⟩ (.int .i64 0)) ⟨w.heap.size, 1, none⟩ (.int .i64 0)
          have hX1 := hXE.out.kept g1 (Own.ne_typed hXE.out (Typed.of_blk HK.out) (by decide))
          have HX2 := Lib.hid (hX1.kept g2 (Own.ne_typed hX1 (Typed.of_blk (HK.out.set_ 0 (.int .i64 0))) (by decide)))
          clear g1 g2 hX1 hXE HX
          go_wp2_with fail
          exact bodyPost_ret (v := .tuple #[.int .i64 1, .slice R k dR, .slice (some ⟨bA, 0, none⟩) 5 5, .agg #[.int .i64 0, .int .i64 0]]) (by simp [results, Tryz.results13, go_sem, r0, r1, r4]) rfl
            ⟨1, R, k, dR, some ⟨bA, 0, none⟩, 5, 5, rfl, below_put2 HB.out (g := w.heap.size) (Nat.le_refl _) _ _, Or.inr ⟨rfl, rfl, qs, HX2.out, rows, HFF.out, HPQ.out⟩⟩
end Go.Proofs.YtlfgcblijfflfaaGreat

/- Contracts of par.clauses, par.Cnf, models. -/
namespace Go.Proofs.YtlfgcblijfflfaaGreat
open Go.RowKit
set_option linter.unusedSimpArgs false
set_option linter.unusedVariables false

theorem clauseW_take : ∀ (of : List Int) (bs : List Bool) (i : Nat) (v : Int) (b : Bool), of[i]? = some v → bs[i]? = some b → clauseW (of.take (i + 1)) (bs.take (i + 1)) = clauseW (of.take i) (bs.take i) ++ [if b then -v else v]
  | [], _, _, _, _, h, _ => by simp at h
  | _ :: _, [], _, _, _, _, h => by simp at h
  | x :: t, y :: u, 0, v, b, hv, hb => by
    simp at hv hb
    subst hv hb
    rfl
  | x :: t, y :: u, i + 1, v, b, hv, hb => by
    have ih := clauseW_take t u i v b (by simpa using hv) (by simpa using hb)
    show (if y then -x else x) :: clauseW (t.take (i + 1)) (u.take (i + 1)) = _
    rw [ih]
    rfl
theorem xorL_take {bs : List Bool} {i : Nat} {b : Bool} (hb : bs[i]? = some b) : xorL (bs.take (i + 1)) = (xorL (bs.take i) != b) := by
  rw [take_snoc_of hb, xorL_append]
  cases b <;> rfl
theorem raw_step (p : Pr) (s : Nat) : (List.range (s + 1)).filterMap (setsF p) = (List.range s).filterMap (setsF p) ++ (setsF p s).toList := by
  rw [List.range_succ, List.filterMap_append]
  cases h : setsF p s <;> simp [h]
theorem pow_le32 {n : Nat} (h : n ≤ 5) : 2 ^ n ≤ 32 := Nat.le_trans (Nat.pow_le_pow_right (by omega) h) (by decide)

set_option maxHeartbeats 4000000 in
set_option maxRecDepth 100000 in
theorem clauses_any (A : Option Addr) (n c : Nat) (p : Pr) (w : World) (h : Ints w A n c p.of) (hf : Fine 5 p) :
    Calls Tryz.prog 32 #[.agg #[.slice A n c, .bool p.odd]] w (RetNorm (rawF p) w) := by
  have hl : Hid (p.of.length = n) := h.len
  have hn5 : n ≤ 5 := by have h1 := fine_len hf; rw [hl.out] at h1; exact h1
  have hbd := h.bd
  have HFI := Lib.hid hf
  have HI := Lib.hid h
  obtain ⟨i0, hi0, hz0, hz1, hz2⟩ := info_parts int_info_q
  obtain ⟨j0, hj0, hy0, hy1, hy2⟩ := info_parts row_info_q
  obtain ⟨M, hM⟩ : ∃ M : Nat, Hid (M = 2 ^ n) := ⟨_, rfl⟩
  have hM32 : M ≤ 32 := by rw [hM.out]; exact pow_le32 hn5
  have hM2 : ((2 : Int) ^ n) = (M : Int) := by rw [hM.out]; simp
  have hMw : wrap64 ((2 : Int) ^ n) = (M : Int) := by rw [hM2]; unfold wrap64; omega
  have HMW := Lib.hid hMw
  have hb0 := below_new w (.cells #[.slice A n c, .bool p.odd] 39)
  have HB0 := Lib.hid hb0
  have HK0 : Hid (Blk (w.alloc (.cells #[.slice A n c, .bool p.odd] 39)) w.heap.size 39 #[.slice A n c, .bool p.odd]) := Blk.new _ _ _
  have hz0' : w.heap.size + 1 ≤ (w.alloc (.cells #[.slice A n c, .bool p.odd] 39)).heap.size := by simp
  have HSZ := Lib.hid hz0'
  clear hM2 h hf hb0 hz0'
  go_enter Tryz.func32, Tryz.ntmps32
  clear hMw
  go_wp2_with fail
  rw [HMW.out]
  go_loopw [3, 13] (fun t3 t13 wr => ∃ (s k cO : Nat) (O : Option Addr), s ≤ M ∧ k ≤ s ∧ t3 = .slice O k cO ∧ t13 = .int .i64 s ∧ Hid (OwnP 22 3 wr (w.heap.size + 1) w.heap.size O k cO ((List.range s).filterMap (setsF p))) ∧ Hid (Below w.heap.size w wr) ∧ Hid (Blk wr w.heap.size 39 #[.slice A n c, .bool p.odd]) ∧ Hid (w.heap.size + 1 ≤ wr.heap.size)) (fun _ q _ => M - (intOf q).toNat)
  case atStart => exact ⟨0, 0, 0, none, Nat.zero_le _, Nat.le_refl _, rfl, rfl, OwnP.nil _ _ _ _ _, HB0, HK0, HSZ⟩
  case round =>
    clear HB0 HK0 HSZ
    obtain ⟨s, k, cO, O, hs, hk, rfl, rfl, HO, HB, HK, HZ⟩ := hrel
    by_cases hsM : s < M
    · obtain ⟨wo, hwo⟩ : ∃ wo : World, wo = wr := ⟨_, rfl⟩
      subst hwo
      obtain ⟨bs, hbs⟩ : ∃ z, Hid (bitW n s = z) := ⟨_, rfl⟩
      have hbl : Hid (bs.length = n) := by show _ = _; rw [← hbs.out]; exact bitW_len _ _
      have v1 : (s : Int) < (M : Int) := by omega
      have v2 : (0 : Int) ≤ (s : Int) := by omega
      have k0 := HK.out.cell 0
      have k1 := HK.out.cell 1
      have k4 := HK.out.lt
      simp at k0 k1
      go_wp2_with fail
      go_loopw [5, 6, 19] (fun t5 t6 t19 wr => ∃ (i cC : Nat) (C : Option Addr) (od : Bool), i ≤ n ∧ t5 = .bool od ∧ t6 = .slice C i cC ∧ t19 = .int .i64 i ∧ Hid (Own 3 wr wo.heap.size C i cC ((clauseW (p.of.take i) (bs.take i)).map (Value.int .i64))) ∧ Hid (od = xorL (bs.take i)) ∧ Hid (Below wo.heap.size wo wr)) (fun _ _ q _ => n - (intOf q).toNat)
      case atStart => exact ⟨0, 0, none, false, Nat.zero_le _, rfl, rfl, rfl, (by show Own _ _ _ _ _ _ _; simpa [clauseW] using Own.nil _ _ _), rfl, Below.refl _ _⟩
      case round =>
        clear k0 k1 k4
        obtain ⟨i, cC, C, od, hi, rfl, rfl, rfl, HC, HOD, HBC⟩ := hrel
        have hx := (HI.out.keep HB.out).keep HBC.out
        have HKC := Lib.hid (HK.out.keep HBC.out)
        have hzc := HBC.out.size
        by_cases hin : i < n
        · obtain ⟨b, off, v, rfl, hb, hc, y1, y2, hv⟩ := hx.round hin
          have hv5 := HFI.out.2 v (List.mem_of_getElem? hv.out)
          have hbi : Hid (bs[i]? = some (s / 2 ^ i % 2 == 1)) := by show _ = _; rw [← hbs.out]; exact bitW_at n s i hin
          have hq := bit_andW (k := s) (i := i) (by omega)
          obtain ⟨bv, hbv⟩ : ∃ b : Bool, Hid ((s / 2 ^ i % 2 == 1) = b) := ⟨_, rfl⟩
          rw [hbv.out] at hq hbi
          have HCW := Lib.hid (clauseW_take p.of bs i v bv hv.out hbi.out)
          have HXT := Lib.hid (xorL_take hbi.out)
          have v3 : (i : Int) < (n : Int) := by omega
          have v4 : (0 : Int) ≤ (i : Int) := by omega
          clear hv hbi hbv hx
          cases bv
          · have hS := ints_made wr 3 [v] rfl (by simp [I64]; omega) (by simp [maxLen])
            have HCn := Lib.hid (HC.out.keep (below_new wr (.cells #[.int .i64 v] 3)))
            have HOD2 : Hid (od = xorL (bs.take (i + 1))) := by show _ = _; rw [HXT.out, ← HOD.out]; cases od <;> rfl
            go_wp2_with (first
              | (at_builtin
                 refine wpList_append_sl _ rfl (.tmp 36) (.tmp 38) _ rfl wo.heap.size 3 i0 _ 8 Tryz.underlying22 hi0 hz0 hz1 hz2 rfl C i cC _ rfl HCn.out (some ⟨wr.heap.size, 0, none⟩) 1 1 _ rfl hS.sl (ints_one _) (by simp only [maxLen]; omega) (by omega) (by simp; omega) ?_
                 intro C2 cC2 w6 hC2 hg6 hat6
                 have HC6 : Hid (Own 3 w6 wo.heap.size C2 (i + 1) cC2 ((clauseW (p.of.take (i + 1)) (bs.take (i + 1))).map (Value.int .i64))) := by show Own _ _ _ _ _ _ _; rw [HCW.out, List.map_append]; exact hC2
                 have HB6 := Lib.hid (below_grown (below_alloc HBC.out (.cells #[.int .i64 v] 3)) HCn.out (Nat.le_refl _) hg6)
                 clear hC2 hg6 hat6))
            go_roundw
            case rel => exact ⟨i + 1, cC2, C2, od, by omega, rfl, rfl, by go_num, HC6, HOD2, HB6⟩
            case measure => simp [intOf] <;> omega
          · have hS := ints_made wr 3 [-v] rfl (by simp [I64]; omega) (by simp [maxLen])
            have HCn := Lib.hid (HC.out.keep (below_new wr (.cells #[.int .i64 (-v)] 3)))
            have HOD2 : Hid ((!od) = xorL (bs.take (i + 1))) := by show _ = _; rw [HXT.out, ← HOD.out]; cases od <;> rfl
            go_wp2_with (first
              | (at_builtin
                 refine wpList_append_sl _ rfl (.tmp 31) (.tmp 34) _ rfl wo.heap.size 3 i0 _ 8 Tryz.underlying22 hi0 hz0 hz1 hz2 rfl C i cC _ rfl HCn.out (some ⟨wr.heap.size, 0, none⟩) 1 1 _ rfl hS.sl (ints_one _) (by simp only [maxLen]; omega) (by omega) (by simp; omega) ?_
                 intro C2 cC2 w6 hC2 hg6 hat6
                 have HC6 : Hid (Own 3 w6 wo.heap.size C2 (i + 1) cC2 ((clauseW (p.of.take (i + 1)) (bs.take (i + 1))).map (Value.int .i64))) := by show Own _ _ _ _ _ _ _; rw [HCW.out, List.map_append]; exact hC2
                 have HB6 := Lib.hid (below_grown (below_alloc HBC.out (.cells #[.int .i64 (-v)] 3)) HCn.out (Nat.le_refl _) hg6)
                 clear hC2 hg6 hat6))
            go_roundw
            case rel => exact ⟨i + 1, cC2, C2, !od, by omega, rfl, rfl, by go_num, HC6, HOD2, HB6⟩
            case measure => simp [intOf] <;> omega
        · obtain rfl : i = n := by omega
          have v3 : ¬ (i : Int) < (i : Int) := by omega
          have HCF : Hid (Own 3 wr wo.heap.size C i cC ((clauseW p.of (bitW p.of.length s)).map (Value.int .i64))) := by
            have h1 := HC.out
            rw [List.take_of_length_le (by rw [hl.out]; exact Nat.le_refl _), List.take_of_length_le (by rw [hbl.out]; exact Nat.le_refl _), ← hbs.out] at h1
            show Own _ _ _ _ _ _ _
            rw [hl.out]
            exact h1
          have HODF : Hid (od = xorL (bitW p.of.length s)) := by
            have h1 := HOD.out
            rw [List.take_of_length_le (by rw [hbl.out]; exact Nat.le_refl _), ← hbs.out] at h1
            show _ = _
            rw [hl.out]
            exact h1
          have HI64 : Hid (∀ x ∈ clauseW p.of (bitW p.of.length s), I64 x) := fun x hx => by
            obtain ⟨v, hv, h1⟩ := clauseW_abs _ _ x hx
            have := HFI.out.2 v hv
            unfold I64
            omega
          have HO2 := Lib.hid (HO.out.keep HBC.out)
          have HBN := Lib.hid (below_next HB.out HBC.out)
          have hhz := HZ.out
          have k0 := HKC.out.cell 0
          have k1 := HKC.out.cell 1
          have k4 := HKC.out.lt
          simp at k0 k1
          clear HC HOD hx HO HB HK HZ
          obtain ⟨o, ho⟩ : ∃ o : Bool, p.odd = o := ⟨_, rfl⟩
          have HPO := Lib.hid ho
          rw [ho] at k1
          clear ho
          by_cases hoo : od = o
          · subst hoo
            have hq : (od != od) = false := by cases od <;> rfl
            have HRN : Hid ((List.range (s + 1)).filterMap (setsF p) = (List.range s).filterMap (setsF p)) := by
              show _ = _
              rw [raw_step]
              have : setsF p s = none := by unfold setsF; rw [← HODF.out, HPO.out, hq, if_neg (by simp)]
              rw [this]; simp
            clear HODF HCF
            go_wp2_with fail
            go_roundw
            case rel => exact ⟨s + 1, k, cO, O, by omega, by omega, rfl, by go_num, by show OwnP _ _ _ _ _ _ _ _ _; rw [HRN.out]; exact HO2.out, HBN, HKC, by show _ ≤ _; omega⟩
            case measure => simp [intOf] <;> omega
          · obtain rfl : o = !od := by cases o <;> cases od <;> simp_all
            have hq : (od != !od) = true := by cases od <;> rfl
            have HRN : Hid ((List.range (s + 1)).filterMap (setsF p) = (List.range s).filterMap (setsF p) ++ [clauseW p.of (bitW p.of.length s)]) := by
              show _ = _
              rw [raw_step]
              have : setsF p s = some (clauseW p.of (bitW p.of.length s)) := by unfold setsF; rw [← HODF.out, HPO.out, hq, if_pos rfl]
              rw [this]; rfl
            obtain ⟨vs, hO, hR⟩ := HO2.out
            have hbn := below_new wr (.cells #[.slice C i cC] 22)
            have HOn := Lib.hid (hO.keep hbn)
            have HRn := Lib.hid (hR.keep hbn)
            have HCi := Lib.hid ((HCF.out.ints HI64.out).keep hbn)
            have HCa := Lib.hid (Away.own (low := w.heap.size) (HCF.out.keep hbn))
            have HKN := Lib.hid (HKC.out.keep hbn)
            have HBM := Lib.hid (below_next HBN.out hbn)
            clear hO hR hbn HODF HO2 HCF HBN
            go_wp2_with (first
              | (at_builtin
                 refine wpList_append_sl _ rfl (.tmp 45) (.tmp 47) _ rfl (w.heap.size + 1) 22 j0 _ 24 Tryz.underlying23 hj0 hy0 hy1 hy2 rfl O k cO _ rfl HOn.out (some ⟨wr.heap.size, 0, none⟩) 1 1 _ rfl (sl_one wr 22 (.slice C i cC) rfl) (by simp [Value.oneCell']) (by simp only [maxLen]; omega) (by omega) (by simp; omega) ?_
                 intro O2 cO2 w6 hO2 hg6 hat6
                 have HO6 : Hid (OwnP 22 3 w6 (w.heap.size + 1) w.heap.size O2 (k + 1) cO2 ((List.range (s + 1)).filterMap (setsF p))) := by show OwnP _ _ _ _ _ _ _ _ _; rw [HRN.out]; exact OwnP.push HOn.out HRn.out (by omega) (by decide) HCi.out HCa.out hO2 hg6
                 have HK6 := Lib.hid (HKN.out.grownO HOn.out hg6 (by omega))
                 have HB6 := Lib.hid (below_grown HBM.out HOn.out (by omega) hg6)
                 have hz6 := hg6.size
                 simp at hz6
                 clear hO2 hg6 hat6))
            go_roundw
            case rel => exact ⟨s + 1, k + 1, cO2, O2, by omega, by omega, rfl, by go_num, HO6, HB6, HK6, by show _ ≤ _; omega⟩
            case measure => simp [intOf] <;> omega
    · obtain rfl : s = M := by omega
      have v1 : ¬ (s : Int) < (s : Int) := by omega
      have HOF : Hid (OwnP 22 3 wr (w.heap.size + 1) w.heap.size O k cO (rawF p)) := by
        have h1 := HO.out
        rw [hM.out, ← hl.out] at h1
        exact h1
      have HRB : Hid (∀ xs ∈ rawF p, ∀ x ∈ xs, -1000000 ≤ x ∧ x ≤ 1000000) := fun xs hx x hx' => by have := (rawF_mem HFI.out xs hx).2.1 x hx'; omega
      have HRL : Hid (∀ xs ∈ rawF p, xs.length ≤ 1000000) := fun xs hx => by have h1 := (rawF_mem HFI.out xs hx).1; have := hl.out; omega
      clear HO
      go_wp2_with fail
      refine (normal_any O k cO (rawF p) wr HOF.out.grid HRB.out HRL.out (by omega)).mono ?_
      rintro e w8 ⟨A8, n8, c8, rfl, hO8, hb8⟩
      have hzz := HB.out.size
      have HRET : Hid (OwnP 22 3 w8 w.heap.size 0 A8 n8 c8 (normF (rawF p)) ∧ Below w.heap.size w w8) := ⟨hO8.mono (by omega) (Nat.le_refl _), below_next HB.out hb8⟩
      clear hO8 hb8
      go_wp2_with fail
      go_ret
      exact ⟨A8, n8, c8, rfl, HRET.out.1, HRET.out.2⟩
end Go.Proofs.YtlfgcblijfflfaaGreat

/- Contracts of par.Cnf, models. (Printed by wip/tools/parcnf.py.) -/
namespace Go.Proofs.YtlfgcblijfflfaaGreat
open Go.RowKit
set_option linter.unusedSimpArgs false
set_option linter.unusedVariables false

set_option maxHeartbeats 2000000 in
set_option maxRecDepth 100000 in
theorem parcnf_any (A : Option Addr) (n c : Nat) (p : Pr) (w : World) (h : Ints w A n c p.of) (hf : Fine 5 p) :
    Calls Tryz.prog 12 #[.int .i64 5, .agg #[.slice A n c, .bool p.odd]] w (RetNormF 5 (rawF p) w) := by
  have hl : Hid (p.of.length = n) := h.len
  have hn5 : n ≤ 5 := by have h1 := fine_len hf; rw [hl.out] at h1; exact h1
  have hbd := h.bd
  have HI := Lib.hid h
  have HF := Lib.hid hf
  obtain ⟨w1, hw1⟩ : ∃ z : World, z = ((w.alloc (.cells #[.slice A n c, .bool p.odd] 39)).alloc (.cells #[.int .i64 0, .slice none 0 0] 25)).alloc (.cells #[.int .i64 0, .int .i64 0] 28) := ⟨_, rfl⟩
  obtain ⟨k1, k2, k3, hb, hs⟩ := blk3 (w := w) (wr := w1) (t := 39) (t' := 25) (t'' := 28) (cs := #[.slice A n c, .bool p.odd]) (cs' := #[.int .i64 0, .slice none 0 0]) (cs'' := #[.int .i64 0, .int .i64 0]) (by rw [hw1]; exact Below.refl _ _)
  have K1 := Lib.hid k1
  have K2 := Lib.hid k2
  have K3 := Lib.hid k3
  have HB := Lib.hid hb
  have HH := Lib.hid hs
  have HI1 := Lib.hid (h.keep hb)
  clear h hf k1 k2 k3 hb hs
  go_enter Tryz.func12, Tryz.ntmps12
  go_wp2_with fail
  rw [← hw1]
  obtain ⟨w2, hw2⟩ : ∃ z : World, z = w1.alloc (.cells #[.slice A n c, .bool p.odd] 39) := ⟨_, rfl⟩
  have hb2 : Below w1.heap.size w1 w2 := by rw [hw2]; exact below_new _ _
  have HP : Hid (OwnPr w2 w1.heap.size w1.heap.size (some ⟨w1.heap.size, 0, none⟩) 1 1 [p]) := by rw [hw2]; exact OwnPr.one rfl HI1.out (Away.old HI1.out (Nat.le_refl _)) (Nat.le_refl _)
  have K12 := Lib.hid (K1.out.keep hb2)
  have K22 := Lib.hid (K2.out.keep hb2)
  have K32 := Lib.hid (K3.out.keep hb2)
  have HB2 := Lib.hid (below_next HB.out hb2)
  have HI2 := Lib.hid (HI1.out.keep hb2)
  have e0 : w1.heap.size = w.heap.size + 1 + 1 + 1 := by rw [hw1]; simp
  have HFA : Hid (∀ q ∈ [p], Fine 5 q) := fun q hq => by rw [List.mem_singleton.1 hq]; exact HF.out
  try rw [← hw2]
  try rw [← e0]
  clear hw1 hw2 hb2 K1 K2 K3 HI1
  refine (check_par (some ⟨w1.heap.size, 0, none⟩) 1 1 w1.heap.size w1.heap.size [p] w2 HP.out (by omega) (by omega) HFA.out).mono ?_
  rintro e w3 ⟨rfl, hb3⟩
  have K13 := Lib.hid (K12.out.keep hb3)
  have K23 := Lib.hid (K22.out.keep hb3)
  have K33 := Lib.hid (K32.out.keep hb3)
  have HB3 := Lib.hid (below_next HB2.out hb3)
  have HI3 := Lib.hid (HI2.out.keep hb3)
  have l1 := K13.out.lt
  have c0 := K13.out.cell 0
  have c1 := K13.out.cell 1
  simp at c0 c1
  have hn8 : ¬ (8 : Int) < (n : Int) := by omega
  clear hb3 K12 K22 K32 HB2 HI2 HP e0
  go_wp2_with fail
  obtain ⟨w4, hw4⟩ : ∃ z : World, z = w3.alloc (.cells #[.int .i64 0, .int .i64 0] 28) := ⟨_, rfl⟩
  have hb4 : Below w3.heap.size w3 w4 := by rw [hw4]; exact below_new _ _
  have K14 := Lib.hid (K13.out.keep hb4)
  have K24 := Lib.hid (K23.out.keep hb4)
  have K34 := Lib.hid (K33.out.keep hb4)
  have HB4 := Lib.hid (below_next HB3.out hb4)
  have HI4 := Lib.hid (HI3.out.keep hb4)
  have l4 := K34.out.lt
  rw [← hw4]
  clear hw4 hb4 K13 K23 K33 HB3 HI3 c0 c1 l1
  refine (clauses_any A n c p w4 HI4.out HF.out).mono ?_
  rintro e w5 ⟨A5, n5, c5, rfl, hO5, hb5⟩
  obtain ⟨_, hnc5, hc63⟩ := hO5.len'
  have hA5 := hO5.none_
  have K25 := Lib.hid (K24.out.keep hb5)
  have K35 := Lib.hid (K34.out.keep hb5)
  have HB5 := Lib.hid (below_next HB4.out hb5)
  have HO5 := Lib.hid hO5
  have HWL : Hid (w.heap.size + 1 + 1 < w4.heap.size) := l4
  clear hO5 hb5 K14 K24 K34 HB4 HI4 l4
  go_wp2_with fail
  refine (clip_any A5 n5 c5 w5 hnc5 hc63 hA5).mono ?_
  rintro e w6 ⟨rfl, m6, hw6⟩
  have hb6 : Below w5.heap.size w5 w6 := by rw [hw6]; exact below_drewN _ _
  have k2 := K25.out.keep hb6
  have k3 := K35.out.keep hb6
  have HB6 := Lib.hid (below_next HB5.out hb6)
  have hO6 := HO5.out.keep hb6
  have r0 := k2.cell 0
  have r1 := k2.cell 1
  have r2 := k2.frozen 0
  have r3 := k2.frozen 1
  have r4 := k2.lt
  have s0 := k3.cell 0
  have s1 := k3.cell 1
  have s2 := k3.frozen 0
  have s3 := k3.frozen 1
  have s4 := k3.lt
  simp at r0 r1 s0 s1
  have hwl := HWL.out
  have g1 := hO6.box (grown_setCell w6 ⟨w.heap.size + 1, 0, none⟩ (.int .i64 5)) (Typed.of_blk k2) int_ne_cnf (show w.heap.size + 1 < w4.heap.size by omega)
  have g2 := g1.box (grown_setCell _ ⟨w.heap.size + 1, 1, none⟩ (.slice A5 n5 n5)) (Typed.of_blk (k2.set_ 0 (.int .i64 5))) int_ne_cnf (show w.heap.size + 1 < w4.heap.size by omega)
  have f3 := (k3.far (p := ⟨w.heap.size + 1, 0, none⟩) (show w.heap.size + 1 + 1 ≠ w.heap.size + 1 by omega) (.int .i64 5)).far (p := ⟨w.heap.size + 1, 1, none⟩) (show w.heap.size + 1 + 1 ≠ w.heap.size + 1 by omega) (.slice A5 n5 n5)
  have g3 := g2.box (grown_setCell _ ⟨w.heap.size + 1 + 1, 0, none⟩ (.int .i64 0)) (Typed.of_blk f3) int_ne_flt (show w.heap.size + 1 + 1 < w4.heap.size by omega)
  have HO9 := Lib.hid (g3.box (grown_setCell _ ⟨w.heap.size + 1 + 1, 1, none⟩ (.int .i64 0)) (Typed.of_blk (f3.set_ 0 (.int .i64 0))) int_ne_flt (show w.heap.size + 1 + 1 < w4.heap.size by omega))
  clear k2 k3 hb6 hw6 g1 g2 g3 f3 hO6 HO5 K25 K35 HB5
  go_wp2_with fail
  exact bodyPost_ret (v := .tuple #[.agg #[.int .i64 5, .slice A5 n5 n5], .agg #[.int .i64 0, .int .i64 0]]) (by simp [results, Tryz.results12, go_sem, r0, r1, r4, s0, s1, s4]) rfl
    ⟨A5, n5, c5, rfl, HO9.out.mono (by omega) (Nat.le_refl _), below_put2 (below_put2 HB6.out (g := w.heap.size + 1) (by omega) _ _) (g := w.heap.size + 1 + 1) (by omega) _ _⟩

/-- How many of the first s assignments hold. -/
def cntF (xss : List (List Int)) (s : Nat) : Nat := ((List.range s).filter fun q => allB xss (bitW 5 q)).length
theorem cnt_step (xss : List (List Int)) (s : Nat) : cntF xss (s + 1) = cntF xss s + if allB xss (bitW 5 s) then 1 else 0 := by
  unfold cntF
  rw [List.range_succ, List.filter_append, List.length_append]
  by_cases h : allB xss (bitW 5 s) = true <;> simp [h]
theorem cnt_le (xss : List (List Int)) (s : Nat) : cntF xss s ≤ s := by
  unfold cntF
  have := List.length_filter_le (fun q => allB xss (bitW 5 q)) (List.range s)
  simpa using this

set_option maxHeartbeats 2000000 in
set_option maxRecDepth 100000 in
theorem models_any (A : Option Addr) (n c : Nat) (xss : List (List Int)) (w : World) (h : Grid w A n c xss) (hx : ∀ x ∈ xss, Lits 5 x) :
    Calls Tryz.prog 14 #[.agg #[.int .i64 5, .slice A n c]] w (RetV (.int .i64 (cntF xss 32)) w) := by
  have hb0 := below_new w (.cells #[.int .i64 5, .slice A n c] 25)
  have HB0 := Lib.hid hb0
  have HG := Lib.hid h
  have HX : Hid (∀ x ∈ xss, Lits ((5 : Nat) : Int) x) := hx
  have HK0 : Hid (Blk (w.alloc (.cells #[.int .i64 5, .slice A n c] 25)) w.heap.size 25 #[.int .i64 5, .slice A n c]) := Blk.new _ _ _
  obtain ⟨b1, hb1⟩ : ∃ z : Nat, w.heap.size = z := ⟨_, rfl⟩
  rw [hb1] at HK0
  clear h hb0 hx
  go_enter Tryz.func14, Tryz.ntmps14
  go_wp2_with fail
  go_loopw [3, 4] (fun t3 t4 wr => ∃ s : Nat, s ≤ 32 ∧ t3 = .int .i64 (cntF xss s) ∧ t4 = .int .i64 s ∧ Hid (Below w.heap.size w wr) ∧ Hid (Blk wr b1 25 #[.int .i64 5, .slice A n c])) (fun _ q _ => 32 - (intOf q).toNat)
  case atStart => exact ⟨0, Nat.zero_le _, rfl, rfl, HB0, HK0⟩
  case round =>
    clear HB0 HK0 hb1
    obtain ⟨s, hs, rfl, rfl, HB, HK⟩ := hrel
    have k0 := HK.out.cell 0
    have k1 := HK.out.cell 1
    have k4 := HK.out.lt
    simp at k0 k1
    have hcl := cnt_le xss s
    by_cases hs32 : s < 32
    · have v1 : (s : Int) < 32 := by omega
      obtain ⟨q, hq⟩ : ∃ q, Hid (allB xss (bitW 5 s) = q) := ⟨_, rfl⟩
      have HCS := Lib.hid (cnt_step xss s)
      go_wp2_with fail
      obtain ⟨wd, hwd⟩ : ∃ q : World, q = wr.drew := ⟨_, rfl⟩
      have hbd : Below wr.heap.size wr wd := by rw [hwd]; exact below_drewN _ 1
      have HBD := Lib.hid (below_next HB.out hbd)
      have HKA := Lib.hid (HK.out.keep hbd)
      have hS : wd.cell? ⟨b1, 0, none⟩ = some (.int .i64 5) ∧ wd.cell? ⟨b1, 1, none⟩ = some (.slice A n c) := ⟨keepBox hbd k0, keepBox hbd k1⟩
      have z1 := (cell_lt hS.1).1
      clear hbd HB k0 k1
      refine wp_region_tail (fun w' => w'.cell? ⟨b1, 0, none⟩ = some (.int .i64 5) ∧ w'.cell? ⟨b1, 1, none⟩ = some (.slice A n c)) [] (by kernel_rfl) ?_
      change wpAnyT _ _ _ _ _ _ _ _ _ wr.drew
      rw [← hwd]
      clear hwd
      refine take0 (i := 0) (oi := _) (v := ?_) rfl (by kernel_rfl) (by kernel_rfl) (by kernel_rfl) (fun _ _ _ h => h) rfl (Or.inl ⟨by rfl, ?_⟩) (fun _ => hS) ?_
      rotate_left
      · intro w0; go_simp; with_reducible rfl
      (try simp only [Act.put, List.setIfInBounds_toArray, List.set_cons_zero, List.set_cons_succ])
      refine takeS (i := 1) (oi := _) (v := ?_) rfl (by kernel_rfl) (by kernel_rfl) (by kernel_rfl) (fun _ _ _ h => h) rfl (by kernel_rfl) (by kernel_rfl) (Or.inl ⟨by rfl, ?_⟩) hS ?_
      rotate_left
      · intro w0 hSw; (try dsimp only at hSw); go_simp; with_reducible rfl
      (try simp only [Act.put, List.setIfInBounds_toArray, List.set_cons_zero, List.set_cons_succ])
      refine take0 (i := 2) (oi := _) (v := ?_) rfl (by kernel_rfl) (by kernel_rfl) (by kernel_rfl) (fun _ _ _ h => h) rfl (Or.inl ⟨by rfl, ?_⟩) (fun _ => hS) ?_
      rotate_left
      · intro w0; go_simp; with_reducible rfl
      (try simp only [Act.put, List.setIfInBounds_toArray, List.set_cons_zero, List.set_cons_succ])
      refine take0 (i := 3) (oi := _) (v := ?_) rfl (by kernel_rfl) (by kernel_rfl) (by kernel_rfl) (fun _ _ _ h => h) rfl (Or.inl ⟨by rfl, ?_⟩) (fun _ => hS) ?_
      rotate_left
      · intro w0; go_simp; with_reducible rfl
      (try simp only [Act.put, List.setIfInBounds_toArray, List.set_cons_zero, List.set_cons_succ])
      refine takeS (i := 4) (oi := _) (v := ?_) rfl (by kernel_rfl) (by kernel_rfl) (by kernel_rfl) (fun _ _ _ h => h) rfl (by kernel_rfl) (by kernel_rfl) (Or.inl ⟨by rfl, ?_⟩) hS ?_
      rotate_left
      · intro w0 hSw; (try dsimp only at hSw); go_simp; with_reducible rfl
      (try simp only [Act.put, List.setIfInBounds_toArray, List.set_cons_zero, List.set_cons_succ])
      refine oneT (i := 5) (by kernel_rfl) rfl (by rfl) (fun Kq hK => ?_)
      go_simp
      refine (bits_any s 5 wd (by omega) (by omega)).mono ?_
      rintro e w2 ⟨A2, m2, d2, rfl, hO2, hb2⟩
      have HKB := Lib.hid (HKA.out.keep hb2)
      have hS2 : w2.cell? ⟨b1, 0, none⟩ = some (.int .i64 5) ∧ w2.cell? ⟨b1, 1, none⟩ = some (.slice A n c) := ⟨keepBox hb2 hS.1, keepBox hb2 hS.2⟩
      have HB2 := Lib.hid (below_next HBD.out hb2)
      have HO2 := Lib.hid hO2
      have hm2 : m2 = 5 := by have := hO2.len; rw [List.length_map, bitW_len] at this; exact this.symm
      subst hm2
      clear hO2 hb2 HBD hS
      refine hK _ _ (fun _ => hS2) ?_
      clear hK
      (try simp only [Act.put, List.setIfInBounds_toArray, List.set_cons_zero, List.set_cons_succ])
      refine oneT (i := 6) (by kernel_rfl) rfl (by rfl) (fun Kq hK => ?_)
      go_simp
      refine (clHold_any A A2 n c 5 d2 xss (bitW 5 s) w2 (HG.out.keep HB2.out) HO2.out.sl HX.out (by omega) q hq).mono ?_
      rintro e w3 ⟨rfl, m3, hm3⟩
      have hb3 : Below w2.heap.size w2 w3 := by rw [hm3]; exact below_drewN _ _
      have HKN := Lib.hid (HKB.out.keep hb3)
      have hS3 : w3.cell? ⟨b1, 0, none⟩ = some (.int .i64 5) ∧ w3.cell? ⟨b1, 1, none⟩ = some (.slice A n c) := ⟨keepBox hb3 hS2.1, keepBox hb3 hS2.2⟩
      have HB3 := Lib.hid (below_next HB2.out hb3)
      clear hb3 HB2 hS2 HO2 hm3
      refine hK _ _ (fun _ => hS3) ?_
      clear hK
      (try simp only [Act.put, List.setIfInBounds_toArray, List.set_cons_zero, List.set_cons_succ])
      refine doneT (by kernel_rfl) ?_ _
      cases q
      · have hcs : cntF xss (s + 1) = cntF xss s := by rw [HCS.out, hq.out]; simp
        clear HCS hS3 hq
        go_wp2_with fail
        go_roundw
        case rel => exact ⟨s + 1, by omega, by rw [hcs], by go_num, HB3, HKN⟩
        case measure => simp [intOf] <;> omega
      · have hcs : Hid (cntF xss (s + 1) = cntF xss s + 1) := by show _ = _; rw [HCS.out, hq.out]; simp
        clear HCS hS3 hq
        go_wp2_with fail
        go_roundw
        case rel => exact ⟨s + 1, by omega, by rw [hcs.out]; go_num, by go_num, HB3, HKN⟩
        case measure => simp [intOf] <;> omega
    · obtain rfl : s = 32 := by omega
      go_wp2_with fail
      go_ret
      exact ⟨rfl, HB.out⟩
end Go.Proofs.YtlfgcblijfflfaaGreat

/- The plain law of TopParities: Gauss's way, the models counted and the search tell alike. -/
namespace Go.Proofs.YtlfgcblijfflfaaGreat
open Go.RowKit
set_option linter.unusedSimpArgs false

theorem all_flat {a : List Bool} : ∀ {ps : List Pr}, (∀ p ∈ ps, Fine 5 p) → allB (ps.flatMap clausesF) a = ps.all (parB a)
  | [], _ => rfl
  | p :: t, h => by
    rw [List.flatMap_cons, List.all_cons, ← all_clauses (fun v hv => ((h p (by simp)).2 v hv).1), ← all_flat (fun q hq => h q (List.mem_cons_of_mem _ hq))]
    unfold allB
    exact List.all_append
theorem flat_mem {ps : List Pr} (h : ∀ p ∈ ps, Fine 5 p) : ∀ x ∈ ps.flatMap clausesF, x.length ≤ 24 ∧ Lits 5 x := fun x hx => by
  obtain ⟨p, hp, hxp⟩ := List.mem_flatMap.1 hx
  have h1 := clausesF_mem (vars := 5) (h p hp) x hxp
  have h2 := fine_len (h p hp)
  exact ⟨by omega, h1.2⟩
theorem flat_len {ps : List Pr} (h : ∀ p ∈ ps, Fine 5 p) : (ps.flatMap clausesF).length ≤ 32 * ps.length := by
  induction ps with
  | nil => simp
  | cons p t ih =>
    have h1 := clausesF_len p
    have h2 := fine_len (h p (by simp))
    have h3 : 2 ^ p.of.length ≤ 2 ^ 5 := Nat.pow_le_pow_right (by omega) h2
    have h4 := ih (fun q hq => h q (List.mem_cons_of_mem _ hq))
    rw [List.flatMap_cons, List.length_append, List.length_cons]
    omega
theorem cnt_pos {xss : List (List Int)} {s : Nat} (hs : s < 32) (h : allB xss (bitW 5 s) = true) : 0 < cntF xss 32 := by
  unfold cntF
  rw [List.length_pos_iff_exists_mem]
  exact ⟨s, List.mem_filter.2 ⟨List.mem_range.2 hs, h⟩⟩
theorem cnt_zero {xss : List (List Int)} (h : ∀ a, allB xss a = false) : cntF xss 32 = 0 := by
  unfold cntF
  rw [List.length_eq_zero_iff, List.filter_eq_nil_iff]
  intro q _
  rw [h]
  simp
theorem par_none {ps : List Pr} (hf : ∀ p ∈ ps, Fine 5 p) (h : solveF ps [] = none) (a : List Bool) : allB (ps.flatMap clausesF) a = false := by
  rw [all_flat hf]
  obtain ⟨p, hp, hb⟩ := solve_none hf h a
  rw [List.all_eq_false]
  exact ⟨p, hp, by rw [hb]; simp⟩
theorem par_some {ps rows qs : List Pr} (hf : ∀ p ∈ ps, Fine 5 p) (h : solveF ps [] = some rows) (hp : rows.Perm qs) : allB (ps.flatMap clausesF) (assignF 5 qs) = true := by
  rw [all_flat hf, List.all_eq_true]
  exact solve_some hf h hp
theorem par_cnt {ps rows qs : List Pr} (hf : ∀ p ∈ ps, Fine 5 p) (h : solveF ps [] = some rows) (hp : rows.Perm qs) : 0 < cntF (ps.flatMap clausesF) 32 := by
  obtain ⟨s, h1, h2⟩ := bitW_all (assignF 5 qs)
  rw [assignF_len] at h1 h2
  exact cnt_pos (s := s) (by simpa using h1) (by rw [h2]; exact par_some hf h hp)
theorem beside_par {xss : List (List Int)} (hn : xss.length ≤ 400) (hx : ∀ x ∈ xss, x.length ≤ 24 ∧ Lits 5 x) : besideR 5 xss [] = (0, 0) := by
  unfold besideR
  rw [checkC_of (by omega) (by omega) hn hx]
  rfl
/-- The search tells as Gauss's way does. -/
theorem answ_par {ps qs : List Pr} {w' : World} {st st0 : Int} {hb : Option Addr} {hn hc : Nat} (hf : ∀ p ∈ ps, Fine 5 p) (h : Answ 5 (ps.flatMap clausesF) [] 2000 w' st hb hn hc)
    (hst : (st0 = 2 ∧ solveF ps [] = none) ∨ (st0 = 1 ∧ ∃ rows, solveF ps [] = some rows ∧ rows.Perm qs)) : st = st0 := by
  rcases h.one with e | e | e
  · obtain ⟨bs, _, _, h1, _⟩ := h.yes e
    rcases hst with ⟨_, h2⟩ | ⟨h2, _⟩
    · rw [par_none hf h2] at h1; cases h1
    · omega
  · rcases hst with ⟨h2, _⟩ | ⟨_, rows, h2, h3⟩
    · omega
    · exact (h.no e (assignF 5 qs) (par_some hf h2 h3) (by simp)).elim
  · have := h.out e
    simp at this
end Go.Proofs.YtlfgcblijfflfaaGreat
