/- Clausal proofs, plainly: what is wrong with steps, which step is refused; what is taken has no model; a clause more does no harm. -/
import Derived.Test.YtabjbpkojbdgaaaPropPlain
import Derived.Test.YtabjbpkojbdgaaaSortPlain
namespace Go.Proofs.Ytabjbpkojbdgaaa

/-- The first step that is wrong: a code and its place. -/
def wrongF (vars : Int) : List (Int × List Int) → Nat → Int × Int
  | [], _ => (0, 0)
  | (k, l) :: t, i => if k ≠ 1 ∧ k ≠ 2 then (4, i) else if (badF vars [] l).2 ≠ 0 then ((badF vars [] l).2, i) else wrongF vars t (i + 1)
/-- What is wrong with clauses and steps. -/
def stepsR (vars : Int) (xss : List (List Int)) (rs : List (Int × List Int)) : Int × Int :=
  if (checkC vars xss).1 ≠ 0 then checkC vars xss else if 3000 < rs.length then (2, -1) else wrongF vars rs 0
theorem wrongF_ok {vars : Int} : ∀ (rs : List (Int × List Int)) (i : Nat), (wrongF vars rs i).1 = 0 → wrongF vars rs i = (0, 0) ∧ ∀ r ∈ rs, (r.1 = 1 ∨ r.1 = 2) ∧ Lits vars r.2
  | [], _, _ => ⟨rfl, by simp⟩
  | (k, l) :: t, i, h => by
    rw [wrongF] at h ⊢
    by_cases h1 : k ≠ 1 ∧ k ≠ 2
    · rw [if_pos h1] at h; simp at h
    · rw [if_neg h1] at h ⊢
      by_cases h2 : (badF vars [] l).2 ≠ 0
      · rw [if_pos h2] at h; exact absurd h h2
      · rw [if_neg h2] at h ⊢
        obtain ⟨e, ht⟩ := wrongF_ok t (i + 1) h
        refine ⟨e, fun r hr => ?_⟩
        rcases List.mem_cons.1 hr with rfl | hr
        · exact ⟨by simp; omega, (badF_lits (by simpa using h2)).2⟩
        · exact ht r hr
theorem stepsR_ok {vars : Int} {xss : List (List Int)} {rs : List (Int × List Int)} (h : (stepsR vars xss rs).1 = 0) : stepsR vars xss rs = (0, 0) ∧ (checkC vars xss).1 = 0 ∧ rs.length ≤ 3000 ∧ ∀ r ∈ rs, (r.1 = 1 ∨ r.1 = 2) ∧ Lits vars r.2 := by
  unfold stepsR at h ⊢
  by_cases h1 : (checkC vars xss).1 ≠ 0
  · rw [if_pos h1] at h; exact absurd h h1
  · rw [if_neg h1] at h ⊢
    by_cases h2 : 3000 < rs.length
    · rw [if_pos h2] at h; simp at h
    · rw [if_neg h2] at h ⊢
      obtain ⟨e, ht⟩ := wrongF_ok rs 0 h
      exact ⟨e, by simpa using h1, by omega, ht⟩
/-- Is y the clause x, in whatever order? -/
def likeB (x y : List Int) : Bool := (y.length == x.length) && (sortF y == sortF x)
theorem likeB_iff {x y : List Int} : likeB x y = true ↔ sortF y = sortF x := by
  unfold likeB
  constructor
  · intro h; simp at h; exact h.2
  · intro h
    have : y.length = x.length := by rw [← sortF_len y, h, sortF_len]
    simp [h, this]
/-- The first step that is refused; -1: taken; n: how many steps there are. -/
def whyF (vars : Int) (n : Nat) : List (List Int) → List (Int × List Int) → Nat → Int
  | l, [], _ => if l.any (fun x => x.isEmpty) then -1 else n
  | l, (k, x) :: t, i => if k = 1 then (if fallsF vars l x then whyF vars n (l ++ [x]) t (i + 1) else i) else
      (if idxF (likeB x) l 0 < 0 then i else whyF vars n (l.eraseIdx (idxF (likeB x) l 0).toNat) t (i + 1))
/-- .. as the reference tells: its clauses are in order. -/
def refF (vars : Int) (n : Nat) : List (List Int) → List (Int × List Int) → Nat → Int
  | l, [], _ => if l.any (fun x => x.isEmpty) then -1 else n
  | l, (k, x) :: t, i => if k = 1 then (if fallsF vars l x then refF vars n (l ++ [sortF x]) t (i + 1) else i) else
      (if sortF x ∈ l then refF vars n (l.erase (sortF x)) t (i + 1) else i)
theorem falB_perm {t c d : List Int} {b : Int} (h : c.Perm d) : falB t b c = falB t b d := by
  rw [Bool.eq_iff_iff, falB_iff, falB_iff]
  exact ⟨fun h1 l hl => h1 l (h.mem_iff.2 hl), fun h1 l hl => h1 l (h.mem_iff.1 hl)⟩
theorem mustF_perm {t c d : List Int} (h : c.Perm d) (hc : Cls c) : mustF t c c = mustF t d d := by
  have hd : Cls d := ⟨fun h0 => hc.1 (h.mem_iff.2 h0), h.nodup_iff.1 hc.2⟩
  have e1 := stF_ref (t := t) hc.1 hc.2
  have e2 := stF_ref (t := t) hd.1 hd.2
  rw [stF_zero t c hc.1] at e1
  rw [stF_zero t d hd.1] at e2
  have hp : (nofF t c).Perm (nofF t d) := h.filter _
  generalize nofF t c = u at e1 hp
  generalize nofF t d = v at e2 hp
  match u, v, hp, e1, e2 with
  | [], [], _, e1, e2 => exact (Prod.mk.inj e1).2.symm.trans (Prod.mk.inj e2).2
  | [], _ :: _, hp, _, _ => have := hp.length_eq; simp at this
  | _ :: _, [], hp, _, _ => have := hp.length_eq; simp at this
  | [x], [y], hp, e1, e2 =>
    have : x = y := by simpa using hp
    subst this
    exact (Prod.mk.inj e1).2.symm.trans (Prod.mk.inj e2).2
  | [x], y :: z :: r, hp, _, _ => have := hp.length_eq; simp at this
  | x :: z :: r, [y], hp, _, _ => have := hp.length_eq; simp at this
  | x :: z :: r, y :: z' :: r', _, e1, e2 =>
    have h1 := (Prod.mk.inj e1).2
    have h2 := (Prod.mk.inj e2).2
    simp at h1 h2
    rw [← h1, ← h2]
theorem idxF_map {α β : Type} {p : β → Bool} {q : α → Bool} {f : α → β} : ∀ (l : List α) (i : Nat), (∀ x ∈ l, p (f x) = q x) → idxF p (l.map f) i = idxF q l i
  | [], _, _ => rfl
  | x :: t, i, h => by
    rw [List.map_cons, idxF, idxF, h x (by simp), idxF_map t (i + 1) (fun y hy => h y (by simp [hy]))]
theorem runF_sort {xss : List (List Int)} (hc : ∀ c ∈ xss, Cls c) : ∀ (k : Nat) (t y : List Int), runF (xss.map sortF) k t y = runF xss k t y
  | 0, _, _ => rfl
  | k + 1, t, y => by
    have e1 : firF t (xss.map sortF) 0 = firF t xss 0 := idxF_map xss 0 (fun c hc' => falB_perm (sortF_perm c))
    have e2 : uniF t (xss.map sortF) 0 = uniF t xss 0 := idxF_map xss 0 (fun c hc' => by rw [mustF_perm (sortF_perm c).symm (hc c hc')])
    rw [runF, runF, e1, e2]
    by_cases h1 : 0 ≤ firF t xss 0
    · rw [if_pos h1, if_pos h1]
    · rw [if_neg h1, if_neg h1]
      by_cases h2 : uniF t xss 0 < 0
      · rw [if_pos h2, if_pos h2]
      · rw [if_neg h2, if_neg h2]
        obtain ⟨c, h3, h4, h5, h6, h7⟩ := uni_spec (t := t) (xss := xss) (by omega)
        have e3 : mustF t ((xss.map sortF).getD (uniF t xss 0).toNat []) ((xss.map sortF).getD (uniF t xss 0).toNat []) = mustF t (xss.getD (uniF t xss 0).toNat []) (xss.getD (uniF t xss 0).toNat []) := by
          have h8 : (xss.map sortF).getD (uniF t xss 0).toNat [] = sortF c := by rw [List.getD_eq_getElem?_getD, List.getElem?_map, h3]; rfl
          rw [h5, h8]
          exact (mustF_perm (sortF_perm c).symm (hc c h4)).symm
        rw [e3]
        exact runF_sort hc k _ _
theorem fallsF_sort {vars : Int} {xss : List (List Int)} {c : List Int} (hc : ∀ c ∈ xss, Lits vars c) : fallsF vars (xss.map sortF) c = fallsF vars xss c := by
  unfold fallsF askF
  rw [runF_sort (fun c h => (hc c h).cls)]
theorem idx_erase {x : List Int} : ∀ (l : List (List Int)) (i : Nat), (0 ≤ idxF (likeB x) l i → (l.eraseIdx ((idxF (likeB x) l i).toNat - i)).map sortF = (l.map sortF).erase (sortF x) ∧ sortF x ∈ l.map sortF) ∧ (idxF (likeB x) l i < 0 → sortF x ∉ l.map sortF)
  | [], _ => by simp [idxF]
  | y :: t, i => by
    rw [idxF]
    by_cases h : likeB x y = true
    · rw [if_pos h]
      have h' := likeB_iff.1 h
      refine ⟨fun _ => ?_, fun hn => by omega⟩
      have e : ((i : Int)).toNat - i = 0 := by omega
      rw [e, List.map_cons, h']
      simp
    · rw [if_neg h]
      have hne : sortF y ≠ sortF x := fun e => h (likeB_iff.2 e)
      obtain ⟨h1, h2⟩ := idx_erase (x := x) t (i + 1)
      refine ⟨fun hp => ?_, fun hn => ?_⟩
      · obtain ⟨h3, h4⟩ := h1 hp
        have hge : (i : Int) + 1 ≤ idxF (likeB x) t (i + 1) := by
          rcases idxF_lt (likeB x) t (i + 1) with h5 | ⟨h5, _⟩
          · omega
          · omega
        have e : (idxF (likeB x) t (i + 1)).toNat - i = ((idxF (likeB x) t (i + 1)).toNat - (i + 1)) + 1 := by omega
        rw [e, List.eraseIdx_cons_succ, List.map_cons, List.map_cons, h3, List.erase_cons_tail (by simpa using hne)]
        exact ⟨rfl, by simp [h4]⟩
      · have := h2 hn
        simp only [List.map_cons, List.mem_cons, not_or]
        exact ⟨fun e => hne e.symm, this⟩
theorem eraseIdx_lits {vars : Int} {l : List (List Int)} (h : ∀ c ∈ l, Lits vars c) (k : Nat) : ∀ c ∈ l.eraseIdx k, Lits vars c := fun c hc => h c (List.mem_of_mem_eraseIdx hc)
theorem snoc_lits {vars : Int} {l : List (List Int)} {x : List Int} (h : ∀ c ∈ l, Lits vars c) (hx : Lits vars x) : ∀ c ∈ l ++ [x], Lits vars c := fun c hc => by
  rcases List.mem_append.1 hc with hc | hc
  · exact h c hc
  · simp at hc; subst hc; exact hx
theorem any_empty_sort (l : List (List Int)) : (l.map sortF).any (fun x => x.isEmpty) = l.any (fun x => x.isEmpty) := by
  rw [List.any_map]
  congr 1
  funext x
  have := sortF_len x
  show (sortF x).isEmpty = x.isEmpty
  rw [Bool.eq_iff_iff, List.isEmpty_iff_length_eq_zero, List.isEmpty_iff_length_eq_zero, this]
/-- The program tells what the reference tells. -/
theorem why_ref {vars : Int} {n : Nat} : ∀ (rs : List (Int × List Int)) (l : List (List Int)) (i : Nat), (∀ c ∈ l, Lits vars c) → (∀ r ∈ rs, (r.1 = 1 ∨ r.1 = 2) ∧ Lits vars r.2) → refF vars n (l.map sortF) rs i = whyF vars n l rs i
  | [], l, _, _, _ => by rw [refF, whyF, any_empty_sort]
  | (k, x) :: t, l, i, hl, hr => by
    have hx := (hr (k, x) (by simp)).2
    have ht : ∀ r ∈ t, (r.1 = 1 ∨ r.1 = 2) ∧ Lits vars r.2 := fun r h => hr r (by simp [h])
    rw [refF, whyF, fallsF_sort hl]
    by_cases hk : k = 1
    · rw [if_pos hk, if_pos hk]
      cases fallsF vars l x
      · simp
      · simp only [if_true]
        have := why_ref (n := n) t (l ++ [x]) (i + 1) (snoc_lits hl hx) ht
        rw [List.map_append] at this
        exact this
    · rw [if_neg hk, if_neg hk]
      obtain ⟨h1, h2⟩ := idx_erase (x := x) l 0
      by_cases h0 : idxF (likeB x) l 0 < 0
      · rw [if_pos h0, if_neg (h2 h0)]
      · obtain ⟨h3, h4⟩ := h1 (by omega)
        rw [if_neg h0, if_pos h4]
        rw [Nat.sub_zero] at h3
        rw [← h3]
        exact why_ref t _ (i + 1) (eraseIdx_lits hl _) ht
/-- GOLDBERG, NOVIKOV: what is taken has no model. -/
theorem why_sound {vars : Int} {n : Nat} {a : List Bool} : ∀ (rs : List (Int × List Int)) (l : List (List Int)) (i : Nat), (∀ c ∈ l, Lits vars c) → (∀ r ∈ rs, (r.1 = 1 ∨ r.1 = 2) ∧ Lits vars r.2) → allB l a = true → whyF vars n l rs i ≠ -1
  | [], l, _, _, _, ha => by
    rw [whyF]
    split
    · rename_i h
      exfalso
      obtain ⟨x, hx, he⟩ := List.any_eq_true.1 h
      have := (List.all_eq_true.1 ha) x hx
      rw [List.isEmpty_iff] at he
      subst he
      simp [satB] at this
    · omega
  | (k, x) :: t, l, i, hl, hr, ha => by
    have hx := (hr (k, x) (by simp)).2
    have ht : ∀ r ∈ t, (r.1 = 1 ∨ r.1 = 2) ∧ Lits vars r.2 := fun r h => hr r (by simp [h])
    rw [whyF]
    by_cases hk : k = 1
    · rw [if_pos hk]
      cases hf : fallsF vars l x
      · simp
      · simp only [if_true]
        refine why_sound (a := a) t _ (i + 1) (snoc_lits hl hx) ht ?_
        have h1 := fallsF_sound (fun c hc => (hl c hc).cls.1) hx.cls.1 ha hf
        unfold allB at ha ⊢
        rw [List.all_append, ha]
        simp [h1]
    · rw [if_neg hk]
      split
      · omega
      · refine why_sound (a := a) t _ (i + 1) (eraseIdx_lits hl _) ht ?_
        unfold allB at ha ⊢
        rw [List.all_eq_true] at ha ⊢
        exact fun c hc => ha c (List.mem_of_mem_eraseIdx hc)
/-- Propagation of more clauses, in whatever order, falls at least as often. -/
theorem fallsF_more {vars : Int} {l m : List (List Int)} {c : List Int} (v0 : 0 ≤ vars) (hl : ∀ c ∈ l, Lits vars c) (hm : ∀ c ∈ m, Lits vars c) (hc : Lits vars c) (h : ∀ x ∈ l, ∃ y ∈ m, sortF y = sortF x) (hf : fallsF vars l c = true) : fallsF vars m c = true := by
  cases hg : fallsF vars m c
  · exfalso
    unfold fallsF askF at hf hg
    have ok := runF_ok v0 hm (vars.toNat + 1) (negF c) ((negF c).map fun _ => -1) hc.neg (by omega)
    have hneg : (runF m (vars.toNat + 1) (negF c) ((negF c).map fun _ => -1)).2.2 < 0 := by simpa using hg
    have hs := ok.shut hneg
    obtain ⟨u, hu⟩ := ok.ext
    have := (runF_more (xss := l) (s := (runF m (vars.toNat + 1) (negF c) ((negF c).map fun _ => -1)).1) (fun c hc => (hl c hc).cls.1) (fun x hx => by
      obtain ⟨y, hy, e⟩ := h x hx
      have hp := perm_of_sortF e
      obtain ⟨h1, h2⟩ := hs y hy
      exact ⟨by rw [← falB_perm hp]; exact h1, by rw [← mustF_perm hp (hm y hy).cls]; exact h2⟩) (vars.toNat + 1) (negF c) ((negF c).map fun _ => -1) (fun x hx => by rw [hu]; exact List.mem_append_left _ hx)).2
    rw [this] at hf
    simp at hf
  · rfl
/-- A clause more does no harm. -/
theorem why_more {vars : Int} {n : Nat} (v0 : 0 ≤ vars) : ∀ (rs : List (Int × List Int)) (l m : List (List Int)) (ex : List (List Int)) (i : Nat), (∀ c ∈ l, Lits vars c) → (∀ c ∈ m, Lits vars c) → (∀ r ∈ rs, (r.1 = 1 ∨ r.1 = 2) ∧ Lits vars r.2) → (m.map sortF).Perm (l.map sortF ++ ex) → whyF vars n l rs i = -1 → whyF vars n m rs i = -1
  | [], l, m, ex, _, _, _, _, hp, h => by
    rw [whyF] at h ⊢
    split at h
    · rename_i h1
      rw [if_pos]
      rw [← any_empty_sort] at h1 ⊢
      obtain ⟨x, hx, he⟩ := List.any_eq_true.1 h1
      exact List.any_eq_true.2 ⟨x, hp.mem_iff.2 (List.mem_append_left _ hx), he⟩
    · omega
  | (k, x) :: t, l, m, ex, i, hl, hm, hr, hp, h => by
    have hx := (hr (k, x) (by simp)).2
    have ht : ∀ r ∈ t, (r.1 = 1 ∨ r.1 = 2) ∧ Lits vars r.2 := fun r h => hr r (by simp [h])
    have hsub : ∀ z ∈ l, ∃ y ∈ m, sortF y = sortF z := fun z hz => by
      have := hp.mem_iff.2 (List.mem_append_left _ (List.mem_map.2 ⟨z, hz, rfl⟩))
      exact List.mem_map.1 this
    rw [whyF] at h ⊢
    by_cases hk : k = 1
    · rw [if_pos hk] at h ⊢
      cases hf : fallsF vars l x
      · rw [hf] at h; simp at h
      · rw [hf] at h
        simp only [if_true] at h
        rw [fallsF_more v0 hl hm hx hsub hf]
        simp only [if_true]
        refine why_more v0 t (l ++ [x]) (m ++ [x]) ex (i + 1) (snoc_lits hl hx) (snoc_lits hm hx) ht ?_ h
        rw [List.map_append, List.map_append]
        refine (hp.append_right _).trans ?_
        rw [List.append_assoc, List.append_assoc]
        exact List.Perm.append_left _ List.perm_append_comm
    · rw [if_neg hk] at h ⊢
      obtain ⟨h1, h2⟩ := idx_erase (x := x) l 0
      obtain ⟨g1, g2⟩ := idx_erase (x := x) m 0
      by_cases h0 : idxF (likeB x) l 0 < 0
      · rw [if_pos h0] at h; omega
      · rw [if_neg h0] at h
        obtain ⟨h3, h4⟩ := h1 (by omega)
        have h5 : sortF x ∈ m.map sortF := hp.mem_iff.2 (List.mem_append_left _ h4)
        have h6 : ¬ idxF (likeB x) m 0 < 0 := fun e => g2 e h5
        rw [if_neg h6]
        obtain ⟨g3, _⟩ := g1 (by omega)
        rw [Nat.sub_zero] at h3 g3
        refine why_more v0 t _ _ ex (i + 1) (eraseIdx_lits hl _) (eraseIdx_lits hm _) ht ?_ h
        rw [h3, g3]
        have := hp.erase (sortF x)
        rw [List.erase_append_left _ h4] at this
        exact this
end Go.Proofs.Ytabjbpkojbdgaaa
