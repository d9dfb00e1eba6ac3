/- Unit propagation, plainly: what the program's trail does is what the reference's does; it is sound; who asks more gets more. -/
import Derived.Test.YtlfgcblijfflfaaGreatClean
import Derived.Test.YtlfgcblijfflfaaGreatSatPlain
namespace Go.Proofs.YtlfgcblijfflfaaGreat

/-- A clause on a trail, as the program tells it: is it false? its open literal, or 0. -/
def stF (t : List Int) : List Int → Int → Bool × Int
  | [], o => (o == 0, o)
  | l :: r, o => if hasB t (-l) then stF t r o else if hasB t l || o != 0 then (false, 0) else stF t r l
/-- Are all literals but one false? -/
def falB (t : List Int) (but : Int) : List Int → Bool
  | [] => true
  | l :: r => if l != but && !hasB t (-l) then false else falB t but r
/-- The literal by which a clause c must be (s: what is left to look at). -/
def mustF (t c : List Int) : List Int → Int
  | [] => 0
  | l :: r => if !hasB t l && !hasB t (-l) then (if falB t l c then l else 0) else mustF t c r
/-- The literals of a clause that are not false. -/
def nofF (t c : List Int) : List Int := c.filter (fun l => !hasB t (-l))

theorem stF_open (t : List Int) : ∀ (c : List Int) (o : Int), o ≠ 0 → stF t c o = (false, if (nofF t c).isEmpty then o else 0)
  | [], o, h => by simp [stF, nofF, h]
  | l :: r, o, h => by
    rw [stF, nofF, List.filter_cons]
    cases hl : hasB t (-l)
    · simp [h]
    · simp only [if_true, Bool.not_true, Bool.false_eq_true, if_false]
      exact stF_open t r o h
theorem stF_zero (t : List Int) : ∀ (c : List Int), (0 : Int) ∉ c → stF t c 0 = match nofF t c with | [] => (true, 0) | x :: rest => (false, if !hasB t x && rest.isEmpty then x else 0)
  | [], _ => rfl
  | l :: r, h => by
    have hr : (0 : Int) ∉ r := fun h' => h (by simp [h'])
    have hl0 : l ≠ 0 := fun e => h (by simp [e])
    rw [stF, nofF, List.filter_cons]
    cases hl : hasB t (-l)
    · simp only [Bool.false_eq_true, if_false, Bool.not_false, if_true]
      cases hx : hasB t l
      · simp only [bne_self_eq_false, Bool.or_self, Bool.false_eq_true, if_false, Bool.not_false, Bool.true_and]
        rw [stF_open t r l hl0]
        rfl
      · simp
    · simp only [if_true, Bool.not_true, Bool.false_eq_true, if_false]
      exact stF_zero t r hr
theorem falB_iff {t : List Int} {but : Int} : ∀ {c : List Int}, falB t but c = true ↔ ∀ l ∈ c, l ≠ but → -l ∈ t
  | [] => by simp [falB]
  | l :: r => by
    rw [falB]
    by_cases h1 : l = but
    · subst h1
      simp [falB_iff (c := r)]
    · cases h2 : hasB t (-l)
      · have h3 : -l ∉ t := hasB_false.1 h2
        simp [h1, h3]
      · have h3 : -l ∈ t := hasB_iff.1 h2
        simp [h1, h3, falB_iff (c := r)]
theorem mustF_find (t c : List Int) : ∀ s : List Int, mustF t c s = match s.find? (fun l => !hasB t (-l) && !hasB t l) with | none => 0 | some y => if falB t y c then y else 0
  | [] => rfl
  | l :: r => by
    rw [mustF, List.find?_cons, mustF_find t c r, Bool.and_comm]
    cases (!hasB t (-l) && !hasB t l) <;> simp
theorem mustF_nof (t c : List Int) : mustF t c c = match (nofF t c).find? (fun l => !hasB t l) with | none => 0 | some y => if falB t y c then y else 0 := by
  rw [mustF_find, nofF, List.find?_filter]
  simp only [Bool.decide_and, Bool.decide_eq_true]

theorem nof_nil {t c : List Int} (h0 : (0 : Int) ∉ c) : falB t 0 c = (nofF t c).isEmpty := by
  rw [Bool.eq_iff_iff, falB_iff, List.isEmpty_iff, nofF, List.filter_eq_nil_iff]
  constructor
  · intro h l hl
    have := h l hl (fun e => h0 (e ▸ hl))
    simp [hasB_iff.2 this]
  · intro h l hl _
    have := h l hl
    simp at this
    exact hasB_iff.1 this
/-- The program's look at a clause is the reference's. -/
theorem stF_ref {t c : List Int} (h0 : (0 : Int) ∉ c) (hd : c.Nodup) : stF t c 0 = (falB t 0 c, mustF t c c) := by
  rw [stF_zero t c h0, nof_nil h0, mustF_nof]
  cases hU : nofF t c with
  | nil => rfl
  | cons x rest =>
    have hdU : (x :: rest).Nodup := by rw [← hU]; exact hd.filter _
    have hmem : ∀ y, y ∈ x :: rest → y ∈ c ∧ -y ∉ t := fun y hy => by
      rw [← hU, nofF, List.mem_filter] at hy
      exact ⟨hy.1, by have := hy.2; simp at this; exact hasB_false.1 this⟩
    simp only [List.isEmpty_cons, List.find?_cons]
    cases hx : hasB t x
    · simp only [Bool.not_false, Bool.true_and]
      congr 1
      have : falB t x c = rest.isEmpty := by
        rw [Bool.eq_iff_iff, falB_iff, List.isEmpty_iff]
        constructor
        · intro h
          cases rest with
          | nil => rfl
          | cons y r' =>
            have hy := hmem y (by simp)
            exact absurd (h y hy.1 (fun e => by subst e; simp at hdU)) hy.2
        · intro h l hl hne
          subst h
          by_cases hlt : -l ∈ t
          · exact hlt
          · have : l ∈ nofF t c := by rw [nofF, List.mem_filter]; exact ⟨hl, by simp [hasB_false.2 hlt]⟩
            rw [hU] at this
            simp at this
            exact absurd this hne
      rw [this]
    · simp only [Bool.not_true, Bool.false_and, Bool.false_eq_true, if_false]
      congr 1
      split
      · rfl
      · rename_i y hy
        have hyr := List.mem_of_find?_eq_some hy
        have hyt := List.find?_some hy
        simp at hyt
        have : falB t y c = false := by
          rw [Bool.eq_false_iff]
          intro h
          have := falB_iff.1 h x (hmem x (by simp)).1 (fun e => by subst e; rw [hx] at hyt; simp at hyt)
          exact (hmem x (by simp)).2 this
        simp [this]

/-- The program's look at all clauses: the first that is false (true), or the first that must be (false; below 0: none). -/
def scanF (t : List Int) : List (List Int) → Nat → Int → Int × Bool
  | [], _, f => (f, false)
  | c :: r, i, f => if (stF t c 0).1 then (i, true) else scanF t r (i + 1) (if (stF t c 0).2 != 0 && decide (f < 0) then i else f)
def firF (t : List Int) (xss : List (List Int)) (i : Nat) : Int := idxF (fun c => falB t 0 c) xss i
def uniF (t : List Int) (xss : List (List Int)) (i : Nat) : Int := idxF (fun c => mustF t c c != 0) xss i
/-- A clause without 0, nothing twice. -/
def Cls (c : List Int) : Prop := (0 : Int) ∉ c ∧ c.Nodup
theorem Lits.cls {vars : Int} {c : List Int} (h : Lits vars c) : Cls c := ⟨fun h0 => (h.1 0 h0).1 rfl, h.nodup⟩
theorem idxF_lt {α : Type} (p : α → Bool) : ∀ (l : List α) (i : Nat), idxF p l i = -1 ∨ ((i : Int) ≤ idxF p l i ∧ idxF p l i < i + l.length ∧ ∃ x, l[(idxF p l i).toNat - i]? = some x ∧ p x = true)
  | [], _ => by simp [idxF]
  | y :: t, i => by
    rw [idxF]
    by_cases h : p y = true
    · right
      rw [if_pos h]
      refine ⟨by omega, by simp; omega, y, ?_, h⟩
      simp
    · rw [if_neg h]
      rcases idxF_lt p t (i + 1) with h1 | ⟨h1, h2, x, h3, h4⟩
      · exact .inl h1
      · right
        refine ⟨by omega, by simp; omega, x, ?_, h4⟩
        have e : (idxF p t (i + 1)).toNat - i = ((idxF p t (i + 1)).toNat - (i + 1)) + 1 := by omega
        rw [e, List.getElem?_cons_succ]
        exact h3
theorem idxF_none {α : Type} {p : α → Bool} : ∀ {l : List α} {i : Nat}, idxF p l i < 0 ↔ ∀ x ∈ l, p x = false
  | [], _ => by simp [idxF]
  | y :: t, i => by
    rw [idxF]
    by_cases h : p y = true
    · rw [if_pos h]
      constructor
      · intro h1; omega
      · intro h1; have := h1 y (by simp); rw [h] at this; cases this
    · rw [if_neg h, idxF_none (l := t)]
      have : p y = false := by simpa using h
      simp [this]
theorem scanF_eq (t : List Int) : ∀ (xss : List (List Int)) (i : Nat) (f : Int), (∀ c ∈ xss, Cls c) →
    scanF t xss i f = if 0 ≤ firF t xss i then (firF t xss i, true) else (if f < 0 then (if uniF t xss i < 0 then f else uniF t xss i) else f, false)
  | [], i, f, _ => by simp [scanF, firF, uniF, idxF]
  | c :: r, i, f, h => by
    have hc := h c (by simp)
    rw [scanF, stF_ref hc.1 hc.2, firF, uniF, idxF, idxF]
    cases hf : falB t 0 c
    · simp only [Bool.false_eq_true, if_false]
      rw [scanF_eq t r (i + 1) _ (fun c' h' => h c' (by simp [h'])), firF, uniF]
      cases hm : (mustF t c c != 0)
      · simp
      · by_cases hf0 : f < 0
        · have h1 : ¬ ((i : Int) < 0) := by omega
          simp [hf0, h1]
        · simp [hf0]
    · simp

/-- The trail t (with its reasons y) goes on. -/
def runF (xss : List (List Int)) : Nat → List Int → List Int → List Int × List Int × Int
  | 0, t, y => (t, y, -1)
  | k + 1, t, y =>
    if 0 ≤ firF t xss 0 then (t, y, firF t xss 0)
    else if uniF t xss 0 < 0 then (t, y, -1)
    else runF xss k (t ++ [mustF t (xss.getD (uniF t xss 0).toNat []) (xss.getD (uniF t xss 0).toNat [])]) (y ++ [uniF t xss 0])

theorem Lits.len_le {vars : Int} {t : List Int} (h0 : 0 ≤ vars) (h : Lits vars t) : (t.length : Int) ≤ vars := by
  have h1 := length_le_of_sub (t.map (fun x => (x.natAbs : Int))) ((List.range vars.toNat).map (fun k : Nat => (k : Int) + 1)) ?_ ?_
  · simp at h1; omega
  · unfold List.Nodup
    rw [List.pairwise_map]
    exact h.2.imp fun hne e => hne (by omega)
  · intro x hx
    obtain ⟨y, hy, rfl⟩ := List.mem_map.1 hx
    have := h.1 y hy
    rw [List.mem_map]
    exact ⟨y.natAbs - 1, by simp; omega, by omega⟩

theorem mustF_spec {t c : List Int} (h : mustF t c c ≠ 0) : mustF t c c ∈ c ∧ mustF t c c ∉ t ∧ -mustF t c c ∉ t ∧ ∀ l ∈ c, l ≠ mustF t c c → -l ∈ t := by
  rw [mustF_find] at h ⊢
  split at h
  · simp at h
  · rename_i y hy
    have h1 := List.mem_of_find?_eq_some hy
    have h2 := List.find?_some hy
    simp at h2
    cases hf : falB t y c
    · simp [hf] at h
    · simp only [if_true]
      exact ⟨h1, hasB_false.1 h2.2, hasB_false.1 h2.1, falB_iff.1 hf⟩
/-- .. at the clause that must be first. -/
theorem uni_spec {t : List Int} {xss : List (List Int)} (h : 0 ≤ uniF t xss 0) :
    ∃ c, xss[(uniF t xss 0).toNat]? = some c ∧ c ∈ xss ∧ xss.getD (uniF t xss 0).toNat [] = c ∧ mustF t c c ≠ 0 ∧ (uniF t xss 0).toNat < xss.length := by
  rcases idxF_lt (fun c => mustF t c c != 0) xss 0 with h1 | ⟨_, h2, c, h3, h4⟩
  · unfold uniF at h; omega
  · have e : (idxF (fun c => mustF t c c != 0) xss 0).toNat - 0 = (uniF t xss 0).toNat := by unfold uniF; omega
    rw [e] at h3
    exact ⟨c, h3, List.mem_of_getElem? h3, by simp [List.getD, h3], by simpa using h4, (List.getElem?_eq_some_iff.1 h3).1⟩
theorem lits_snoc {vars : Int} {t c : List Int} (ht : Lits vars t) (hc : Lits vars c) (h : mustF t c c ≠ 0) : Lits vars (t ++ [mustF t c c]) := by
  obtain ⟨h1, h2, h3, _⟩ := mustF_spec h
  refine ⟨fun x hx => ?_, List.pairwise_append.2 ⟨ht.2, by simp, fun x hx y hy => ?_⟩⟩
  · rcases List.mem_append.1 hx with hx | hx
    · exact ht.1 x hx
    · simp at hx; subst hx; exact hc.1 _ h1
  · simp at hy
    subst hy
    intro e
    rcases Int.natAbs_eq_natAbs_iff.1 e with e | e
    · exact h2 (e ▸ hx)
    · exact h3 (e ▸ hx)

/-- What is known of a trail that went on. -/
structure RunOk (vars : Int) (xss : List (List Int)) (t y t' y' : List Int) (a : Int) : Prop where
  lits : Lits vars t'
  ext : ∃ u, t' = t ++ u
  same : y.length = t.length → y'.length = t'.length
  bad : 0 ≤ a → a < xss.length
  at_ : a = -1 ∨ 0 ≤ a
  shut : a < 0 → ∀ c ∈ xss, falB t' 0 c = false ∧ mustF t' c c = 0
  fals : 0 ≤ a → ∃ c, xss[a.toNat]? = some c ∧ falB t' 0 c = true
  why : (∀ k ∈ y, -1 ≤ k ∧ k < xss.length) → ∀ k ∈ y', -1 ≤ k ∧ k < xss.length
theorem runF_ok {vars : Int} {xss : List (List Int)} (h0 : 0 ≤ vars) (hc : ∀ c ∈ xss, Lits vars c) : ∀ (k : Nat) (t y : List Int), Lits vars t → vars < k + t.length → RunOk vars xss t y (runF xss k t y).1 (runF xss k t y).2.1 (runF xss k t y).2.2
  | 0, t, y, ht, hk => by have := ht.len_le h0; omega
  | k + 1, t, y, ht, hk => by
    rw [runF]
    by_cases h1 : 0 ≤ firF t xss 0
    · rw [if_pos h1]
      rcases idxF_lt (fun c => falB t 0 c) xss 0 with h2 | ⟨_, h2, c, h3, h4⟩
      · unfold firF at h1; omega
      · refine ⟨ht, ⟨[], by simp⟩, id, fun _ => by show firF t xss 0 < _; unfold firF; omega, .inr h1, fun h => by simp at h; omega, fun _ => ⟨c, ?_, h4⟩, id⟩
        have e : (idxF (fun c => falB t 0 c) xss 0).toNat - 0 = (firF t xss 0).toNat := by unfold firF; omega
        rw [e] at h3
        exact h3
    · rw [if_neg h1]
      by_cases h2 : uniF t xss 0 < 0
      · rw [if_pos h2]
        have g1 : ∀ c ∈ xss, falB t 0 c = false := idxF_none.1 (show idxF (fun c => falB t 0 c) xss 0 < 0 by unfold firF at h1; omega)
        have g2 : ∀ c ∈ xss, (mustF t c c != 0) = false := idxF_none.1 h2
        exact ⟨ht, ⟨[], by simp⟩, id, fun h => by simp at h, .inl rfl, fun _ c hc' => ⟨g1 c hc', by simpa using g2 c hc'⟩, fun h => by simp at h, id⟩
      · rw [if_neg h2]
        obtain ⟨c, h3, h4, h5, h6, h7⟩ := uni_spec (t := t) (xss := xss) (by omega)
        rw [h5]
        have hl := lits_snoc ht (hc c h4) h6
        have ih := runF_ok h0 hc k (t ++ [mustF t c c]) (y ++ [uniF t xss 0]) hl (by simp; omega)
        refine ⟨ih.lits, ?_, fun e => ih.same (by simp [e]), ih.bad, ih.at_, ih.shut, ih.fals, fun hy => ih.why fun z hz => ?_⟩
        · obtain ⟨u, hu⟩ := ih.ext
          exact ⟨mustF t c c :: u, by rw [hu]; simp⟩
        · rcases List.mem_append.1 hz with hz | hz
          · exact hy z hz
          · simp at hz; subst hz; omega

/-- Sound: where all clauses and the first trail hold, all of the trail holds, and nothing is false. -/
theorem runF_sound {xss : List (List Int)} {a : List Bool} (hz : ∀ c ∈ xss, (0 : Int) ∉ c) (ha : allB xss a = true) : ∀ (k : Nat) (t y : List Int), (∀ x ∈ t, litB a x = true) → (∀ x ∈ (runF xss k t y).1, litB a x = true) ∧ (runF xss k t y).2.2 = -1
  | 0, t, y, ht => ⟨ht, rfl⟩
  | k + 1, t, y, ht => by
    have neg : ∀ c ∈ xss, ∀ l ∈ c, -l ∈ t → litB a l = false := fun c hc l hl hn => by
      have := ht _ hn
      have h0 : l ≠ 0 := fun e => hz c hc (e ▸ hl)
      unfold litB at this ⊢
      rw [Int.natAbs_neg] at this
      by_cases hp : 0 < l
      · have h2 : ¬ l < 0 := by omega
        simp [hp, h2] at this ⊢
        exact this
      · have h2 : l < 0 := by omega
        simp [hp, h2] at this ⊢
        exact this
    rw [runF]
    by_cases h1 : 0 ≤ firF t xss 0
    · exfalso
      rcases idxF_lt (fun c => falB t 0 c) xss 0 with h2 | ⟨_, h2, c, h3, h4⟩
      · unfold firF at h1; omega
      · have hc := List.mem_of_getElem? h3
        have hs := (List.all_eq_true.1 ha) c hc
        obtain ⟨l, hl, hl'⟩ := List.any_eq_true.1 hs
        have := neg c hc l hl (falB_iff.1 h4 l hl (fun e => hz c hc (e ▸ hl)))
        rw [this] at hl'; cases hl'
    · rw [if_neg h1]
      by_cases h2 : uniF t xss 0 < 0
      · rw [if_pos h2]; exact ⟨ht, rfl⟩
      · rw [if_neg h2]
        obtain ⟨c, h3, h4, h5, h6, _⟩ := uni_spec (t := t) (xss := xss) (by omega)
        rw [h5]
        refine runF_sound hz ha k _ _ fun x hx => ?_
        rcases List.mem_append.1 hx with hx | hx
        · exact ht x hx
        · simp at hx
          subst hx
          obtain ⟨_, _, _, h8⟩ := mustF_spec h6
          have hs := (List.all_eq_true.1 ha) c h4
          obtain ⟨l, hl, hl'⟩ := List.any_eq_true.1 hs
          by_cases e : l = mustF t c c
          · rw [← e]; exact hl'
          · have := neg c h4 l hl (h8 l hl e)
            rw [this] at hl'; cases hl'

/-- Who asks more gets more: s is a trail on which nothing goes on. -/
theorem runF_more {xss : List (List Int)} {s : List Int} (hz : ∀ c ∈ xss, (0 : Int) ∉ c) (hs : ∀ c ∈ xss, falB s 0 c = false ∧ mustF s c c = 0) : ∀ (k : Nat) (t y : List Int), (∀ x ∈ t, x ∈ s) → (∀ x ∈ (runF xss k t y).1, x ∈ s) ∧ (runF xss k t y).2.2 = -1
  | 0, t, y, ht => ⟨ht, rfl⟩
  | k + 1, t, y, ht => by
    rw [runF]
    by_cases h1 : 0 ≤ firF t xss 0
    · exfalso
      rcases idxF_lt (fun c => falB t 0 c) xss 0 with h2 | ⟨_, h2, c, h3, h4⟩
      · unfold firF at h1; omega
      · have hc := List.mem_of_getElem? h3
        have := (hs c hc).1
        rw [Bool.eq_false_iff] at this
        exact this (falB_iff.2 fun l hl hne => ht _ (falB_iff.1 h4 l hl hne))
    · rw [if_neg h1]
      by_cases h2 : uniF t xss 0 < 0
      · rw [if_pos h2]; exact ⟨ht, rfl⟩
      · rw [if_neg h2]
        obtain ⟨c, h3, h4, h5, h6, _⟩ := uni_spec (t := t) (xss := xss) (by omega)
        rw [h5]
        refine runF_more hz hs k _ _ fun x hx => ?_
        rcases List.mem_append.1 hx with hx | hx
        · exact ht x hx
        · simp at hx
          obtain ⟨g1, _, _, g4⟩ := mustF_spec h6
          rw [← hx] at g1 g4
          by_cases hxs : x ∈ s
          · exact hxs
          · exfalso
            obtain ⟨hs1, hs2⟩ := hs c h4
            by_cases hnx : -x ∈ s
            · rw [Bool.eq_false_iff] at hs1
              refine hs1 (falB_iff.2 fun l hl _ => ?_)
              by_cases e : l = x
              · rw [e]; exact hnx
              · exact ht _ (g4 l hl e)
            · have hf : falB s x c = true := falB_iff.2 fun l hl hne => ht _ (g4 l hl hne)
              have hx0 : x ≠ 0 := fun e => hz c h4 (e ▸ g1)
              have hfind : ∀ q : List Int, (∀ l ∈ q, l ∈ c) → x ∈ q → mustF s c q = x := by
                intro q
                induction q with
                | nil => intro _ h; simp at h
                | cons l r ih =>
                  intro hq hxq
                  rw [mustF]
                  by_cases e : l = x
                  · subst e
                    simp [hasB_false.2 hxs, hasB_false.2 hnx, hf]
                  · have : -l ∈ s := ht _ (g4 l (hq l (by simp)) e)
                    simp only [hasB_iff.2 this, Bool.not_true, Bool.and_false, Bool.false_eq_true, if_false]
                    refine ih (fun l' h' => hq l' (by simp [h'])) ?_
                    rcases List.mem_cons.1 hxq with h | h
                    · exact absurd h.symm e
                    · exact h
              have := hfind c (fun _ h => h) g1
              rw [hs2] at this
              exact hx0 this.symm

/-- The trail of clauses from asked literals. -/
def askF (vars : Int) (xss : List (List Int)) (q : List Int) : List Int × List Int × Int := runF xss (vars.toNat + 1) q (q.map fun _ => -1)
def negF (l : List Int) : List Int := l.map (fun x => -x)
def fallsF (vars : Int) (xss : List (List Int)) (c : List Int) : Bool := decide (0 ≤ (askF vars xss (negF c)).2.2)
theorem Lits.neg {vars : Int} {c : List Int} (h : Lits vars c) : Lits vars (negF c) := by
  refine ⟨fun x hx => ?_, ?_⟩
  · obtain ⟨y, hy, rfl⟩ := List.mem_map.1 hx
    have := h.1 y hy
    omega
  · unfold negF
    rw [List.pairwise_map]
    exact h.2.imp fun hne => by simpa using hne
theorem fallsF_sound {vars : Int} {xss : List (List Int)} {c : List Int} {a : List Bool} (hz : ∀ c ∈ xss, (0 : Int) ∉ c) (hc : (0 : Int) ∉ c) (ha : allB xss a = true) (h : fallsF vars xss c = true) : satB a c = true := by
  cases hs : satB a c
  · exfalso
    have := (runF_sound hz ha (vars.toNat + 1) (negF c) ((negF c).map fun _ => -1) (fun x hx => ?_)).2
    · unfold fallsF askF at h
      rw [this] at h
      simp at h
    · obtain ⟨y, hy, rfl⟩ := List.mem_map.1 hx
      have h1 : litB a y = false := by
        unfold satB at hs
        have := (List.any_eq_false.1 hs) y hy
        simpa using this
      have h0 : y ≠ 0 := fun e => hc (e ▸ hy)
      unfold litB at h1 ⊢
      rw [Int.natAbs_neg]
      by_cases hp : 0 < y
      · have h2 : ¬ y < 0 := by omega
        simp [hp, h2] at h1 ⊢
        exact h1
      · have h2 : y < 0 := by omega
        simp [hp, h2] at h1 ⊢
        exact h1
  · rfl
end Go.Proofs.YtlfgcblijfflfaaGreat
