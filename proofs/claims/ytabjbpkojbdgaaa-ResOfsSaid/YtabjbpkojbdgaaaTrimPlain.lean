/- Trimmed proofs, plainly: which clauses are wanted; what is wanted is taken. -/
import Derived.Test.YtabjbpkojbdgaaaShut
import Derived.Test.YtabjbpkojbdgaaaStepPlain
namespace Go.Proofs.Ytabjbpkojbdgaaa

/-- The learnt clauses of steps. -/
def learntF (rs : List (Int × List Int)) : List (List Int) := (rs.filter (fun r => r.1 == 1)).map (·.2)
theorem learntF_cons (k : Int) (x : List Int) (t : List (Int × List Int)) : learntF ((k, x) :: t) = if k = 1 then x :: learntF t else learntF t := by
  unfold learntF
  rw [List.filter_cons]
  by_cases hk : k = 1
  · simp [hk]
  · have : (k == 1) = false := by simpa using hk
    simp [hk]
/-- Does one of these clauses have the variable of x? -/
def notedB (row : List (List Int)) (out : List Int) (x : Int) : Bool := out.any (fun j => (row.getD j.toNat []).any (fun u => u.natAbs == x.natAbs))
/-- The clauses that a trail with a false clause needs, as the program goes back. -/
def cauF (row : List (List Int)) (t y : List Int) : Nat → List Int → List Int
  | 0, out => out
  | k + 1, out => if 0 ≤ y.getD k 0 ∧ notedB row out (t.getD k 0) = true then cauF row t y k (out ++ [y.getD k 0]) else cauF row t y k out
/-- .. as the reference does: nothing twice. -/
def needF (row : List (List Int)) (t y : List Int) : Nat → List Int → List Int
  | 0, out => out
  | k + 1, out => if 0 ≤ y.getD k 0 ∧ notedB row out (t.getD k 0) = true ∧ hasB out (y.getD k 0) = false then needF row t y k (out ++ [y.getD k 0]) else needF row t y k out
theorem noted_same {row : List (List Int)} {o p : List Int} (h : ∀ x, x ∈ o ↔ x ∈ p) (x : Int) : notedB row o x = notedB row p x := by
  unfold notedB
  rw [Bool.eq_iff_iff, List.any_eq_true, List.any_eq_true]
  exact ⟨fun ⟨j, hj, hx⟩ => ⟨j, (h j).1 hj, hx⟩, fun ⟨j, hj, hx⟩ => ⟨j, (h j).2 hj, hx⟩⟩
theorem cau_need {row : List (List Int)} {t y : List Int} : ∀ (k : Nat) (o p : List Int), (∀ x, x ∈ o ↔ x ∈ p) → ∀ x, x ∈ cauF row t y k o ↔ x ∈ needF row t y k p
  | 0, o, p, h => h
  | k + 1, o, p, h => by
    rw [cauF, needF, noted_same h]
    by_cases h1 : 0 ≤ y.getD k 0
    · by_cases h2 : notedB row p (t.getD k 0) = true
      · rw [if_pos ⟨h1, h2⟩]
        by_cases h3 : hasB p (y.getD k 0) = false
        · rw [if_pos ⟨h1, h2, h3⟩]
          exact cau_need k _ _ fun x => by rw [List.mem_append, List.mem_append, h x]
        · rw [if_neg fun h' => h3 h'.2.2]
          refine cau_need k _ _ fun x => ?_
          have h4 : y.getD k 0 ∈ p := hasB_iff.1 (by simpa using h3)
          rw [List.mem_append, h x]
          constructor
          · rintro (h5 | h5)
            · exact h5
            · rw [List.mem_singleton] at h5; rw [h5]; exact h4
          · exact .inl
      · rw [if_neg fun h' => h2 h'.2, if_neg fun h' => h2 h'.2.1]
        exact cau_need k _ _ h
    · rw [if_neg fun h' => h1 h'.1, if_neg fun h' => h1 h'.1]
      exact cau_need k _ _ h
theorem cauF_mem {row : List (List Int)} {t y : List Int} : ∀ (k : Nat) (o : List Int) (x : Int), k ≤ y.length → x ∈ cauF row t y k o → x ∈ o ∨ (x ∈ y ∧ 0 ≤ x)
  | 0, o, x, _, h => .inl h
  | k + 1, o, x, hk, h => by
    rw [cauF] at h
    split at h
    · rename_i h1
      rcases cauF_mem k _ x (by omega) h with h2 | h2
      · rcases List.mem_append.1 h2 with h3 | h3
        · exact .inl h3
        · rw [List.mem_singleton] at h3
          right
          rw [h3]
          exact ⟨by rw [List.getD_eq_getElem?_getD, List.getElem?_eq_getElem (by omega)]; exact List.getElem_mem _, h1.1⟩
      · exact .inr h2
    · exact cauF_mem k o x (by omega) h
theorem cauF_sub {row : List (List Int)} {t y : List Int} : ∀ (k : Nat) (o : List Int) (x : Int), x ∈ o → x ∈ cauF row t y k o
  | 0, o, x, h => h
  | k + 1, o, x, h => by
    rw [cauF]
    split
    · exact cauF_sub k _ x (List.mem_append_left _ h)
    · exact cauF_sub k _ x h
/-- Why a clause falls. -/
def causesF (vars : Int) (row : List (List Int)) (i : Nat) : List Int :=
  if (askF vars (row.take i) (negF (row.getD i []))).2.2 < 0 then []
  else cauF row (askF vars (row.take i) (negF (row.getD i []))).1 (askF vars (row.take i) (negF (row.getD i []))).2.1 (askF vars (row.take i) (negF (row.getD i []))).1.length [(askF vars (row.take i) (negF (row.getD i []))).2.2]
theorem causes_lt {vars : Int} {row : List (List Int)} {i : Nat} (v0 : 0 ≤ vars) (hc : ∀ c ∈ row, Lits vars c) (hi : i < row.length) : ∀ x ∈ causesF vars row i, 0 ≤ x ∧ x < i := by
  intro x hx
  have hrow : Lits vars (row.getD i []) := by rw [List.getD_eq_getElem?_getD, List.getElem?_eq_getElem hi]; exact hc _ (List.getElem_mem _)
  have ok := runF_ok v0 (fun c h => hc c (List.mem_of_mem_take h)) (xss := row.take i) (vars.toNat + 1) (negF (row.getD i [])) ((negF (row.getD i [])).map fun _ => -1) hrow.neg (by omega)
  have hlen : (row.take i).length = i := by rw [List.length_take]; omega
  unfold causesF at hx
  split at hx
  · simp at hx
  · rename_i hneg
    rcases cauF_mem _ _ x (by unfold askF; rw [← ok.same (by simp)]; exact Nat.le_refl _) hx with h1 | ⟨h1, h2⟩
    · rw [List.mem_singleton] at h1
      have := ok.bad (by unfold askF at hneg; omega)
      rw [hlen] at this
      unfold askF at h1 hneg
      omega
    · have := ok.why (fun k hk => by rw [List.mem_map] at hk; obtain ⟨_, _, rfl⟩ := hk; omega) x h1
      rw [hlen] at this
      omega

/-- All places of a list are marked. -/
def markF (o : List Bool) (ks : List Int) : List Bool := ks.foldl (fun o k => o.set k.toNat true) o
theorem markF_len : ∀ (ks : List Int) (o : List Bool), (markF o ks).length = o.length
  | [], o => rfl
  | k :: t, o => by
    show (markF (o.set k.toNat true) t).length = _
    rw [markF_len t]; simp
theorem markF_at : ∀ (ks : List Int) (o : List Bool) (j : Nat), j < o.length → ((markF o ks).getD j false = true ↔ o.getD j false = true ∨ ∃ k ∈ ks, k.toNat = j)
  | [], o, j, _ => by simp [markF]
  | k :: t, o, j, hj => by
    show (markF (o.set k.toNat true) t).getD j false = true ↔ _
    rw [markF_at t _ j (by simpa using hj)]
    by_cases hk : k.toNat = j
    · have : (o.set k.toNat true).getD j false = true := by rw [List.getD_eq_getElem?_getD, hk, List.getElem?_set_self hj]; rfl
      rw [this]
      simp [hk]
    · have : (o.set k.toNat true).getD j false = o.getD j false := by rw [List.getD_eq_getElem?_getD, List.getD_eq_getElem?_getD, List.getElem?_set_ne hk]
      rw [this]
      simp [hk]
theorem markF_same {o : List Bool} {ks ls : List Int} (h : ∀ x, x ∈ ks ↔ x ∈ ls) : markF o ks = markF o ls := by
  refine List.ext_getElem (by rw [markF_len, markF_len]) fun j h1 h2 => ?_
  have hj : j < o.length := by rwa [markF_len] at h1
  have a1 := markF_at ks o j hj
  have a2 := markF_at ls o j hj
  rw [List.getD_eq_getElem?_getD, List.getElem?_eq_getElem h1] at a1
  rw [List.getD_eq_getElem?_getD, List.getElem?_eq_getElem h2] at a2
  rw [Bool.eq_iff_iff]
  simp only [Option.getD_some] at a1 a2
  rw [a1, a2]
  exact ⟨fun h' => h'.imp id fun ⟨k, hk, e⟩ => ⟨k, (h k).1 hk, e⟩, fun h' => h'.imp id fun ⟨k, hk, e⟩ => ⟨k, (h k).2 hk, e⟩⟩

/-- From a clause down to the given ones: what each wanted one needs is wanted; the argument is the place and one more. -/
def wantF (vars : Int) (row : List (List Int)) (m : Nat) : Nat → List Bool → List Bool
  | 0, o => o
  | i + 1, o => if i < m then o else wantF vars row m i (if o.getD i false = true then markF o (causesF vars row i) else o)
/-- The first clause without literals. -/
def emptyF (row : List (List Int)) : Int := idxF (fun x => x.isEmpty) row 0
def wantedF (vars : Int) (xss : List (List Int)) (rs : List (Int × List Int)) : List Bool :=
  wantF vars (xss ++ learntF rs) xss.length ((emptyF (xss ++ learntF rs)).toNat + 1) ((List.replicate (xss ++ learntF rs).length false).set (emptyF (xss ++ learntF rs)).toNat true)
theorem wantF_len {vars : Int} {row : List (List Int)} {m : Nat} : ∀ (i : Nat) (o : List Bool), (wantF vars row m i o).length = o.length
  | 0, o => rfl
  | i + 1, o => by
    rw [wantF]
    split
    · rfl
    · rw [wantF_len i]
      split
      · rw [markF_len]
      · rfl
theorem wantF_spec {vars : Int} {row : List (List Int)} {m : Nat} (v0 : 0 ≤ vars) (hc : ∀ c ∈ row, Lits vars c) : ∀ (i : Nat) (o : List Bool), o.length = row.length → i ≤ row.length →
    (∀ j, j < row.length → o.getD j false = true → (wantF vars row m i o).getD j false = true) ∧
    (∀ j, i ≤ j → j < row.length → (wantF vars row m i o).getD j false = o.getD j false) ∧
    (∀ j, m ≤ j → j < i → (wantF vars row m i o).getD j false = true → ∀ x ∈ causesF vars row j, (wantF vars row m i o).getD x.toNat false = true)
  | 0, o, _, _ => ⟨fun _ _ h => h, fun _ _ _ => rfl, fun _ _ h => by omega⟩
  | i + 1, o, hl, hi => by
    rw [wantF]
    by_cases hm : i < m
    · rw [if_pos hm]
      exact ⟨fun _ _ h => h, fun _ _ _ => rfl, fun j h1 h2 => by omega⟩
    · rw [if_neg hm]
      by_cases ho : o.getD i false = true
      · rw [if_pos ho]
        have hcl := causes_lt v0 hc (i := i) (by omega)
        obtain ⟨a1, a2, a3⟩ := wantF_spec v0 hc (m := m) i (markF o (causesF vars row i)) (by rw [markF_len]; exact hl) (by omega)
        refine ⟨fun j hj h => a1 j hj ((markF_at _ o j (by omega)).2 (.inl h)), fun j h1 h2 => ?_, fun j h1 h2 h3 x hx => ?_⟩
        · rw [a2 j (by omega) h2, Bool.eq_iff_iff, markF_at _ o j (by omega)]
          constructor
          · rintro (h | ⟨k, hk, e⟩)
            · exact h
            · have := hcl k hk; omega
          · exact .inl
        · by_cases hji : j = i
          · subst hji
            have := hcl x hx
            exact a1 _ (by omega) ((markF_at _ o _ (by omega)).2 (.inr ⟨x, hx, rfl⟩))
          · exact a3 j h1 (by omega) h3 x hx
      · rw [if_neg ho]
        obtain ⟨a1, a2, a3⟩ := wantF_spec v0 hc (m := m) i o hl (by omega)
        refine ⟨a1, fun j h1 h2 => a2 j (by omega) h2, fun j h1 h2 h3 x hx => ?_⟩
        by_cases hji : j = i
        · subst hji
          rw [a2 j (Nat.le_refl _) (by omega)] at h3
          exact absurd h3 ho
        · exact a3 j h1 (by omega) h3 x hx

/-- What is closed for all causes has the literals that they note. -/
theorem cau_in {row xs : List (List Int)} {t y : List Int} {S : Int → Prop} (hh : Hist xs t y) (hx : ∀ (k : Nat) (c : List Int), xs[k]? = some c → row.getD k [] = c) (ha : ∀ (j : Nat) (x q : Int), y[j]? = some q → q < 0 → t[j]? = some x → S x) : ∀ (k : Nat) (o : List Int), k ≤ t.length →
    (∀ x ∈ cauF row t y k o, ∀ u ∈ row.getD x.toNat [], (∀ l ∈ row.getD x.toNat [], l ≠ u → S (-l)) → S u) → ∀ (j : Nat) (x : Int), j < k → t[j]? = some x → notedB row o x = true → S x
  | 0, _, _, _, j, _, hj, _, _ => by omega
  | k + 1, o, hk, hS, j, x, hj, htx, hn => by
    have hky : k < y.length := by rw [hh.1]; omega
    have hkt : k < t.length := by omega
    have hyk : y[k]? = some (y.getD k 0) := by rw [List.getD_eq_getElem?_getD, List.getElem?_eq_getElem hky]; rfl
    have htk : t[k]? = some (t.getD k 0) := by rw [List.getD_eq_getElem?_getD, List.getElem?_eq_getElem hkt]; rfl
    rw [cauF] at hS
    by_cases hjk : j = k
    · subst hjk
      have e : t.getD j 0 = x := by rw [htk] at htx; injection htx
      by_cases h0 : 0 ≤ y.getD j 0
      · rw [if_pos ⟨h0, by rw [e]; exact hn⟩] at hS
        obtain ⟨c, c1, c2, c3⟩ := hh.2 j _ x hyk htx h0
        have hrow := hx _ c c1
        have ih := cau_in hh hx ha j (o ++ [y.getD j 0]) (by omega) hS
        have := hS (y.getD j 0) (cauF_sub j _ _ (by simp)) x (by rw [hrow]; exact c2)
        rw [hrow] at this
        refine this fun l hl hne => ?_
        obtain ⟨i, hi, e⟩ := List.getElem_of_mem (c3 l hl hne)
        rw [List.length_take] at hi
        refine ih i (-l) (by omega) (by rw [List.getElem?_eq_some_iff]; exact ⟨by omega, by rw [← e]; simp⟩) ?_
        unfold notedB
        rw [List.any_eq_true]
        exact ⟨y.getD j 0, by simp, by rw [hrow, List.any_eq_true]; exact ⟨l, hl, by simp⟩⟩
      · exact ha j x _ hyk (by omega) htx
    · split at hS
      · refine cau_in hh hx ha k _ (by omega) hS j x (by omega) htx ?_
        unfold notedB at hn ⊢
        rw [List.any_append, hn]
        rfl
      · exact cau_in hh hx ha k o (by omega) hS j x (by omega) htx hn
/-- A clause falls by its causes alone. -/
theorem causes_falls {vars : Int} {row cur : List (List Int)} {i : Nat} (v0 : 0 ≤ vars) (hc : ∀ c ∈ row, Lits vars c) (hd : ∀ c ∈ cur, Lits vars c) (hi : i < row.length) (hf : fallsF vars (row.take i) (row.getD i []) = true)
    (h : ∀ x ∈ causesF vars row i, ∃ z ∈ cur, sortF z = sortF (row.getD x.toNat [])) : fallsF vars cur (sortF (row.getD i [])) = true := by
  have hrow : Lits vars (row.getD i []) := by rw [List.getD_eq_getElem?_getD, List.getElem?_eq_getElem hi]; exact hc _ (List.getElem_mem _)
  have hsort : Lits vars (sortF (row.getD i [])) := ⟨fun x hx => hrow.1 x (sortF_mem.1 hx), (sortF_perm _).pairwise_iff (fun h => h.symm) |>.2 hrow.2⟩
  have hz : ∀ c ∈ cur, (0 : Int) ∉ c := fun c h => (hd c h).cls.1
  have ok := runF_ok v0 (fun c h => hc c (List.mem_of_mem_take h)) (xss := row.take i) (vars.toNat + 1) (negF (row.getD i [])) ((negF (row.getD i [])).map fun _ => -1) hrow.neg (by omega)
  have ok2 := runF_ok v0 hd (vars.toNat + 1) (negF (sortF (row.getD i []))) ((negF (sortF (row.getD i []))).map fun _ => -1) hsort.neg (by omega)
  have hh := (runF_hist (xss := row.take i) (vars.toNat + 1) (negF (row.getD i [])) ((negF (row.getD i [])).map fun _ => -1) ⟨by simp, fun j k x h1 h2 h0 => by
    have := List.mem_of_getElem? h1
    rw [List.mem_map] at this
    obtain ⟨_, _, rfl⟩ := this
    omega⟩).1
  have hy := runF_y (xss := row.take i) (negF (row.getD i [])) (vars.toNat + 1) (negF (row.getD i [])) ((negF (row.getD i [])).map fun _ => -1) (by simp) (fun j x _ h => List.mem_of_getElem? h)
  have hwhy := ok.why (fun k hk => by rw [List.mem_map] at hk; obtain ⟨_, _, rfl⟩ := hk; omega)
  unfold fallsF at hf ⊢
  rw [decide_eq_true_eq] at hf ⊢
  unfold causesF at h
  rw [if_neg (by omega)] at h
  unfold askF at hf h ⊢
  generalize hr : runF (row.take i) (vars.toNat + 1) (negF (row.getD i [])) ((negF (row.getD i [])).map fun _ => -1) = r at hf h ok hh hy hwhy
  obtain ⟨t, y, a⟩ := r
  generalize hr2 : runF cur (vars.toNat + 1) (negF (sortF (row.getD i []))) ((negF (sortF (row.getD i []))).map fun _ => -1) = r2 at ok2 ⊢
  obtain ⟨s, y2, a2⟩ := r2
  simp only at hf h ok hh hy hwhy ok2 ⊢
  refine Int.not_lt.1 fun hlt => ?_
  have hs := ok2.shut hlt
  have hS := shut_run hz hs
  obtain ⟨u2, hu2⟩ := ok2.ext
  have hneg : ∀ x ∈ negF (row.getD i []), x ∈ s := fun x hx => by
    rw [hu2]
    obtain ⟨l, hl, rfl⟩ := List.mem_map.1 hx
    exact List.mem_append_left _ (List.mem_map.2 ⟨l, sortF_mem.2 hl, rfl⟩)
  have hclosed : ∀ x ∈ cauF row t y t.length [a], ∀ u ∈ row.getD x.toNat [], (∀ l ∈ row.getD x.toNat [], l ≠ u → -l ∈ s) → u ∈ s := fun x hx u hu hl => by
    obtain ⟨z, hz1, hz2⟩ := h x hx
    have hp := perm_of_sortF hz2
    exact hS z hz1 u (hp.mem_iff.2 hu) fun l hl' => hl l (hp.mem_iff.1 hl')
  have hx : ∀ (k : Nat) (c : List Int), (row.take i)[k]? = some c → row.getD k [] = c := fun k c hk => by
    have hki : k < i := by
      rcases Nat.lt_or_ge k i with h | h
      · exact h
      · rw [List.getElem?_take_eq_none h] at hk; cases hk
    rw [List.getElem?_take_of_lt hki] at hk
    rw [List.getD_eq_getElem?_getD, hk]; rfl
  have key := cau_in (S := fun x => x ∈ s) hh hx (fun j x q h1 h2 h3 => by
    have := (hwhy q (List.mem_of_getElem? h1)).1
    obtain rfl : q = -1 := by omega
    exact hneg x (hy j x h1 h3)) t.length [a] (Nat.le_refl _) hclosed
  obtain ⟨c, c1, c2⟩ := ok.fals hf
  have hrc := hx _ c c1
  obtain ⟨z, hz1, hz2⟩ := h a (cauF_sub _ _ _ (by simp))
  rw [hrc] at hz2
  have hp := perm_of_sortF hz2
  have hcl : Lits vars c := hc c (List.mem_of_mem_take (List.mem_of_getElem? c1))
  have hf2 := (hs z hz1).1
  rw [Bool.eq_false_iff] at hf2
  refine hf2 (falB_iff.2 fun l hl hne => ?_)
  have hlc := hp.mem_iff.1 hl
  have hm := falB_iff.1 c2 l hlc hne
  obtain ⟨j, hj, e⟩ := List.getElem_of_mem hm
  refine key j (-l) hj (by rw [List.getElem?_eq_some_iff]; exact ⟨hj, e⟩) ?_
  unfold notedB
  rw [List.any_eq_true]
  exact ⟨a, by simp, by rw [hrc, List.any_eq_true]; exact ⟨l, hlc, by simp⟩⟩

/-- What is taken: each learnt clause falls by all ahead of it, and one has no literals. -/
theorem why_row {vars : Int} {n : Nat} (v0 : 0 ≤ vars) : ∀ (rs : List (Int × List Int)) (l p : List (List Int)) (i : Nat), (∀ c ∈ l, Lits vars c) → (∀ c ∈ p, Lits vars c) → (∀ r ∈ rs, (r.1 = 1 ∨ r.1 = 2) ∧ Lits vars r.2) → (∀ x ∈ l, x ∈ p) → whyF vars n l rs i = -1 →
    (∀ k, p.length ≤ k → k < (p ++ learntF rs).length → fallsF vars ((p ++ learntF rs).take k) ((p ++ learntF rs).getD k []) = true) ∧ (p ++ learntF rs).any (fun x => x.isEmpty) = true
  | [], l, p, i, hl, hp, _, hs, h => by
    have e : p ++ learntF [] = p := by simp [learntF]
    rw [e]
    refine ⟨fun k h1 h2 => by omega, ?_⟩
    rw [whyF] at h
    split at h
    · rename_i h1
      obtain ⟨x, hx, he⟩ := List.any_eq_true.1 h1
      exact List.any_eq_true.2 ⟨x, hs x hx, he⟩
    · omega
  | (k, x) :: t, l, p, i, hl, hp, hr, hs, h => by
    have hx := (hr (k, x) (by simp)).2
    have ht : ∀ r ∈ t, (r.1 = 1 ∨ r.1 = 2) ∧ Lits vars r.2 := fun r h => hr r (by simp [h])
    rw [whyF] at h
    rw [learntF_cons]
    by_cases hk : k = 1
    · rw [if_pos hk] at h ⊢
      cases hf : fallsF vars l x
      · rw [hf] at h; simp at h
      · rw [hf] at h
        simp only [if_true] at h
        have e : p ++ x :: learntF t = (p ++ [x]) ++ learntF t := by simp
        obtain ⟨i1, i2⟩ := why_row v0 t (l ++ [x]) (p ++ [x]) (i + 1) (snoc_lits hl hx) (snoc_lits hp hx) ht (fun z hz => by
          rcases List.mem_append.1 hz with hz | hz
          · exact List.mem_append_left _ (hs z hz)
          · exact List.mem_append_right _ hz) h
        rw [e]
        refine ⟨fun q h1 h2 => ?_, i2⟩
        by_cases hq : q = p.length
        · subst hq
          have e1 : ((p ++ [x]) ++ learntF t).take p.length = p := by rw [List.append_assoc, List.take_left']; rfl
          have e2 : ((p ++ [x]) ++ learntF t).getD p.length [] = x := by rw [List.getD_eq_getElem?_getD, List.append_assoc, List.getElem?_append_right (Nat.le_refl _)]; simp
          rw [e1, e2]
          exact fallsF_more v0 hl hp hx (fun z hz => ⟨z, hs z hz, rfl⟩) hf
        · exact i1 q (by simp; omega) h2
    · rw [if_neg hk] at h ⊢
      split at h
      · omega
      · exact why_row v0 t _ p (i + 1) (eraseIdx_lits hl _) hp ht (fun z hz => hs z (List.mem_of_mem_eraseIdx hz)) h

/-- Those that are wanted. -/
def pickF {α : Type} (W : List Bool) : List α → Nat → List α
  | [], _ => []
  | x :: r, i => if W.getD i false = true then x :: pickF W r (i + 1) else pickF W r (i + 1)
theorem pickF_mem {α : Type} {W : List Bool} {x : α} : ∀ (l : List α) (i : Nat), x ∈ pickF W l i → x ∈ l
  | [], _, h => h
  | y :: r, i, h => by
    rw [pickF] at h
    split at h
    · rcases List.mem_cons.1 h with h | h
      · simp [h]
      · exact List.mem_cons_of_mem _ (pickF_mem r (i + 1) h)
    · exact List.mem_cons_of_mem _ (pickF_mem r (i + 1) h)
theorem pickF_len {α : Type} {W : List Bool} : ∀ (l : List α) (i : Nat), (pickF W l i).length ≤ l.length
  | [], _ => Nat.le_refl _
  | y :: r, i => by
    have := pickF_len (W := W) r (i + 1)
    rw [pickF]
    split
    · simp; omega
    · simp; omega
theorem pickF_has {α : Type} {W : List Bool} {x : α} : ∀ (l : List α) (i k : Nat), l[k]? = some x → W.getD (i + k) false = true → x ∈ pickF W l i
  | [], _, _, h, _ => by simp at h
  | y :: r, i, 0, h, hw => by
    simp at h hw
    subst h
    rw [pickF, if_pos (by simpa using hw)]
    simp
  | y :: r, i, k + 1, h, hw => by
    have := pickF_has r (i + 1) k (by simpa using h) (by rw [← hw]; congr 1; omega)
    rw [pickF]
    split
    · exact List.mem_cons_of_mem _ this
    · exact this
theorem lits_sort {vars : Int} {x : List Int} (h : Lits vars x) : Lits vars (sortF x) := ⟨fun y hy => h.1 y (sortF_mem.1 hy), ((sortF_perm x).pairwise_iff (fun h => h.symm)).2 h.2⟩
/-- The wanted clauses, one behind the other, are taken. -/
theorem want_taken {vars : Int} {row : List (List Int)} {W : List Bool} {m f n : Nat} (v0 : 0 ≤ vars) (hc : ∀ c ∈ row, Lits vars c) (hf : f < row.length) (hfe : row.getD f [] = []) (hW : W.getD f false = true)
    (hcl : ∀ j, m ≤ j → j < row.length → W.getD j false = true → ∀ x ∈ causesF vars row j, W.getD x.toNat false = true) (hfall : ∀ k, m ≤ k → k < row.length → fallsF vars (row.take k) (row.getD k []) = true) :
    ∀ (r : List (List Int)) (i q : Nat) (cur : List (List Int)), r = row.drop i → m ≤ i → i ≤ row.length → (∀ c ∈ cur, Lits vars c) → (∀ k, k < i → W.getD k false = true → ∃ z ∈ cur, sortF z = sortF (row.getD k [])) → whyF vars n cur ((pickF W r i).map (fun x => (1, sortF x))) q = -1
  | [], i, q, cur, hr, hm, hi, hd, hk => by
    have hi2 : row.length ≤ i := by
      have := congrArg List.length hr
      simp at this
      omega
    obtain ⟨z, hz, e⟩ := hk f (by omega) hW
    rw [pickF, List.map_nil, whyF, if_pos]
    rw [List.any_eq_true]
    refine ⟨z, hz, ?_⟩
    have h1 := sortF_len z
    rw [e, hfe] at h1
    rw [List.isEmpty_iff_length_eq_zero, ← h1]
    rfl
  | x :: r, i, q, cur, hr, hm, hi, hd, hk => by
    have hil : i < row.length := by
      rcases Nat.lt_or_ge i row.length with h | h
      · exact h
      · rw [List.drop_of_length_le h] at hr; cases hr
    rw [List.drop_eq_getElem_cons hil] at hr
    obtain ⟨rfl, hr'⟩ := List.cons.inj hr
    have hgd : row.getD i [] = row[i] := by rw [List.getD_eq_getElem?_getD, List.getElem?_eq_getElem hil]; rfl
    rw [pickF]
    by_cases hw : W.getD i false = true
    · rw [if_pos hw, List.map_cons, whyF, if_pos rfl]
      have hfl := causes_falls v0 hc hd hil (hfall i hm hil) (fun y hy => hk y.toNat (by have := causes_lt v0 hc hil y hy; omega) (hcl i hm hil hw y hy))
      rw [hgd] at hfl
      rw [hfl]
      simp only [if_true]
      refine want_taken v0 hc hf hfe hW hcl hfall r (i + 1) (q + 1) (cur ++ [sortF row[i]]) hr' (by omega) (by omega) (snoc_lits hd (lits_sort (hc _ (List.getElem_mem _)))) fun k hk1 hk2 => ?_
      by_cases hki : k = i
      · subst hki
        exact ⟨sortF row[k], by simp, by rw [hgd, sortF_idem]⟩
      · obtain ⟨z, hz, e⟩ := hk k (by omega) hk2
        exact ⟨z, List.mem_append_left _ hz, e⟩
    · rw [if_neg hw]
      refine want_taken v0 hc hf hfe hW hcl hfall r (i + 1) q cur hr' (by omega) (by omega) hd fun k hk1 hk2 => ?_
      by_cases hki : k = i
      · subst hki; exact absurd hk2 hw
      · exact hk k (by omega) hk2
/-- WHAT IS WANTED IS TAKEN. -/
theorem trim_taken {vars : Int} {xss : List (List Int)} {rs : List (Int × List Int)} {n n2 : Nat} (v0 : 0 ≤ vars) (hx : ∀ c ∈ xss, Lits vars c) (hr : ∀ r ∈ rs, (r.1 = 1 ∨ r.1 = 2) ∧ Lits vars r.2) (h : whyF vars n xss rs 0 = -1) :
    whyF vars n2 (pickF (wantedF vars xss rs) xss 0) ((pickF (wantedF vars xss rs) (learntF rs) xss.length).map (fun x => (1, sortF x))) 0 = -1 := by
  obtain ⟨h1, h2⟩ := why_row v0 rs xss xss 0 hx hx hr (fun _ h => h) h
  have hle : ∀ c ∈ learntF rs, Lits vars c := fun c hc => by
    unfold learntF at hc
    obtain ⟨r, hr1, rfl⟩ := List.mem_map.1 hc
    exact (hr r (List.mem_filter.1 hr1).1).2
  have hrow : ∀ c ∈ xss ++ learntF rs, Lits vars c := fun c hc => by
    rcases List.mem_append.1 hc with hc | hc
    · exact hx c hc
    · exact hle c hc
  have e0 : decide (0 ≤ emptyF (xss ++ learntF rs)) = true := by unfold emptyF; rw [idxF_any]; exact h2
  have e1 : 0 ≤ emptyF (xss ++ learntF rs) := of_decide_eq_true e0
  obtain ⟨hf, hfe⟩ : (emptyF (xss ++ learntF rs)).toNat < (xss ++ learntF rs).length ∧ (xss ++ learntF rs).getD (emptyF (xss ++ learntF rs)).toNat [] = [] := by
    rcases idxF_lt (fun x : List Int => x.isEmpty) (xss ++ learntF rs) 0 with h3 | ⟨_, h3, x, h4, h5⟩
    · unfold emptyF at e1; omega
    · have e : (idxF (fun x : List Int => x.isEmpty) (xss ++ learntF rs) 0).toNat - 0 = (emptyF (xss ++ learntF rs)).toNat := by unfold emptyF; omega
      rw [e] at h4
      refine ⟨(List.getElem?_eq_some_iff.1 h4).1, ?_⟩
      rw [List.getD_eq_getElem?_getD, h4]
      simpa using h5
  obtain ⟨a1, a2, a3⟩ := wantF_spec v0 hrow (m := xss.length) ((emptyF (xss ++ learntF rs)).toNat + 1) ((List.replicate (xss ++ learntF rs).length false).set (emptyF (xss ++ learntF rs)).toNat true) (by simp) (by omega)
  have hW : (wantedF vars xss rs).getD (emptyF (xss ++ learntF rs)).toNat false = true := a1 _ hf (by rw [List.getD_eq_getElem?_getD, List.getElem?_set_self (by simpa using hf)]; rfl)
  refine want_taken (row := xss ++ learntF rs) (W := wantedF vars xss rs) (m := xss.length) v0 hrow hf hfe hW (fun j hj1 hj2 hj3 x hx => ?_) h1 (learntF rs) xss.length 0 _ (by rw [List.drop_left']; rfl) (Nat.le_refl _) (by simp) (fun c hc => hx c (pickF_mem _ _ hc)) fun k hk1 hk2 => ?_
  · rcases Nat.lt_or_ge j ((emptyF (xss ++ learntF rs)).toNat + 1) with h3 | h3
    · exact a3 j hj1 h3 hj3 x hx
    · exfalso
      have := a2 j h3 hj2
      unfold wantedF at hj3
      rw [this, List.getD_eq_getElem?_getD, List.getElem?_set_ne (by omega), List.getElem?_replicate, if_pos hj2] at hj3
      cases hj3
  · refine ⟨xss[k], pickF_has xss 0 k (List.getElem?_eq_getElem hk1) (by simpa using hk2), ?_⟩
    rw [List.getD_eq_getElem?_getD, List.getElem?_append_left hk1, List.getElem?_eq_getElem hk1]
    rfl
end Go.Proofs.Ytabjbpkojbdgaaa
