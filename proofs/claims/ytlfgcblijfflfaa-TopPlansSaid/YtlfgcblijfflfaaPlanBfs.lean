/- Search by breadth, plainly: what it finds is a shortest plan. Of no program. -/
import Derived.Test.YtlfgcblijfflfaaPlanPlain
namespace Go.Proofs.Ytlfgcblijfflfaa
set_option linter.unusedSimpArgs false
set_option linter.unusedVariables false

/-- A state that was come to: from which, by which act, and how far. -/
structure Wy where
  s : Nat
  fr : Int
  via : Int
  long : Nat
/-- The first i states are done, and k acts of the next one. -/
structure Bfs (al : List Ac) (f0 : Nat) (W : List Wy) (i k : Nat) : Prop where
  nd : (W.map (·.s)).Nodup
  lt : ∀ x ∈ W, x.s < 16
  hd : W[0]? = some ⟨f0, -1, -1, 0⟩
  par : ∀ (j : Nat) (x : Wy), W[j]? = some x → 0 < j → ∃ (j' : Nat) (y : Wy) (a : Nat), j' < j ∧ W[j']? = some y ∧ x.fr = (y.s : Int) ∧ x.via = (a : Int) ∧ a < al.length ∧ appF (acAt al a) y.s = some x.s ∧ x.long = y.long + 1
  mono : ∀ (j j' : Nat) (x y : Wy), j ≤ j' → W[j]? = some x → W[j']? = some y → x.long ≤ y.long
  top : ∀ y : Wy, W[i]? = some y → ∀ x ∈ W, x.long ≤ y.long + 1
  done : ∀ (j : Nat) (x : Wy), j < i → W[j]? = some x → ∀ a, a < al.length → ∀ s', appF (acAt al a) x.s = some s' → ∃ z ∈ W, z.s = s' ∧ z.long ≤ x.long + 1
  cur : ∀ x : Wy, W[i]? = some x → ∀ a, a < k → a < al.length → ∀ s', appF (acAt al a) x.s = some s' → ∃ z ∈ W, z.s = s' ∧ z.long ≤ x.long + 1
  idx : ∀ (j : Nat) (x : Wy), W[j]? = some x → x.long ≤ j

theorem nodup_lt : ∀ {n : Nat} {l : List Nat}, l.Nodup → (∀ x ∈ l, x < n) → l.length ≤ n
  | 0, l, _, h => by
    cases l with
    | nil => simp
    | cons a r => have := h a (by simp); omega
  | n + 1, l, hn, h => by
    have ih := nodup_lt (n := n) (l := l.filter (fun x => x != n)) (hn.filter _) (fun x hx => by
      obtain ⟨h1, h2⟩ := List.mem_filter.1 hx
      have := h x h1
      have : x ≠ n := by simpa using h2
      omega)
    have hc : ∀ (r : List Nat), r.Nodup → r.length ≤ (r.filter (fun x => x != n)).length + 1 := fun r hr => by
      induction r with
      | nil => simp
      | cons a r ih =>
        have hr' := List.nodup_cons.1 hr
        by_cases e : a = n
        · subst e
          have : r.filter (fun x => x != a) = r := List.filter_eq_self.2 fun x hx => by
            have : x ≠ a := fun e => hr'.1 (e ▸ hx)
            simpa using this
          simp [this]
        · have := ih hr'.2
          simp [e]
          omega
    have := hc l hn
    omega
theorem Bfs.start (al : List Ac) {f0 : Nat} (h : f0 < 16) : Bfs al f0 [⟨f0, -1, -1, 0⟩] 0 0 where
  nd := by simp
  lt x hx := by rw [List.mem_singleton.1 hx]; exact h
  hd := rfl
  par j x hj h0 := by
    cases j with
    | zero => omega
    | succ j => simp at hj
  mono j j' x y h1 h2 h3 := by
    cases j with
    | succ j => simp at h2
    | zero => cases j' with
      | succ j' => simp at h3
      | zero => simp at h2 h3; subst h2; subst h3; simp
  top y hy x hx := by rw [List.mem_singleton.1 hx]; simp
  done j x hj := by omega
  cur x hx a ha := by omega
  idx j x hj := by
    cases j with
    | succ j => simp at hj
    | zero => simp at hj; subst hj; simp
section
variable {al : List Ac} {f0 : Nat} {W : List Wy} {i k : Nat}
theorem Bfs.len (h : Bfs al f0 W i k) : W.length ≤ 16 := by
  have := nodup_lt (n := 16) h.nd (fun x hx => by obtain ⟨y, hy, rfl⟩ := List.mem_map.1 hx; exact h.lt y hy)
  simpa using this
/-- The act is not applicable, or leads to a state that was come to. -/
theorem Bfs.skip (h : Bfs al f0 W i k) {x : Wy} (hx : W[i]? = some x) (hk : ∀ s', appF (acAt al k) x.s = some s' → ∃ z ∈ W, z.s = s') : Bfs al f0 W i (k + 1) :=
  { h with
    cur := fun y hy a ha hal s' hs' => by
      rw [hx] at hy
      cases hy
      rcases Nat.lt_succ_iff_lt_or_eq.1 ha with hlt | rfl
      · exact h.cur x hx a hlt hal s' hs'
      · obtain ⟨z, hz, e⟩ := hk s' hs'
        exact ⟨z, hz, e, h.top x hx z hz⟩ }
theorem Bfs.push (h : Bfs al f0 W i k) {x : Wy} (hx : W[i]? = some x) {s' : Nat} (hlt : s' < 16) (hs : appF (acAt al k) x.s = some s') (hk : k < al.length) (hnew : ∀ z ∈ W, z.s ≠ s') :
    Bfs al f0 (W ++ [⟨s', (x.s : Int), (k : Int), x.long + 1⟩]) i (k + 1) := by
  have hil := (List.getElem?_eq_some_iff.1 hx).1
  have at_ : ∀ {j : Nat} {y : Wy}, (W ++ [⟨s', (x.s : Int), (k : Int), x.long + 1⟩])[j]? = some y → (W[j]? = some y ∧ j < W.length) ∨ (j = W.length ∧ y = ⟨s', (x.s : Int), (k : Int), x.long + 1⟩) := fun {j y} hj => by
    rcases Nat.lt_or_ge j W.length with hl | hl
    · rw [List.getElem?_append_left hl] at hj
      exact .inl ⟨hj, hl⟩
    · rw [List.getElem?_append_right hl] at hj
      have h0 : j - W.length = 0 := by
        rcases Nat.eq_zero_or_pos (j - W.length) with e | e
        · exact e
        · rw [List.getElem?_eq_none (by simp; omega)] at hj; cases hj
      rw [h0] at hj
      simp at hj
      exact .inr ⟨by omega, hj.symm⟩
  have up : ∀ {j : Nat} {y : Wy}, W[j]? = some y → (W ++ [⟨s', (x.s : Int), (k : Int), x.long + 1⟩])[j]? = some y := fun {j y} hj => by
    rw [List.getElem?_append_left (List.getElem?_eq_some_iff.1 hj).1]; exact hj
  exact {
    nd := by
      rw [List.map_append, List.map_cons, List.map_nil, List.nodup_append]
      refine ⟨h.nd, by simp, fun a ha b hb => ?_⟩
      obtain ⟨z, hz, rfl⟩ := List.mem_map.1 ha
      rw [List.mem_singleton.1 hb]
      exact hnew z hz
    lt := fun y hy => by
      rcases List.mem_append.1 hy with hy | hy
      · exact h.lt y hy
      · rw [List.mem_singleton.1 hy]; exact hlt
    hd := up h.hd
    par := fun j y hj h0 => by
      rcases at_ hj with ⟨hj', hl⟩ | ⟨rfl, rfl⟩
      · obtain ⟨j', z, a, h1, h2, h3⟩ := h.par j y hj' h0
        exact ⟨j', z, a, h1, up h2, h3⟩
      · exact ⟨i, x, k, hil, up hx, rfl, rfl, hk, hs, rfl⟩
    mono := fun j j' y z hle hy hz => by
      rcases at_ hy with ⟨hy', hl⟩ | ⟨rfl, rfl⟩
      · rcases at_ hz with ⟨hz', _⟩ | ⟨rfl, rfl⟩
        · exact h.mono j j' y z hle hy' hz'
        · exact h.top x hx y (List.mem_of_getElem? hy')
      · rcases at_ hz with ⟨hz', hl'⟩ | ⟨rfl, rfl⟩
        · omega
        · exact Nat.le_refl _
    top := fun y hy z hz => by
      rw [up hx] at hy
      cases hy
      rcases List.mem_append.1 hz with hz | hz
      · exact h.top x hx z hz
      · rw [List.mem_singleton.1 hz]; exact Nat.le_refl _
    done := fun j y hj hy a ha s2 hs2 => by
      rcases at_ hy with ⟨hy', _⟩ | ⟨rfl, _⟩
      · obtain ⟨z, hz, h1⟩ := h.done j y hj hy' a ha s2 hs2
        exact ⟨z, List.mem_append_left _ hz, h1⟩
      · omega
    cur := fun y hy a ha hal s2 hs2 => by
      rw [up hx] at hy
      cases hy
      rcases Nat.lt_succ_iff_lt_or_eq.1 ha with hlt' | rfl
      · obtain ⟨z, hz, h1⟩ := h.cur x hx a hlt' hal s2 hs2
        exact ⟨z, List.mem_append_left _ hz, h1⟩
      · rw [hs] at hs2
        cases hs2
        exact ⟨_, List.mem_append_right _ (List.mem_singleton.2 rfl), rfl, Nat.le_refl _⟩
    idx := fun j y hj => by
      rcases at_ hj with ⟨hj', _⟩ | ⟨rfl, rfl⟩
      · exact h.idx j y hj'
      · have := h.idx i x hx
        show x.long + 1 ≤ _
        omega }
theorem Bfs.next (h : Bfs al f0 W i al.length) : Bfs al f0 W (i + 1) 0 :=
  { h with
    top := fun y hy x hx => by
      have hil := (List.getElem?_eq_some_iff.1 hy).1
      have hc : W[i]? = some W[i] := List.getElem?_eq_getElem (by omega)
      have h1 := h.top _ hc x hx
      have h2 := h.mono i (i + 1) _ _ (Nat.le_succ i) hc hy
      omega
    done := fun j x hj hx a ha s' hs' => by
      rcases Nat.lt_succ_iff_lt_or_eq.1 hj with hlt | rfl
      · exact h.done j x hlt hx a ha s' hs'
      · exact h.cur x hx a ha ha s' hs'
    cur := fun x hx a ha => by omega }
/-- Whatever can be come to in at most d acts has been come to, if all nearer ones are done. -/
theorem Bfs.reach (h : Bfs al f0 W i k) (d : Nat) (hd : ∀ (j : Nat) (x : Wy), W[j]? = some x → x.long < d → j < i) : ∀ {n : Nat} {p : List Nat} {u : Nat}, p.length = n → n ≤ d → walkF al p f0 = some u → ∃ z ∈ W, z.s = u ∧ z.long ≤ n
  | 0, p, u, hp, _, hw => by
    have : p = [] := List.eq_nil_of_length_eq_zero hp
    subst this
    cases hw
    exact ⟨_, List.mem_of_getElem? h.hd, rfl, Nat.le_refl _⟩
  | n + 1, p, u, hp, hn, hw => by
    have hne : p ≠ [] := fun e => by rw [e] at hp; simp at hp
    obtain ⟨q, a, rfl⟩ : ∃ q a, p = q ++ [a] := ⟨p.dropLast, p.getLast hne, (List.dropLast_concat_getLast hne).symm⟩
    rw [walkF_append] at hw
    cases e : walkF al q f0 with
    | none => rw [e] at hw; cases hw
    | some v =>
      rw [e] at hw
      have hql : q.length = n := by rw [List.length_append] at hp; simpa using hp
      obtain ⟨z, hz, rfl, hzl⟩ := Bfs.reach h d hd hql (by omega) e
      obtain ⟨j, hj, ej⟩ := List.getElem_of_mem hz
      have hjz : W[j]? = some z := by rw [List.getElem?_eq_getElem hj, ej]
      have hji := hd j z hjz (by omega)
      have hw' : (if a < al.length then (appF (acAt al a) z.s).bind (walkF al []) else none) = some u := hw
      split at hw'
      · rename_i hal
        cases e2 : appF (acAt al a) z.s with
        | none => rw [e2] at hw'; cases hw'
        | some s' =>
          rw [e2] at hw'
          cases hw'
          obtain ⟨y, hy, h1, h2⟩ := h.done j z hji hjz a hal _ e2
          exact ⟨y, hy, h1, by omega⟩
      · cases hw'
/-- The first state that has the goal is as near as any. -/
theorem Bfs.least (h : Bfs al f0 W i 0) {x : Wy} (hx : W[i]? = some x) {g : Nat} (hno : ∀ (j : Nat) (y : Wy), j < i → W[j]? = some y → ¬ y.s &&& g = g) {p : List Nat} {u : Nat} (hw : walkF al p f0 = some u) (hg : u &&& g = g) : x.long ≤ p.length := by
  rcases Nat.lt_or_ge p.length x.long with hlt | hge
  · have hd : ∀ (j : Nat) (y : Wy), W[j]? = some y → y.long < x.long → j < i := fun j y hy hl => by
      rcases Nat.lt_or_ge j i with hji | hji
      · exact hji
      · have := h.mono i j x y hji hx hy
        omega
    obtain ⟨z, hz, rfl, hzl⟩ := h.reach x.long hd rfl (Nat.le_of_lt hlt) hw
    obtain ⟨j, hj, ej⟩ := List.getElem_of_mem hz
    have hjz : W[j]? = some z := by rw [List.getElem?_eq_getElem hj, ej]
    exact absurd hg (hno j z (hd j z hjz (by omega)) hjz)
  · exact hge
theorem Bfs.no (h : Bfs al f0 W i k) (hi : W.length ≤ i) {g : Nat} (hno : ∀ y ∈ W, ¬ y.s &&& g = g) {p : List Nat} {u : Nat} (hw : walkF al p f0 = some u) : ¬ u &&& g = g := by
  obtain ⟨z, hz, rfl, _⟩ := h.reach p.length (fun j x hj _ => Nat.lt_of_lt_of_le (List.getElem?_eq_some_iff.1 hj).1 hi) rfl (Nat.le_refl _) hw
  exact hno z hz
/-- Going back. -/
structure Back (al : List Ac) (W : List Wy) (t L : Nat) (s : Nat) (o : List Nat) : Prop where
  here : ∃ (j : Nat) (x : Wy), W[j]? = some x ∧ x.s = s ∧ o.length + x.long = L
  walk : walkF al o.reverse s = some t
theorem Back.start {x : Wy} (hx : W[i]? = some x) : Back al W x.s x.long x.s [] := ⟨⟨i, x, hx, rfl, by simp⟩, rfl⟩
theorem Back.sum (h : Bfs al f0 W i k) {t L : Nat} {x : Wy} {o : List Nat} (hb : Back al W t L x.s o) (hx : x ∈ W) : o.length + x.long = L := by
  obtain ⟨j, hj, ej⟩ := List.getElem_of_mem hx
  have hjx : W[j]? = some x := by rw [List.getElem?_eq_getElem hj, ej]
  obtain ⟨j2, x2, g1, g2, g3⟩ := hb.here
  have e1 : (W.map (·.s))[j2]? = some x.s := by rw [List.getElem?_map, g1]; simp [g2]
  have e2 : (W.map (·.s))[j]? = some x.s := by rw [List.getElem?_map, hjx]; rfl
  have l1 := (List.getElem?_eq_some_iff.1 e1).1
  have hj2 : j2 = j := (List.getElem?_inj l1 h.nd).1 (by rw [e1, e2])
  subst hj2
  rw [hjx] at g1
  cases g1
  exact g3
theorem Bfs.mem_eq (h : Bfs al f0 W i k) {x y : Wy} (hx : x ∈ W) (hy : y ∈ W) (e : x.s = y.s) : x = y := by
  obtain ⟨j, hj, ej⟩ := List.getElem_of_mem hx
  obtain ⟨j2, hj2, ej2⟩ := List.getElem_of_mem hy
  have e1 : (W.map (·.s))[j]? = some x.s := by rw [List.getElem?_map, List.getElem?_eq_getElem hj, ej]; rfl
  have e2 : (W.map (·.s))[j2]? = some x.s := by rw [List.getElem?_map, List.getElem?_eq_getElem hj2, ej2, e]; rfl
  have l1 := (List.getElem?_eq_some_iff.1 e1).1
  have : j = j2 := (List.getElem?_inj l1 h.nd).1 (by rw [e1, e2])
  subst this
  rw [← ej, ← ej2]
theorem Back.step (h : Bfs al f0 W i k) {t L : Nat} {x : Wy} {o : List Nat} (hb : Back al W t L x.s o) (hx : x ∈ W) (hv : 0 ≤ x.via) : ∃ a s' : Nat, x.via = (a : Int) ∧ x.fr = (s' : Int) ∧ a < al.length ∧ Back al W t L s' (o ++ [a]) ∧ ∃ y ∈ W, y.s = s' ∧ y.long + 1 = x.long := by
  obtain ⟨j, hj, ej⟩ := List.getElem_of_mem hx
  have hjx : W[j]? = some x := by rw [List.getElem?_eq_getElem hj, ej]
  have h0 : 0 < j := by
    rcases Nat.eq_zero_or_pos j with e | e
    · subst e; rw [h.hd] at hjx; cases hjx; simp at hv
    · exact e
  obtain ⟨j', y, a, h1, h2, h3, h4, h5, h6, h7⟩ := h.par j x hjx h0
  obtain ⟨j2, x2, g1, g2, g3⟩ := hb.here
  have hx2 : x2.long = x.long := by
    have hnd := h.nd
    have e1 : (W.map (·.s))[j2]? = some x.s := by rw [List.getElem?_map, g1]; simp [g2]
    have e2 : (W.map (·.s))[j]? = some x.s := by rw [List.getElem?_map, hjx]; rfl
    have hj2 : j2 = j := by
      have l1 := (List.getElem?_eq_some_iff.1 e1).1
      have l2 := (List.getElem?_eq_some_iff.1 e2).1
      exact (List.getElem?_inj l1 hnd).1 (by rw [e1, e2])
    subst hj2
    rw [hjx] at g1
    cases g1
    rfl
  refine ⟨a, y.s, h4, h3, h5, ⟨⟨j', y, h2, rfl, by rw [List.length_append]; simp; omega⟩, ?_⟩, y, List.mem_of_getElem? h2, rfl, by omega⟩
  rw [List.reverse_append]
  show (if a < al.length then (appF (acAt al a) y.s).bind (walkF al o.reverse) else none) = _
  rw [if_pos h5, h6]
  exact hb.walk
theorem Back.fin (h : Bfs al f0 W i k) {t L : Nat} {x : Wy} {o : List Nat} (hb : Back al W t L x.s o) (hx : x ∈ W) (hv : x.via < 0) : walkF al o.reverse f0 = some t ∧ o.length = L := by
  obtain ⟨j, hj, ej⟩ := List.getElem_of_mem hx
  have hjx : W[j]? = some x := by rw [List.getElem?_eq_getElem hj, ej]
  have h0 : j = 0 := by
    rcases Nat.eq_zero_or_pos j with e | e
    · exact e
    · obtain ⟨_, _, a, _, _, _, h4, _⟩ := h.par j x hjx e
      omega
  subst h0
  have hjx' := hjx
  rw [h.hd] at hjx
  cases hjx
  obtain ⟨j2, x2, g1, g2, g3⟩ := hb.here
  have hx2 : x2.long = 0 := by
    have e1 : (W.map (·.s))[j2]? = some f0 := by rw [List.getElem?_map, g1]; simp [g2]
    have e2 : (W.map (·.s))[0]? = some f0 := by rw [List.getElem?_map, hjx']; rfl
    have l1 := (List.getElem?_eq_some_iff.1 e1).1
    have hj2 : j2 = 0 := (List.getElem?_inj l1 h.nd).1 (by rw [e1, e2])
    subst hj2
    rw [h.hd] at g1
    cases g1
    rfl
  exact ⟨hb.walk, by omega⟩
end
end Go.Proofs.Ytlfgcblijfflfaa
