/- What a false clause teaches, plainly (2): the resolution down to one literal of the last level; the program's look at a clause is the reference's; it ends. -/
import Derived.Test.YtlfgcblijfflfaaGreatTaughtPlain
import Derived.Test.YtlfgcblijfflfaaGreatSortPlain
namespace Go.Proofs.YtlfgcblijfflfaaGreat

/-- The place of a literal's negation on the trail; its level. -/
def plcF (t : List Int) (l : Int) : Int := idxF (fun x => x == -l) t 0
def lvF (t v : List Int) (l : Int) : Int := v.getD (plcF t l).toNat 0
theorem plc_mem {t : List Int} {l : Int} (h : -l ∈ t) : 0 ≤ plcF t l ∧ plcF t l < t.length ∧ t[(plcF t l).toNat]? = some (-l) := by
  have h1 : decide (0 ≤ plcF t l) = true := by
    unfold plcF
    rw [idxF_any, List.any_eq_true]
    exact ⟨-l, h, by simp⟩
  rcases idxF_lt (fun x => x == -l) t 0 with h2 | ⟨h2, h3, x, h4, h5⟩
  · have := of_decide_eq_true h1; unfold plcF at this; omega
  · refine ⟨of_decide_eq_true h1, by unfold plcF; omega, ?_⟩
    have e : (idxF (fun x => x == -l) t 0).toNat - 0 = (plcF t l).toNat := by unfold plcF; omega
    rw [e] at h4
    rw [h4]
    simp at h5
    rw [h5]
theorem plc_inj {t : List Int} {l m : Int} (h : -l ∈ t) (h' : -m ∈ t) (e : plcF t l = plcF t m) : l = m := by
  have h1 := (plc_mem h).2.2
  rw [e, (plc_mem h').2.2] at h1
  injection h1 with h1
  omega
theorem nodup_idx {t : List Int} (hd : t.Nodup) {i j : Nat} {x : Int} (h1 : t[i]? = some x) (h2 : t[j]? = some x) : i = j := by
  obtain ⟨a1, a2⟩ := List.getElem?_eq_some_iff.1 h1
  obtain ⟨b1, b2⟩ := List.getElem?_eq_some_iff.1 h2
  have key := List.pairwise_iff_getElem.1 hd
  rcases Nat.lt_trichotomy i j with h | h | h
  · exact absurd (a2.trans b2.symm) (key i j a1 b1 h)
  · exact h
  · exact absurd (b2.trans a2.symm) (key j i b1 a1 h)
/-- .. ahead of a place. -/
theorem plc_take {t : List Int} (hd : t.Nodup) {l : Int} {k : Nat} (h : -l ∈ t.take k) : plcF t l < k := by
  obtain ⟨i, hi, e⟩ := List.getElem_of_mem h
  have h1 := (plc_mem (List.mem_of_mem_take h)).2.2
  have h2 : t[i]? = some (-l) := by
    rw [List.getElem?_eq_some_iff]
    rw [List.length_take] at hi
    exact ⟨by omega, by rw [← e]; simp⟩
  have := nodup_idx hd h1 h2
  have := (plc_mem (List.mem_of_mem_take h)).1
  rw [List.length_take] at hi
  omega

/-- The program's look at a clause: the latest literal of the last level, and how many there are. -/
def latF (t v : List Int) (z : Int) : List Int → Int → Int → Int × Int
  | [], la, m => (la, m)
  | l :: r, la, m => if lvF t v l = z then latF t v z r (if la = 0 ∨ plcF t la < plcF t l then l else la) (m + 1) else latF t v z r la m
/-- The reference's: the latest place. -/
def lateF (t v : List Int) (z : Int) : List Int → Int → Int → Int × Int
  | [], p, m => (p, m)
  | l :: r, p, m => if lvF t v l = z then lateF t v z r (if p < plcF t l then plcF t l else p) (m + 1) else lateF t v z r p m
theorem lat_late {t v : List Int} {z : Int} (h0 : (0 : Int) ∉ t) : ∀ (c : List Int) (la p m : Int), (∀ l ∈ c, -l ∈ t) → (la = 0 ∧ p = -1 ∨ la ≠ 0 ∧ -la ∈ t ∧ p = plcF t la) →
    (latF t v z c la m).2 = (lateF t v z c p m).2 ∧ ((latF t v z c la m).1 = 0 ∧ (lateF t v z c p m).1 = -1 ∨ (latF t v z c la m).1 ≠ 0 ∧ -(latF t v z c la m).1 ∈ t ∧ (lateF t v z c p m).1 = plcF t (latF t v z c la m).1)
  | [], la, p, m, _, h => ⟨rfl, h⟩
  | l :: r, la, p, m, hc, h => by
    have hl := hc l (by simp)
    have hl0 : l ≠ 0 := fun e => h0 (by rw [e] at hl; simpa using hl)
    have hp := plc_mem hl
    rw [latF, lateF]
    split
    · refine lat_late h0 r _ _ _ (fun x hx => hc x (by simp [hx])) ?_
      rcases h with ⟨e1, e2⟩ | ⟨e1, e2, e3⟩
      · right
        rw [if_pos (.inl e1), if_pos (by omega)]
        exact ⟨hl0, hl, rfl⟩
      · right
        by_cases hlt : plcF t la < plcF t l
        · rw [if_pos (.inr hlt), if_pos (by omega)]
          exact ⟨hl0, hl, rfl⟩
        · have : ¬ (la = 0 ∨ plcF t la < plcF t l) := by simp [e1, hlt]
          rw [if_neg this, if_neg (by omega)]
          exact ⟨e1, e2, e3⟩
    · exact lat_late h0 r _ _ _ (fun x hx => hc x (by simp [hx])) h
/-- What the look tells. -/
theorem lat_spec {t v : List Int} {z : Int} (h0 : (0 : Int) ∉ t) : ∀ (c : List Int) (la m : Int), (∀ l ∈ c, -l ∈ t) → (la = 0 ∨ -la ∈ t) →
    (latF t v z c la m).2 = m + ((c.filter (fun l => lvF t v l == z)).length : Nat) ∧
    ((latF t v z c la m).1 = la ∧ (∀ l ∈ c, lvF t v l = z → la ≠ 0 ∧ plcF t l ≤ plcF t la) ∨
     (latF t v z c la m).1 ∈ c ∧ lvF t v (latF t v z c la m).1 = z ∧ (∀ l ∈ c, lvF t v l = z → plcF t l ≤ plcF t (latF t v z c la m).1) ∧ (la = 0 ∨ plcF t la ≤ plcF t (latF t v z c la m).1))
  | [], la, m, _, _ => ⟨by simp [latF], .inl ⟨rfl, by simp⟩⟩
  | l :: r, la, m, hc, hla => by
    have hl := hc l (by simp)
    have hl0 : l ≠ 0 := fun e => h0 (by rw [e] at hl; simpa using hl)
    have hr : ∀ x ∈ r, -x ∈ t := fun x hx => hc x (by simp [hx])
    rw [latF, List.filter_cons]
    by_cases hz : lvF t v l = z
    · rw [if_pos hz]
      simp only [hz, beq_self_eq_true, if_true, List.length_cons]
      by_cases hla2 : la = 0 ∨ plcF t la < plcF t l
      · rw [if_pos hla2]
        obtain ⟨i1, i2⟩ := lat_spec h0 (z := z) (v := v) r l (m + 1) hr (.inr hl)
        refine ⟨by rw [i1]; push_cast; omega, .inr ?_⟩
        rcases i2 with ⟨j1, j2⟩ | ⟨j1, j2, j3, j4⟩
        · rw [j1]
          refine ⟨by simp, hz, fun x hx hxz => ?_, ?_⟩
          · rcases List.mem_cons.1 hx with e | hx
            · rw [e]; exact Int.le_refl _
            · exact (j2 x hx hxz).2
          · rcases hla2 with h | h
            · exact .inl h
            · exact .inr (by omega)
        · have j5 : plcF t l ≤ plcF t (latF t v z r l (m + 1)).1 := by rcases j4 with h | h; exact absurd h hl0; exact h
          refine ⟨by simp [j1], j2, fun x hx hxz => ?_, ?_⟩
          · rcases List.mem_cons.1 hx with e | hx
            · rw [e]; exact j5
            · exact j3 x hx hxz
          · rcases hla2 with h | h
            · exact .inl h
            · exact .inr (by omega)
      · rw [if_neg hla2]
        have g : la ≠ 0 ∧ plcF t l ≤ plcF t la := ⟨fun e => hla2 (.inl e), by have : ¬ plcF t la < plcF t l := fun e => hla2 (.inr e); omega⟩
        obtain ⟨i1, i2⟩ := lat_spec h0 (z := z) (v := v) r la (m + 1) hr hla
        refine ⟨by rw [i1]; push_cast; omega, ?_⟩
        rcases i2 with ⟨j1, j2⟩ | ⟨j1, j2, j3, j4⟩
        · left
          refine ⟨j1, fun x hx hxz => ?_⟩
          rcases List.mem_cons.1 hx with e | hx
          · rw [e]; exact g
          · exact j2 x hx hxz
        · right
          have j5 : plcF t la ≤ plcF t (latF t v z r la (m + 1)).1 := by rcases j4 with h | h; exact absurd h g.1; exact h
          refine ⟨by simp [j1], j2, fun x hx hxz => ?_, j4⟩
          rcases List.mem_cons.1 hx with e | hx
          · rw [e]; omega
          · exact j3 x hx hxz
    · rw [if_neg hz]
      have hb : (lvF t v l == z) = false := by simpa using hz
      simp only [hb, Bool.false_eq_true, if_false]
      obtain ⟨i1, i2⟩ := lat_spec h0 (z := z) (v := v) r la m hr hla
      refine ⟨i1, ?_⟩
      rcases i2 with ⟨j1, j2⟩ | ⟨j1, j2, j3, j4⟩
      · left
        refine ⟨j1, fun x hx hxz => ?_⟩
        rcases List.mem_cons.1 hx with e | hx
        · rw [e] at hxz; exact absurd hxz hz
        · exact j2 x hx hxz
      · right
        refine ⟨by simp [j1], j2, fun x hx hxz => ?_, j4⟩
        rcases List.mem_cons.1 hx with e | hx
        · rw [e] at hxz; exact absurd hxz hz
        · exact j3 x hx hxz

/-- The literals of a clause beside one, that are not there yet. -/
def addF (no : Int) : List Int → List Int → List Int
  | [], n => n
  | l :: r, n => if l != no && !hasB n l then addF no r (n ++ [l]) else addF no r n
theorem addF_spec (no : Int) : ∀ (r n : List Int), n.Nodup → (addF no r n).Nodup ∧ (∀ x, x ∈ addF no r n ↔ x ∈ n ∨ (x ∈ r ∧ x ≠ no))
  | [], n, h => ⟨h, by simp [addF]⟩
  | l :: r, n, h => by
    rw [addF]
    by_cases hl : l = no
    · subst hl
      simp only [bne_self_eq_false, Bool.false_and, Bool.false_eq_true, if_false]
      obtain ⟨i1, i2⟩ := addF_spec l r n h
      refine ⟨i1, fun x => ?_⟩
      rw [i2]
      constructor
      · rintro (h | ⟨h1, h2⟩)
        · exact .inl h
        · exact .inr ⟨by simp [h1], h2⟩
      · rintro (h | ⟨h1, h2⟩)
        · exact .inl h
        · rcases List.mem_cons.1 h1 with e | h1
          · exact absurd e h2
          · exact .inr ⟨h1, h2⟩
    · cases hn : hasB n l
      · have hn' : l ∉ n := hasB_false.1 hn
        have hbne : (l != no) = true := by simpa using hl
        simp only [hbne, Bool.not_false, Bool.and_self, if_true]
        obtain ⟨i1, i2⟩ := addF_spec no r (n ++ [l]) (List.nodup_append.2 ⟨h, by simp, fun a ha b hb e => by simp at hb; exact hn' (hb ▸ e ▸ ha)⟩)
        refine ⟨i1, fun x => ?_⟩
        rw [i2]
        simp only [List.mem_append, List.mem_cons, List.not_mem_nil, or_false]
        constructor
        · rintro ((h | h) | ⟨h1, h2⟩)
          · exact .inl h
          · exact .inr ⟨.inl h, h ▸ hl⟩
          · exact .inr ⟨.inr h1, h2⟩
        · rintro (h | ⟨h1 | h1, h2⟩)
          · exact .inl (.inl h)
          · exact .inl (.inr h1)
          · exact .inr ⟨h1, h2⟩
      · have hn' : l ∈ n := hasB_iff.1 hn
        simp only [Bool.not_true, Bool.and_false, Bool.false_eq_true, if_false]
        obtain ⟨i1, i2⟩ := addF_spec no r n h
        refine ⟨i1, fun x => ?_⟩
        rw [i2]
        simp only [List.mem_cons]
        constructor
        · rintro (h | ⟨h1, h2⟩)
          · exact .inl h
          · exact .inr ⟨.inr h1, h2⟩
        · rintro (h | ⟨h1 | h1, h2⟩)
          · exact .inl h
          · exact .inl (h1 ▸ hn')
          · exact .inr ⟨h1, h2⟩

/-- The clause that brought the negation of a literal; the resolvent. -/
def bringF (xss : List (List Int)) (t y : List Int) (la : Int) : List Int := xss.getD (y.getD (plcF t la).toNat 0).toNat []
def resT (xss : List (List Int)) (t y c : List Int) (la : Int) : List Int := addF (-la) (bringF xss t y la) (c.filter (fun l => l != la))
/-- A clause that is false on the trail, its literals of the last level ahead of place k. -/
structure Con (t v : List Int) (z : Int) (c : List Int) (k : Int) : Prop where
  neg : ∀ l ∈ c, -l ∈ t
  nd : c.Nodup
  low : ∀ l ∈ c, lvF t v l = z → plcF t l < k
theorem Lits.zero {vars : Int} {t : List Int} (h : Lits vars t) : (0 : Int) ∉ t := fun h0 => (h.1 0 h0).1 rfl
theorem con_first {vars : Int} {t v : List Int} {z : Nat} {c : List Int} (hc : Lits vars c) (hn : ∀ l ∈ c, -l ∈ t) : Con t v z c t.length :=
  ⟨hn, hc.nodup, fun l hl _ => (plc_mem (hn l hl)).2.1⟩
/-- A step of the resolution. -/
theorem con_step {vars : Int} {xss : List (List Int)} {t y v : List Int} {z : Nat} {a k : Int} {c : List Int} (h : Told vars xss t y v z a) (hc : Con t v z c k) (hm : ¬ (latF t v z c 0 0).2 < 2) :
    (latF t v z c 0 0).1 ∈ c ∧ plcF t (latF t v z c 0 0).1 < k ∧ 0 ≤ plcF t (latF t v z c 0 0).1 ∧ 0 ≤ y.getD (plcF t (latF t v z c 0 0).1).toNat 0 ∧
    xss[(y.getD (plcF t (latF t v z c 0 0).1).toNat 0).toNat]? = some (bringF xss t y (latF t v z c 0 0).1) ∧ -(latF t v z c 0 0).1 ∈ bringF xss t y (latF t v z c 0 0).1 ∧
    (∀ l ∈ bringF xss t y (latF t v z c 0 0).1, l ≠ -(latF t v z c 0 0).1 → -l ∈ t.take (plcF t (latF t v z c 0 0).1).toNat) ∧
    Con t v z (resT xss t y c (latF t v z c 0 0).1) (plcF t (latF t v z c 0 0).1) := by
  obtain ⟨s1, s2⟩ := lat_spec h.lits.zero (z := z) (v := v) c 0 0 hc.neg (.inl rfl)
  rw [s1] at hm
  generalize hF : c.filter (fun l => lvF t v l == (z : Int)) = F at hm
  have hFd : F.Nodup := by rw [← hF]; exact hc.nd.filter _
  have hFm : ∀ x ∈ F, x ∈ c ∧ lvF t v x = z := fun x hx => by
    rw [← hF, List.mem_filter] at hx
    exact ⟨hx.1, by simpa using hx.2⟩
  generalize latF t v z c 0 0 = L at s1 s2 ⊢
  obtain ⟨la, m⟩ := L
  simp only at s1 s2 ⊢
  match F, hFd, hFm, hm with
  | [], _, _, hm => simp at hm
  | [x], _, _, hm => simp at hm
  | x1 :: x2 :: F', hFd, hFm, _ =>
    have hne : x1 ≠ x2 := by
      have := (List.nodup_cons.1 hFd).1
      intro e; exact this (by simp [e])
    obtain ⟨m1, l1⟩ := hFm x1 (by simp)
    obtain ⟨m2, l2⟩ := hFm x2 (by simp)
    rcases s2 with ⟨_, j2⟩ | ⟨j1, j2, j3, _⟩
    · exact absurd rfl (j2 x1 m1 l1).1
    · have hla := hc.neg la j1
      obtain ⟨p0, p1, p2⟩ := plc_mem hla
      -- another literal of the last level, ahead of la
      obtain ⟨x, hx, hxz, hxla⟩ : ∃ x, x ∈ c ∧ lvF t v x = z ∧ x ≠ la := by
        by_cases e : x1 = la
        · exact ⟨x2, m2, l2, fun e2 => hne (e.trans e2.symm)⟩
        · exact ⟨x1, m1, l1, e⟩
      have hxt := hc.neg x hx
      obtain ⟨q0, q1, q2⟩ := plc_mem hxt
      have hlt : plcF t x < plcF t la := by
        have h1 := j3 x hx hxz
        have h2 : plcF t x ≠ plcF t la := fun e => hxla (plc_inj hxt hla e)
        omega
      have hyl : (plcF t la).toNat < y.length := by rw [h.hist.1]; omega
      have hyg : y[(plcF t la).toNat]? = some (y.getD (plcF t la).toNat 0) := by
        rw [List.getD_eq_getElem?_getD, List.getElem?_eq_getElem hyl]; rfl
      have hvl : ∀ i, i < t.length → v[i]? = some (v.getD i 0) := fun i hi => by
        have : i < v.length := by rw [h.lev.len, h.hist.1]; exact hi
        rw [List.getD_eq_getElem?_getD, List.getElem?_eq_getElem this]; rfl
      have hy0 : 0 ≤ y.getD (plcF t la).toNat 0 := by
        by_cases hn : 0 ≤ y.getD (plcF t la).toNat 0
        · exact hn
        · exfalso
          obtain ⟨_, b, hb, hb0, hbj⟩ := h.lev.new _ _ hyg (by omega)
          have e1 := hvl (plcF t la).toNat (by omega)
          rw [hb] at e1
          have e2 := hbj (plcF t x).toNat _ (by omega) (hvl (plcF t x).toNat (by omega))
          have e3 : v.getD (plcF t x).toNat 0 = (z : Int) := hxz
          have e4 : v.getD (plcF t la).toNat 0 = (z : Int) := j2
          injection e1 with e1
          omega
      obtain ⟨cw, w1, w2, w3⟩ := h.hist.2 _ _ _ hyg p2 hy0
      have hbr : bringF xss t y la = cw := by
        unfold bringF
        rw [List.getD_eq_getElem?_getD, w1]; rfl
      rw [hbr]
      refine ⟨j1, hc.low la j1 j2, p0, hy0, w1, w2, w3, ?_⟩
      unfold resT
      rw [hbr]
      obtain ⟨a1, a2⟩ := addF_spec (-la) cw (c.filter (fun l => l != la)) (hc.nd.filter _)
      have htd : t.Nodup := h.lits.nodup
      refine ⟨fun l hl => ?_, a1, fun l hl hlz => ?_⟩
      · rcases (a2 l).1 hl with h1 | ⟨h1, h2⟩
        · exact hc.neg l (List.mem_filter.1 h1).1
        · exact List.mem_of_mem_take (w3 l h1 h2)
      · rcases (a2 l).1 hl with h1 | ⟨h1, h2⟩
        · obtain ⟨g1, g2⟩ := List.mem_filter.1 h1
          have g3 := j3 l g1 hlz
          have g4 : plcF t l ≠ plcF t la := fun e => by
            have := plc_inj (hc.neg l g1) hla e
            simp [this] at g2
          omega
        · have := plc_take htd (w3 l h1 h2)
          omega

/-- The resolution down to one literal of the last level. -/
def cloF (xss : List (List Int)) (t y v : List Int) (z : Int) : Nat → List Int → List Int
  | 0, c => c
  | k + 1, c => if (latF t v z c 0 0).2 < 2 then c else cloF xss t y v z k (resT xss t y c (latF t v z c 0 0).1)
theorem cloF_con {vars : Int} {xss : List (List Int)} {t y v : List Int} {z : Nat} {a : Int} (h : Told vars xss t y v z a) : ∀ (k : Nat) (c : List Int), Con t v z c k → Con t v z (cloF xss t y v z (k + 1) c) k ∧ (latF t v z (cloF xss t y v z (k + 1) c) 0 0).2 < 2
  | k, c, hc => by
    rw [cloF]
    by_cases hm : (latF t v z c 0 0).2 < 2
    · rw [if_pos hm]; exact ⟨hc, hm⟩
    · rw [if_neg hm]
      obtain ⟨_, s2, s3, _, _, _, _, s8⟩ := con_step h hc hm
      match k, hc, s2 with
      | 0, hc, s2 => omega
      | k + 1, hc, s2 =>
        have s9 : Con t v z (resT xss t y c (latF t v z c 0 0).1) (k : Nat) := ⟨s8.neg, s8.nd, fun l hl hz => by have := s8.low l hl hz; omega⟩
        obtain ⟨i1, i2⟩ := cloF_con h k _ s9
        exact ⟨⟨i1.neg, i1.nd, fun l hl hz => by have := i1.low l hl hz; omega⟩, i2⟩
end Go.Proofs.YtlfgcblijfflfaaGreat
