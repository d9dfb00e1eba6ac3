/- What a conflict teaches, plainly: it holds in each model, and so does its shorter form; it falls; gone back, its literal must be. -/
import Derived.Test.YtabjbpkojbdgaaaPlace
import Derived.Test.YtabjbpkojbdgaaaShut
namespace Go.Proofs.Ytabjbpkojbdgaaa

/-- The level of a literal, at its place. -/
theorem lv_at {vars : Int} {xss : List (List Int)} {t y v : List Int} {z : Nat} {a : Int} (h : Told vars xss t y v z a) {x : Int} (hx : -x ∈ t) : v[(plcF t x).toNat]? = some (lvF t v x) := by
  obtain ⟨p0, p1, _⟩ := plc_mem hx
  have hi : (plcF t x).toNat < v.length := by rw [h.lev.len, h.hist.1]; omega
  rw [lvF, List.getD_eq_getElem?_getD, List.getElem?_eq_getElem hi]; rfl
/-- What is closed has all of the trail up to a level, if it has what was asked there. -/
theorem low_in {vars : Int} {xss : List (List Int)} {t y v : List Int} {z : Nat} {a : Int} {S : Int → Prop} (h : Told vars xss t y v z a) (hS : Shut xss S) (k : Int)
    (hd : ∀ (i : Nat) (x b : Int), y[i]? = some (-1) → t[i]? = some x → v[i]? = some b → b ≤ k → S x) : ∀ (n i : Nat) (x b : Int), i < n → t[i]? = some x → v[i]? = some b → b ≤ k → S x
  | 0, i, x, b, hn, _, _, _ => by omega
  | n + 1, i, x, b, hn, hx, hb, hk => by
    have hit := (List.getElem?_eq_some_iff.1 hx).1
    have hiy : i < y.length := by rw [h.hist.1]; exact hit
    obtain ⟨q, hq⟩ : ∃ q, y[i]? = some q := ⟨_, List.getElem?_eq_getElem hiy⟩
    by_cases h0 : 0 ≤ q
    · obtain ⟨c, c1, c2, c3⟩ := h.hist.2 i q x hq hx h0
      refine hS c (List.mem_of_getElem? c1) x c2 fun l hl hne => ?_
      have hm := c3 l hl hne
      obtain ⟨j, hj, e⟩ := List.getElem_of_mem hm
      rw [List.length_take] at hj
      have hj2 : t[j]? = some (-l) := by rw [List.getElem?_eq_some_iff]; exact ⟨by omega, by rw [← e]; simp⟩
      have hjv : j < v.length := by rw [h.lev.len, h.hist.1]; omega
      have hjb := List.getElem?_eq_getElem hjv
      have := h.lev.mono j i _ _ (by omega) hjb hb
      exact low_in h hS k hd n j (-l) _ (by omega) hj2 hjb (by omega)
    · obtain ⟨e, _⟩ := h.lev.new i q hq (by omega)
      subst e
      exact hd i x b hq hx hb hk
theorem zero_in {vars : Int} {xss : List (List Int)} {t y v : List Int} {z : Nat} {a : Int} {S : Int → Prop} (h : Told vars xss t y v z a) (hS : Shut xss S) {x : Int} (hx : -x ∈ t) (h0 : lvF t v x = 0) : S (-x) := by
  refine low_in h hS 0 (fun i x b h1 h2 h3 h4 => ?_) ((plcF t x).toNat + 1) (plcF t x).toNat (-x) (lvF t v x) (by omega) (plc_mem hx).2.2 (lv_at h hx) (by omega)
  obtain ⟨_, b', hb, hb0, _⟩ := h.lev.new i (-1) h1 (by omega)
  rw [h3] at hb
  injection hb with hb
  omega

/-- What stays in each step of the resolution. -/
theorem cloF_ind {vars : Int} {xss : List (List Int)} {t y v : List Int} {z : Nat} {a : Int} (h : Told vars xss t y v z a) (P : List Int → Prop)
    (hP : ∀ (c : List Int) (la : Int), (∀ l ∈ c, -l ∈ t) → la ∈ c → bringF xss t y la ∈ xss → -la ∈ bringF xss t y la → P c → P (resF xss t y c la)) : ∀ (k : Nat) (c : List Int), Con t v z c k → P c → P (cloF xss t y v z (k + 1) c)
  | k, c, hc, hp => by
    rw [cloF]
    by_cases hm : (latF t v z c 0 0).2 < 2
    · rw [if_pos hm]; exact hp
    · rw [if_neg hm]
      obtain ⟨s1, s2, s3, _, s5, s6, _, s8⟩ := con_step h hc hm
      match k, hc, s2 with
      | 0, hc, s2 => omega
      | k + 1, hc, s2 =>
        have s9 : Con t v z (resF xss t y c (latF t v z c 0 0).1) (k : Nat) := ⟨s8.neg, s8.nd, fun l hl hz => by have := s8.low l hl hz; omega⟩
        exact cloF_ind h P hP k _ s9 (hP c _ hc.neg s1 (List.mem_of_getElem? s5) s6 hp)
/-- .. and what comes back from its end. -/
theorem cloF_back {vars : Int} {xss : List (List Int)} {t y v : List Int} {z : Nat} {a : Int} (h : Told vars xss t y v z a) (P : List Int → Prop)
    (hP : ∀ (c : List Int) (la : Int), la ∈ c → bringF xss t y la ∈ xss → -la ∈ bringF xss t y la → P (resF xss t y c la) → P c) : ∀ (k : Nat) (c : List Int), Con t v z c k → P (cloF xss t y v z (k + 1) c) → P c
  | k, c, hc, hp => by
    rw [cloF] at hp
    by_cases hm : (latF t v z c 0 0).2 < 2
    · rw [if_pos hm] at hp; exact hp
    · rw [if_neg hm] at hp
      obtain ⟨s1, s2, s3, _, s5, s6, _, s8⟩ := con_step h hc hm
      match k, hc, s2 with
      | 0, hc, s2 => omega
      | k + 1, hc, s2 =>
        have s9 : Con t v z (resF xss t y c (latF t v z c 0 0).1) (k : Nat) := ⟨s8.neg, s8.nd, fun l hl hz => by have := s8.low l hl hz; omega⟩
        exact hP c _ s1 (List.mem_of_getElem? s5) s6 (cloF_back h P hP k _ s9 hp)
theorem res_mem {xss : List (List Int)} {t y c : List Int} {la x : Int} (hn : c.Nodup) : x ∈ resF xss t y c la ↔ (x ∈ c ∧ x ≠ la) ∨ (x ∈ bringF xss t y la ∧ x ≠ -la) := by
  unfold resF
  rw [(addF_spec _ _ _ (hn.filter _)).2, List.mem_filter]
  simp
theorem res_mem' {xss : List (List Int)} {t y c : List Int} {la x : Int} : (x ∈ c ∧ x ≠ la) ∨ (x ∈ bringF xss t y la ∧ x ≠ -la) → x ∈ resF xss t y c la := by
  unfold resF
  have key : ∀ (r n : List Int), (x ∈ n ∨ (x ∈ r ∧ x ≠ -la)) → x ∈ addF (-la) r n := by
    intro r
    induction r with
    | nil => intro n h; simpa [addF] using h
    | cons l r ih =>
      intro n h
      rw [addF]
      by_cases hl : (l != -la && !hasB n l) = true
      · rw [if_pos hl]
        refine ih _ ?_
        rcases h with h | ⟨h1, h2⟩
        · exact .inl (by simp [h])
        · rcases List.mem_cons.1 h1 with e | h1
          · exact .inl (by simp [e])
          · exact .inr ⟨h1, h2⟩
      · rw [if_neg hl]
        refine ih _ ?_
        rcases h with h | ⟨h1, h2⟩
        · exact .inl h
        · rcases List.mem_cons.1 h1 with e | h1
          · subst e
            left
            by_cases hn : hasB n x = true
            · exact hasB_iff.1 hn
            · exfalso; apply hl; simp [h2] at hn ⊢; exact hn
          · exact .inr ⟨h1, h2⟩
  intro h
  refine key _ _ ?_
  rcases h with ⟨h1, h2⟩ | h
  · exact .inl (List.mem_filter.2 ⟨h1, by simpa using h2⟩)
  · exact .inr h

/-- The clause at the end of the resolution. -/
theorem taught_mem {xss : List (List Int)} {t y v : List Int} {z : Nat} {a x : Int} : x ∈ taughtF xss t y v z a ↔ x ∈ cloR xss t y v z (xss.getD a.toNat []) ∧ lvF t v x ≠ 0 := by
  rw [taughtF, sortF_mem, List.mem_filter]
  simp
theorem cloR_con {vars : Int} {xss : List (List Int)} {t y v : List Int} {z : Nat} {a : Int} (h : Told vars xss t y v z a) (hc : ∀ c ∈ xss, Lits vars c) (ha : 0 ≤ a) :
    ∃ c, xss.getD a.toNat [] = c ∧ c ∈ xss ∧ Con t v z c t.length ∧ (cloR xss t y v z c).Nodup ∧ (∀ x ∈ cloR xss t y v z c, -x ∈ t) ∧ (z ≠ 0 → cloR xss t y v z c = cloF xss t y v z (t.length + 1) c ∧ (latF t v z (cloR xss t y v z c) 0 0).2 < 2) := by
  obtain ⟨c, h1, h2, h3⟩ := h.fals ha
  have hcon : Con t v z c t.length := con_first (hc c h2) h3
  refine ⟨c, by rw [List.getD_eq_getElem?_getD, h1]; rfl, h2, hcon, ?_, cloR_neg h (hc c h2) h3, fun hz => ?_⟩
  · unfold cloR
    split
    · exact hcon.nd
    · exact (cloF_con h t.length c hcon).1.nd
  · unfold cloR
    rw [if_neg hz]
    exact ⟨rfl, (cloF_con h t.length c hcon).2⟩
theorem taught_lits {vars : Int} {xss : List (List Int)} {t y v : List Int} {z : Nat} {a : Int} (h : Told vars xss t y v z a) (hc : ∀ c ∈ xss, Lits vars c) (ha : 0 ≤ a) : Lits vars (taughtF xss t y v z a) := by
  have hn := taught_neg h hc ha rfl
  obtain ⟨c, e, _, _, nd, _⟩ := cloR_con h hc ha
  refine ⟨fun x hx => by have := h.lits.1 _ (hn x hx); omega, ?_⟩
  have nd2 : (taughtF xss t y v z a).Nodup := by
    rw [taughtF, e]
    exact (sortF_perm _).nodup_iff.2 (nd.filter _)
  refine List.Pairwise.imp_of_mem ?_ nd2
  intro x w hx hw hne he
  have h1 := hn x hx
  have h2 := hn w hw
  rcases Int.natAbs_eq_natAbs_iff.1 he with e | e
  · exact hne e
  · have i1 := plc_mem h1
    have i2 := plc_mem h2
    have key := List.pairwise_iff_getElem.1 h.lits.2
    obtain ⟨a1, a2⟩ := List.getElem?_eq_some_iff.1 i1.2.2
    obtain ⟨b1, b2⟩ := List.getElem?_eq_some_iff.1 i2.2.2
    rcases Nat.lt_trichotomy (plcF t x).toNat (plcF t w).toNat with hlt | heq | hgt
    · exact key _ _ a1 b1 hlt (by rw [a2, b2]; omega)
    · simp only [heq] at a2
      rw [a2] at b2
      omega
    · exact key _ _ b1 a1 hgt (by rw [a2, b2]; omega)

/-- MARQUES-SILVA, SAKALLAH: it holds in each model. -/
theorem taught_true {vars : Int} {xss : List (List Int)} {t y v : List Int} {z : Nat} {a : Int} {m : List Bool} (h : Told vars xss t y v z a) (hc : ∀ c ∈ xss, Lits vars c) (ha : 0 ≤ a) (hm : allB xss m = true) : satB m (taughtF xss t y v z a) = true := by
  have hz : ∀ c ∈ xss, (0 : Int) ∉ c := fun c hc' => (hc c hc').cls.1
  obtain ⟨c, e, c1, con, _, neg, hcl⟩ := cloR_con h hc ha
  have hs : satB m (cloR xss t y v z c) = true := by
    by_cases h0 : z = 0
    · unfold cloR
      rw [if_pos h0]
      exact (List.all_eq_true.1 hm) c c1
    · rw [(hcl h0).1]
      refine cloF_ind h (fun c => satB m c = true) (fun c la hn hla hb hlb hs => ?_) _ c con ((List.all_eq_true.1 hm) c c1)
      have hla0 : la ≠ 0 := fun e => h.lits.zero (by have := hn la hla; rw [e] at this; simpa using this)
      obtain ⟨l, hl, hl'⟩ := List.any_eq_true.1 hs
      by_cases el : l = la
      · obtain ⟨u, hu, hu'⟩ := List.any_eq_true.1 ((List.all_eq_true.1 hm) _ hb)
        refine List.any_eq_true.2 ⟨u, res_mem' (.inr ⟨hu, fun eu => ?_⟩), hu'⟩
        rw [el] at hl'
        rw [eu, lit_not hla0 hl'] at hu'
        cases hu'
      · exact List.any_eq_true.2 ⟨l, res_mem' (.inl ⟨hl, el⟩), hl'⟩
  obtain ⟨l, hl, hl'⟩ := List.any_eq_true.1 hs
  refine List.any_eq_true.2 ⟨l, taught_mem.2 ⟨by rw [e]; exact hl, fun h0 => ?_⟩, hl'⟩
  have := zero_in h (shut_model hz hm) (neg l hl) h0
  have l0 : l ≠ 0 := fun e => h.lits.zero (by have := neg l hl; rw [e] at this; simpa using this)
  rw [lit_not l0 hl'] at this
  cases this

/-- A literal that the others bring. -/
def redB (xss : List (List Int)) (t y v R : List Int) (x : Int) : Bool :=
  decide (0 ≤ y.getD (plcF t x).toNat 0) && (bringF xss t y x).all (fun u => u == -x || hasB R u || lvF t v u == 0)
def shortF (xss : List (List Int)) (t y v R : List Int) : List Int := R.filter (fun x => !redB xss t y v R x)
/-- The clause that brought a literal's negation. -/
theorem bring_spec {vars : Int} {xss : List (List Int)} {t y v : List Int} {z : Nat} {a x : Int} (h : Told vars xss t y v z a) (hx : -x ∈ t) (h0 : 0 ≤ y.getD (plcF t x).toNat 0) :
    xss[(y.getD (plcF t x).toNat 0).toNat]? = some (bringF xss t y x) ∧ -x ∈ bringF xss t y x ∧ ∀ l ∈ bringF xss t y x, l ≠ -x → -l ∈ t ∧ plcF t l < plcF t x := by
  obtain ⟨p0, p1, p2⟩ := plc_mem hx
  have hyl : (plcF t x).toNat < y.length := by rw [h.hist.1]; omega
  have hyg : y[(plcF t x).toNat]? = some (y.getD (plcF t x).toNat 0) := by
    rw [List.getD_eq_getElem?_getD, List.getElem?_eq_getElem hyl]; rfl
  obtain ⟨cw, w1, w2, w3⟩ := h.hist.2 _ _ _ hyg p2 h0
  have hbr : bringF xss t y x = cw := by
    unfold bringF
    rw [List.getD_eq_getElem?_getD, w1]; rfl
  rw [hbr]
  refine ⟨w1, w2, fun l hl hne => ?_⟩
  have := w3 l hl hne
  have g := plc_take h.lits.nodup this
  exact ⟨List.mem_of_mem_take this, by omega⟩
theorem short_true {vars : Int} {xss : List (List Int)} {t y v : List Int} {z : Nat} {a : Int} {m : List Bool} {R : List Int} (h : Told vars xss t y v z a) (hc : ∀ c ∈ xss, Lits vars c) (hR : ∀ x ∈ R, -x ∈ t) (hm : allB xss m = true) (hs : satB m R = true) : satB m (shortF xss t y v R) = true := by
  have hz : ∀ c ∈ xss, (0 : Int) ∉ c := fun c hc' => (hc c hc').cls.1
  have key : ∀ (n : Nat) (x : Int), plcF t x < n → x ∈ R → litB m x = true → satB m (shortF xss t y v R) = true := by
    intro n
    induction n with
    | zero => intro x hx hxR _; have := (plc_mem (hR x hxR)).1; omega
    | succ n ih =>
      intro x hx hxR hxm
      have x0 : x ≠ 0 := fun e => h.lits.zero (by have := hR x hxR; rw [e] at this; simpa using this)
      cases hred : redB xss t y v R x
      · exact List.any_eq_true.2 ⟨x, List.mem_filter.2 ⟨hxR, by simp [hred]⟩, hxm⟩
      · unfold redB at hred
        simp only [Bool.and_eq_true, decide_eq_true_eq, List.all_eq_true, Bool.or_eq_true, beq_iff_eq] at hred
        obtain ⟨r1, r2⟩ := hred
        obtain ⟨b1, b2, b3⟩ := bring_spec h (hR x hxR) r1
        obtain ⟨u, hu, hu'⟩ := List.any_eq_true.1 ((List.all_eq_true.1 hm) _ (List.mem_of_getElem? b1))
        have hux : u ≠ -x := fun e => by rw [e, lit_not x0 hxm] at hu'; cases hu'
        obtain ⟨u1, u2⟩ := b3 u hu hux
        have u0 : u ≠ 0 := fun e => hz _ (List.mem_of_getElem? b1) (e ▸ hu)
        rcases r2 u hu with (hh | hh) | hh
        · exact absurd hh hux
        · exact ih u (by omega) (hasB_iff.1 hh) hu'
        · have := zero_in h (shut_model hz hm) u1 hh
          rw [lit_not u0 hu'] at this
          cases this
  obtain ⟨x, hx, hx'⟩ := List.any_eq_true.1 hs
  have hp := (plc_mem (hR x hx)).1
  exact key ((plcF t x).toNat + 1) x (by omega) hx hx'

/-- All of the resolution is false where its end is, and what is closed comes to a false clause. -/
theorem back_false {vars : Int} {xss : List (List Int)} {t y v : List Int} {z : Nat} {a : Int} {s : List Int} (h : Told vars xss t y v z a) (hc : ∀ c ∈ xss, Lits vars c) (ha : 0 ≤ a) (hs : ∀ c ∈ xss, falB s 0 c = false ∧ mustF s c c = 0) (hn : ∀ l ∈ taughtF xss t y v z a, -l ∈ s) : False := by
  have hz : ∀ c ∈ xss, (0 : Int) ∉ c := fun c hc' => (hc c hc').cls.1
  have hS := shut_run hz hs
  obtain ⟨c, e, c1, con, _, neg, hcl⟩ := cloR_con h hc ha
  have hC : ∀ l ∈ cloR xss t y v z c, -l ∈ s := fun l hl => by
    by_cases h0 : lvF t v l = 0
    · exact zero_in h hS (neg l hl) h0
    · exact hn l (taught_mem.2 ⟨by rw [e]; exact hl, h0⟩)
  have h0 : ∀ l ∈ c, -l ∈ s := by
    by_cases h0 : z = 0
    · unfold cloR at hC
      rw [if_pos h0] at hC
      exact hC
    · rw [(hcl h0).1] at hC
      refine cloF_back h (fun c => ∀ l ∈ c, -l ∈ s) (fun c la hla hb hlb hs l hl => ?_) _ c con hC
      by_cases el : l = la
      · rw [el]
        exact hS _ hb (-la) hlb fun u hu hne => hs u (res_mem' (.inr ⟨hu, hne⟩))
      · exact hs l (res_mem' (.inl ⟨hl, el⟩))
  have := (hs c c1).1
  rw [Bool.eq_false_iff] at this
  exact this (falB_iff.2 fun l hl _ => h0 l hl)
/-- What is taught falls. -/
theorem taught_falls {vars : Int} {xss : List (List Int)} {t y v : List Int} {z : Nat} {a : Int} (v0 : 0 ≤ vars) (h : Told vars xss t y v z a) (hc : ∀ c ∈ xss, Lits vars c) (ha : 0 ≤ a) : fallsF vars xss (taughtF xss t y v z a) = true := by
  have hl := taught_lits h hc ha
  have ok := runF_ok v0 hc (vars.toNat + 1) (negF (taughtF xss t y v z a)) ((negF (taughtF xss t y v z a)).map fun _ => -1) hl.neg (by omega)
  unfold fallsF askF
  rw [decide_eq_true_eq]
  refine Int.not_lt.1 fun hlt => ?_
  obtain ⟨u, hu⟩ := ok.ext
  exact back_false h hc ha (ok.shut hlt) fun l hl => by rw [hu]; exact List.mem_append_left _ (List.mem_map.2 ⟨l, hl, rfl⟩)

theorem lvlF_asked {vars : Int} {xss : List (List Int)} (Q : List Int) : ∀ (q t y v : List Int) (z : Nat) (a : Int), (∀ x ∈ q, x ∈ Q) → y.length = t.length → (∀ (i : Nat) (x : Int), y[i]? = some (-1) → t[i]? = some x → x ∈ Q) → (∀ t y : List Int, y.length = t.length → (runF xss (vars.toNat + 1) t y).2.1.length = (runF xss (vars.toNat + 1) t y).1.length) →
    ∀ (i : Nat) (x : Int), (lvlF vars xss q t y v z a).2.1[i]? = some (-1) → (lvlF vars xss q t y v z a).1[i]? = some x → x ∈ Q
  | [], t, y, v, z, a, _, _, h, _ => h
  | l :: r, t, y, v, z, a, hq, hl, h, hr => by
    rw [lvlF]
    by_cases h1 : 0 ≤ a
    · rw [if_pos h1]; exact h
    · rw [if_neg h1]
      by_cases hh : (hasB t l || hasB t (-l)) = true
      · rw [if_pos hh]
        exact lvlF_asked Q r t y v z a (fun x hx => hq x (by simp [hx])) hl h hr
      · rw [if_neg hh]
        refine lvlF_asked Q r _ _ _ _ _ (fun x hx => hq x (by simp [hx])) (hr _ _ (by simp [hl])) (runF_y Q _ _ _ (by simp [hl]) fun i x g1 g2 => ?_) hr
        by_cases hi : i < t.length
        · rw [List.getElem?_append_left (by omega)] at g1
          rw [List.getElem?_append_left hi] at g2
          exact h i x g1 g2
        · have hi2 : i < (t ++ [l]).length := (List.getElem?_eq_some_iff.1 g2).1
          simp at hi2
          have e : i = t.length := by omega
          subst e
          rw [List.getElem?_concat_length] at g2
          injection g2 with g2
          subst g2
          exact hq _ (by simp)
theorem startF_asked {vars : Int} {xss : List (List Int)} {q t y v : List Int} {z : Nat} {a : Int} (h : startF vars xss q = (t, y, v, z, a)) : ∀ (i : Nat) (x : Int), y[i]? = some (-1) → t[i]? = some x → x ∈ q := by
  have := lvlF_asked (vars := vars) (xss := xss) q q _ _ (List.replicate (runF xss (vars.toNat + 1) [] []).1.length 0) 0 (runF xss (vars.toNat + 1) [] []).2.2 (fun _ h => h) (runF_len (xss := xss) (vars.toNat + 1) [] [] rfl) (runF_y (xss := xss) q (vars.toNat + 1) [] [] rfl (by simp)) (fun t y h => runF_len _ t y h)
  unfold startF at h
  rw [h] at this
  exact this

/-- What was asked and began levels up to bk. -/
def firstF (t v : List Int) (bk : Int) (q : List Int) : List Int := q.filter (fun x => decide (0 ≤ idxF (fun y => y == x) t 0) && decide (v.getD (idxF (fun y => y == x) t 0).toNat 0 ≤ bk))
/-- MARQUES-SILVA, SAKALLAH: gone back, with the clause beside: nothing is false only if its one literal is on the trail, the others' negations too. -/
theorem taught_back {vars : Int} {xss : List (List Int)} {q t y v s : List Int} {z : Nat} {a : Int} (hst : startF vars xss q = (t, y, v, z, a)) (h : Told vars xss t y v z a) (hc : ∀ c ∈ xss, Lits vars c) (ha : 0 ≤ a) (hne : taughtF xss t y v z a ≠ [])
    (hl : Lits vars s) (hf : ∀ x ∈ firstF t v (backF t v z (taughtF xss t y v z a) 0) q, x ∈ s) (hs : ∀ c ∈ xss ++ [taughtF xss t y v z a], falB s 0 c = false ∧ mustF s c c = 0) :
    ∃ u ∈ taughtF xss t y v z a, u ∈ s ∧ -u ∉ s ∧ ∀ x ∈ taughtF xss t y v z a, x ≠ u → -x ∈ s ∧ x ∉ s := by
  have hR := taught_lits h hc ha
  have hneg := taught_neg h hc ha rfl
  have hz0 : z ≠ 0 := fun e => hne (by subst e; exact taught_zero h ha)
  have hz : ∀ c ∈ xss ++ [taughtF xss t y v z a], (0 : Int) ∉ c := fun c hc' => by
    rcases List.mem_append.1 hc' with h1 | h1
    · exact (hc c h1).cls.1
    · simp at h1; subst h1; exact hR.cls.1
  have hS := shut_run hz hs
  have hS1 : Shut xss (fun x => x ∈ s) := fun c hc' => hS c (List.mem_append_left _ hc')
  have both : ∀ x, x ∈ s → -x ∈ s → False := fun x h1 h2 => by
    have x0 := (hl.1 x h1).1
    obtain ⟨i, hi, e1⟩ := List.getElem_of_mem h1
    obtain ⟨j, hj, e2⟩ := List.getElem_of_mem h2
    have key := List.pairwise_iff_getElem.1 hl.2
    rcases Nat.lt_trichotomy i j with g | g | g
    · exact key i j hi hj g (by rw [e1, e2]; omega)
    · subst g; rw [e1] at e2; omega
    · exact key j i hj hi g (by rw [e1, e2]; omega)
  generalize hbk : backF t v z (taughtF xss t y v z a) 0 = bk at hf
  have hlow : ∀ x, -x ∈ t → lvF t v x ≤ bk → -x ∈ s := fun x hx hle => by
    refine low_in h hS1 bk (fun i x b h1 h2 h3 h4 => ?_) ((plcF t x).toNat + 1) (plcF t x).toNat (-x) (lvF t v x) (by omega) (plc_mem hx).2.2 (lv_at h hx) hle
    have hxt : -(-x) ∈ t := by rw [Int.neg_neg]; exact List.mem_of_getElem? h2
    have hp := (plc_mem hxt)
    have hpe : plcF t (-x) = idxF (fun y => y == x) t 0 := by unfold plcF; rw [Int.neg_neg]
    have e : (plcF t (-x)).toNat = i := nodup_idx h.lits.nodup hp.2.2 (by rw [Int.neg_neg]; exact h2)
    refine hf x (List.mem_filter.2 ⟨startF_asked hst i x h1 h2, ?_⟩)
    rw [← hpe, e, List.getD_eq_getElem?_getD, h3]
    simp [hp.1, h4]
  have hlt : ∀ x ∈ taughtF xss t y v z a, lvF t v x < z → -x ∈ s := fun x hx hlt => by
    refine hlow x (hneg x hx) ?_
    rw [← hbk]
    exact (backF_spec t v z _ 0).2.1 x hx hlt
  have hle : ∀ x ∈ taughtF xss t y v z a, lvF t v x ≤ z := fun x hx => (h.lev.low _ _ (lv_at h (hneg x hx))).2
  obtain ⟨c, e, c1, con, nd, neg, hcl⟩ := cloR_con h hc ha
  have hcnt := (lat_spec h.lits.zero (z := z) (v := v) (cloR xss t y v z c) 0 0 neg (.inl rfl)).1
  have h2 := (hcl hz0).2
  rw [hcnt] at h2
  have huniq : ∀ x ∈ taughtF xss t y v z a, ∀ w ∈ taughtF xss t y v z a, lvF t v x = z → lvF t v w = z → x = w := fun x hx w hw h3 h4 => by
    have m1 : x ∈ (cloR xss t y v z c).filter (fun l => lvF t v l == (z : Int)) := List.mem_filter.2 ⟨by have := (taught_mem.1 hx).1; rwa [e] at this, by simp [h3]⟩
    have m2 : w ∈ (cloR xss t y v z c).filter (fun l => lvF t v l == (z : Int)) := List.mem_filter.2 ⟨by have := (taught_mem.1 hw).1; rwa [e] at this, by simp [h4]⟩
    generalize (cloR xss t y v z c).filter (fun l => lvF t v l == (z : Int)) = F at m1 m2 h2
    match F, m1, m2, h2 with
    | [q], m1, m2, _ => simp at m1 m2; rw [m1, m2]
    | q :: q' :: F', _, _, h2 => simp at h2; omega
  by_cases hex : ∃ u ∈ taughtF xss t y v z a, lvF t v u = z
  · obtain ⟨u, hu, huz⟩ := hex
    have hoth : ∀ x ∈ taughtF xss t y v z a, x ≠ u → -x ∈ s := fun x hx hxu => by
      refine hlt x hx ?_
      have := hle x hx
      have : lvF t v x ≠ z := fun e => hxu (huniq x hx u hu e huz)
      omega
    have hus : u ∈ s := hS _ (List.mem_append_right _ (by simp)) u hu hoth
    exact ⟨u, hu, hus, fun hn => both u hus hn, fun x hx hxu => ⟨hoth x hx hxu, fun hn => both x hn (hoth x hx hxu)⟩⟩
  · exfalso
    have := (hs _ (List.mem_append_right _ (List.mem_singleton.2 rfl))).1
    rw [Bool.eq_false_iff] at this
    refine this (falB_iff.2 fun l hl _ => hlt l hl ?_)
    have h1 := hle l hl
    have h3 : lvF t v l ≠ z := fun e => hex ⟨l, hl, e⟩
    omega
end Go.Proofs.Ytabjbpkojbdgaaa
