/- A proof as resolutions, plainly: what the program tells is what the reference tells; the resolutions are as they must be, and the last one has no literals. -/
import Derived.Test.YtabjbpkojbdgaaaTrimPlain
import Derived.Test.YtabjbpkojbdgaaaResPlain
namespace Go.Proofs.Ytabjbpkojbdgaaa

/-- The program's resolvent. -/
def rvF (a b : List Int) (v : Int) : List Int := match rsP v (a ++ b) [] with
  | some o => sortF o
  | none => []
/-- A resolution: of the clause of number m, which brought l, and of that of number num. -/
def rsT (l num m : Int) : R3 := if l < 0 then (num, m, (l.natAbs : Int)) else (m, num, (l.natAbs : Int))
/-- The program's way back along a trail: the clause, its number, the next number, all resolutions. -/
def trF (known : List (List Int)) (nums t y : List Int) : Nat → List Int → Int → Int → List R3 → List Int × Int × Int × List R3
  | 0, now, num, nx, out => (now, num, nx, out)
  | k + 1, now, num, nx, out =>
    if y.getD k 0 < 0 ∨ hasB now (-(t.getD k 0)) = false then trF known nums t y k now num nx out
    else trF known nums t y k (rvF (known.getD (y.getD k 0).toNat []) now ((t.getD k 0).natAbs : Int)) nx (nx + 1) (out ++ [rsT (t.getD k 0) num (nums.getD (y.getD k 0).toNat 0)])
/-- The reference's: all clauses, the number of the one at hand, all resolutions. -/
def oneR (all : List (List Int)) (r : R3) : List Int × Int := resF (all.getD r.1.toNat []) (all.getD r.2.1.toNat []) r.2.2
def trR (known t y : List Int) : Nat → List (List Int) → Int → List R3 → List (List Int) × Int × List R3
  | 0, all, now, out => (all, now, out)
  | k + 1, all, now, out =>
    if y.getD k 0 < 0 ∨ hasB (all.getD now.toNat []) (-(t.getD k 0)) = false then trR known t y k all now out
    else trR known t y k (all ++ [(oneR all (rsT (t.getD k 0) now (known.getD (y.getD k 0).toNat 0))).1]) all.length (out ++ [rsT (t.getD k 0) now (known.getD (y.getD k 0).toNat 0)])
/-- A step of the program's. -/
def stpF (vars : Int) (known : List (List Int)) (nums : List Int) (nx : Int) (out : List R3) (x : List Int) : List (List Int) × List Int × Int × List R3 :=
  if (askF vars known (negF x)).2.2 < 0 then (known, nums, nx, out)
  else (known ++ [(trF known nums (askF vars known (negF x)).1 (askF vars known (negF x)).2.1 (askF vars known (negF x)).1.length (sortF (known.getD (askF vars known (negF x)).2.2.toNat [])) (nums.getD (askF vars known (negF x)).2.2.toNat 0) nx out).1],
    nums ++ [(trF known nums (askF vars known (negF x)).1 (askF vars known (negF x)).2.1 (askF vars known (negF x)).1.length (sortF (known.getD (askF vars known (negF x)).2.2.toNat [])) (nums.getD (askF vars known (negF x)).2.2.toNat 0) nx out).2.1],
    (trF known nums (askF vars known (negF x)).1 (askF vars known (negF x)).2.1 (askF vars known (negF x)).1.length (sortF (known.getD (askF vars known (negF x)).2.2.toNat [])) (nums.getD (askF vars known (negF x)).2.2.toNat 0) nx out).2.2)
/-- All steps of the program's; none: too many resolutions. -/
def ofL (vars : Int) : List (Int × List Int) → List (List Int) → List Int → Int → List R3 → Option (List R3)
  | [], _, _, _, out => some out
  | (k, x) :: r, known, nums, nx, out =>
    if known.any (fun z => z.isEmpty) = true then some out
    else if k ≠ 1 then ofL vars r known nums nx out
    else if 2000 < (stpF vars known nums nx out x).2.2.2.length then none
    else ofL vars r (stpF vars known nums nx out x).1 (stpF vars known nums nx out x).2.1 (stpF vars known nums nx out x).2.2.1 (stpF vars known nums nx out x).2.2.2
/-- .. of the reference's. -/
def uaF (vars : Int) (all : List (List Int)) (known x : List Int) : List Int × List Int × Int := askF vars (known.map (fun i => all.getD i.toNat [])) (negF x)
def usF (vars : Int) (all : List (List Int)) (known : List Int) (out : List R3) (x : List Int) : List (List Int) × Int × List R3 :=
  trR known (uaF vars all known x).1 (uaF vars all known x).2.1 (uaF vars all known x).1.length all (known.getD (uaF vars all known x).2.2.toNat 0) out
def unL (vars : Int) : List (Int × List Int) → List (List Int) → List Int → List R3 → Option (List R3)
  | [], _, _, out => some out
  | (k, x) :: r, all, known, out =>
    if k ≠ 1 then unL vars r all known out
    else if (uaF vars all known x).2.2 < 0 then some out
    else if 2000 < (usF vars all known out x).2.2.length then none
    else if ((usF vars all known out x).1.getD (usF vars all known out x).2.1.toNat []).isEmpty = true then some (usF vars all known out x).2.2
    else unL vars r (usF vars all known out x).1 (known ++ [(usF vars all known out x).2.1]) (usF vars all known out x).2.2
def natsF (n : Nat) : List Int := (List.range n).map (fun (i : Nat) => (i : Int))
def ofF (vars : Int) (xss : List (List Int)) (rs : List (Int × List Int)) : Option (List R3) := ofL vars rs xss (natsF xss.length) xss.length []
def unF (vars : Int) (xss : List (List Int)) (rs : List (Int × List Int)) : Option (List R3) :=
  if xss.any (fun z => z.isEmpty) = true then some [] else unL vars rs xss (natsF xss.length) []

theorem rsF_some {v : Int} {S : Int → Prop} (hS : ∀ x, S x → ¬ S (-x)) : ∀ (l o : List Int), (∀ x ∈ l, (x.natAbs : Int) ≠ v → S x) → (∀ x ∈ o, S x) → ∃ o', rsF v l o = some o'
  | [], o, _, _ => ⟨o, rfl⟩
  | x :: r, o, hl, ho => by
    have hr : ∀ y ∈ r, (y.natAbs : Int) ≠ v → S y := fun y hy => hl y (by simp [hy])
    rw [rsF]
    by_cases h1 : ((x.natAbs : Int) == v) = true
    · rw [if_pos h1]; exact rsF_some hS r o hr ho
    · rw [if_neg h1]
      have hx : S x := hl x (by simp) (by simpa using h1)
      have h2 : hasB o (-x) = false := hasB_false.2 fun h => hS x hx (ho _ h)
      rw [h2, if_neg (by simp)]
      split
      · exact rsF_some hS r o hr ho
      · refine rsF_some hS r _ hr fun z hz => ?_
        rcases List.mem_append.1 hz with hz | hz
        · exact ho z hz
        · simp at hz; subst hz; exact hx
theorem rsF_nodup {v : Int} {l o : List Int} (h : rsF v l [] = some o) : o.Nodup := (rsF_two' v l [] o h List.Pairwise.nil).imp fun hne e => hne (by rw [e])
theorem rsF_same {v : Int} {l m o p : List Int} (h : rsF v l [] = some o) (h' : rsF v m [] = some p) (hm : ∀ z, z ∈ l ↔ z ∈ m) : sortF o = sortF p := by
  refine sortF_congr ((List.perm_ext_iff_of_nodup (rsF_nodup h) (rsF_nodup h')).2 fun z => ?_)
  rw [rsF_mem v l [] o h z, rsF_mem v m [] p h' z, hm z]
/-- The resolvent of a clause that brought l and of one that has -l: the reference has the same. -/
theorem rv_res {vars l : Int} {a b a' b' : List Int} {S : Int → Prop} (hS : ∀ x, S x → ¬ S (-x)) (ha : Lits vars a) (hb : Lits vars b) (hpa : a.Perm a') (hpb : b.Perm b') (hl : l ∈ a) (hl' : -l ∈ b)
    (hSa : ∀ x ∈ a, x ≠ l → S x) (hSb : ∀ x ∈ b, x ≠ -l → S x) :
    Lits vars (rvF a b (l.natAbs : Int)) ∧ (∀ x, x ∈ rvF a b (l.natAbs : Int) ↔ (x ∈ a ∨ x ∈ b) ∧ x.natAbs ≠ l.natAbs) ∧ resF (if l < 0 then b' else a') (if l < 0 then a' else b') (l.natAbs : Int) = (rvF a b (l.natAbs : Int), 0) := by
  have hz : ∀ x ∈ a ++ b, x ≠ 0 := fun x hx => by
    rcases List.mem_append.1 hx with hx | hx
    · exact (ha.1 x hx).1
    · exact (hb.1 x hx).1
  have hSab : ∀ x ∈ a ++ b, (x.natAbs : Int) ≠ (l.natAbs : Int) → S x := fun x hx hne => by
    rcases List.mem_append.1 hx with hx | hx
    · exact hSa x hx fun e => hne (by rw [e])
    · exact hSb x hx fun e => hne (by rw [e, Int.natAbs_neg])
  obtain ⟨o, ho⟩ := rsF_some hS (a ++ b) [] hSab (by simp)
  have hrv : rvF a b (l.natAbs : Int) = sortF o := by unfold rvF; rw [rsP_eq _ _ _ hz (by simp), ho]
  have hmem : ∀ x, x ∈ rvF a b (l.natAbs : Int) ↔ (x ∈ a ∨ x ∈ b) ∧ x.natAbs ≠ l.natAbs := fun x => by
    rw [hrv, sortF_mem, rsF_mem _ _ _ _ ho x, List.mem_append]
    simp only [List.not_mem_nil, false_or, ne_eq, Int.natCast_inj]
  refine ⟨?_, hmem, ?_⟩
  · rw [hrv]
    refine Lits.sortF ⟨fun x hx => ?_, rsF_two' _ _ _ _ ho List.Pairwise.nil⟩
    rcases (rsF_mem _ _ _ _ ho x).1 hx with hx | ⟨hx, _⟩
    · simp at hx
    · rcases List.mem_append.1 hx with hx | hx
      · exact ha.1 x hx
      · exact hb.1 x hx
  · have key : ∀ (p q : List Int), (l.natAbs : Int) ∈ p → -(l.natAbs : Int) ∈ q → (∀ z, z ∈ a ++ b ↔ z ∈ p ++ q) → resF p q (l.natAbs : Int) = (rvF a b (l.natAbs : Int), 0) := fun p q h1 h2 h3 => by
      obtain ⟨o2, ho2⟩ := rsF_some (v := (l.natAbs : Int)) hS (p ++ q) [] (fun x hx hne => hSab x ((h3 x).2 hx) hne) (by simp)
      unfold resF
      rw [hasB_iff.2 h1, hasB_iff.2 h2, ho2, hrv, rsF_same ho ho2 h3]
      rfl
    by_cases h0 : l < 0
    · rw [if_pos h0, if_pos h0]
      refine key b' a' ?_ ?_ fun z => ?_
      · rw [show (l.natAbs : Int) = -l by omega]; exact hpb.mem_iff.1 hl'
      · rw [show -(l.natAbs : Int) = l by omega]; exact hpa.mem_iff.1 hl
      · rw [List.mem_append, List.mem_append, hpa.mem_iff, hpb.mem_iff]; exact Or.comm
    · rw [if_neg h0, if_neg h0]
      refine key a' b' ?_ ?_ fun z => ?_
      · rw [show (l.natAbs : Int) = l by omega]; exact hpa.mem_iff.1 hl
      · rw [show -(l.natAbs : Int) = -l by omega]; exact hpb.mem_iff.1 hl'
      · rw [List.mem_append, List.mem_append, hpa.mem_iff, hpb.mem_iff]
theorem ressF_snoc {vars : Int} {r : R3} : ∀ (l : List R3) (all0 all : List (List Int)) (i : Nat), ressF vars l all0 i = (all, 0, 0) → (oneF vars all r).2 = 0 → ressF vars (l ++ [r]) all0 i = (all ++ [(oneF vars all r).1], 0, 0)
  | [], all0, all, i, h, h1 => by
    rw [ressF] at h
    obtain rfl := (Prod.mk.inj h).1
    rw [List.nil_append, ressF, if_neg (by simp [h1]), ressF]
  | q :: t, all0, all, i, h, h1 => by
    rw [ressF] at h
    by_cases hq : (oneF vars all0 q).2 ≠ 0
    · rw [if_pos hq] at h; exact absurd (Prod.mk.inj (Prod.mk.inj h).2).1 hq
    · rw [if_neg hq] at h
      rw [List.cons_append, ressF, if_neg hq]
      exact ressF_snoc t _ _ _ h h1

/-- The program's clauses and numbers beside the reference's. -/
structure TrOk (vars : Int) (xss known : List (List Int)) (nums : List Int) (nx : Int) (out : List R3) (all : List (List Int)) : Prop where
  len : nums.length = known.length
  nx_ : nx = all.length
  kl : ∀ c ∈ known, Lits vars c
  al : ∀ c ∈ all, Lits vars c
  same : ∀ (i : Nat) (c : List Int), known[i]? = some c → ∃ q : Nat, nums.getD i 0 = q ∧ q < all.length ∧ sortF (all.getD q []) = sortF c
  chk : ressF vars out xss 0 = (all, 0, 0)
/-- Each literal is false by one ahead of the k-th, or by one that was asked. -/
def Fal (t y : List Int) (k : Nat) (now : List Int) : Prop := ∀ x ∈ now, ∃ j : Nat, t[j]? = some (-x) ∧ (j < k ∨ y.getD j 0 < 0)
theorem hasB_perm {l m : List Int} (h : l.Perm m) (x : Int) : hasB l x = hasB m x := by
  rw [Bool.eq_iff_iff, hasB_iff, hasB_iff]
  exact h.mem_iff
theorem Lits.two {vars x : Int} {t : List Int} (h : Lits vars t) (hx : x ∈ t) : -x ∉ t := fun hn => by
  have := h.only hx hn (by simp)
  have := (h.1 x hx).1
  omega
theorem getD_snoc {α : Type} {l : List α} {x d : α} {i : Nat} (h : i < l.length) : (l ++ [x]).getD i d = l.getD i d := by
  rw [List.getD_eq_getElem?_getD, List.getD_eq_getElem?_getD, List.getElem?_append_left h]
theorem getD_last {α : Type} {l : List α} {x d : α} : (l ++ [x]).getD l.length d = x := by
  rw [List.getD_eq_getElem?_getD, List.getElem?_concat_length]; rfl
theorem tr_same {vars : Int} {xss known : List (List Int)} {nums t y : List Int} (hh : Hist known t y) (ht : Lits vars t) : ∀ (k : Nat) (now : List Int) (num nx : Int) (out : List R3) (all : List (List Int)), k ≤ t.length → TrOk vars xss known nums nx out all →
    (∃ q : Nat, num = q ∧ q < all.length ∧ sortF (all.getD q []) = sortF now) → Lits vars now → Fal t y k now →
    ∃ all' now' num' nx' out', trF known nums t y k now num nx out = (now', num', nx', out') ∧ trR nums t y k all num out = (all', num', out') ∧ TrOk vars xss known nums nx' out' all' ∧ (∃ q : Nat, num' = q ∧ q < all'.length ∧ sortF (all'.getD q []) = sortF now') ∧ Lits vars now' ∧ Fal t y 0 now' ∧
      ((all' = all ∧ now' = now ∧ num' = num ∧ out' = out) ∨ (num' + 1 = all'.length ∧ out' ≠ []))
  | 0, now, num, nx, out, all, _, h, hq, hl, hf => ⟨all, now, num, nx, out, rfl, rfl, h, hq, hl, hf, .inl ⟨rfl, rfl, rfl, rfl⟩⟩
  | k + 1, now, num, nx, out, all, hk, h, hq, hl, hf => by
    have hky : k < y.length := by rw [hh.1]; omega
    have hkt : k < t.length := by omega
    have hyk : y[k]? = some (y.getD k 0) := by rw [List.getD_eq_getElem?_getD, List.getElem?_eq_getElem hky]; rfl
    have htk : t[k]? = some (t.getD k 0) := by rw [List.getD_eq_getElem?_getD, List.getElem?_eq_getElem hkt]; rfl
    obtain ⟨q, hq1, hq2, hq3⟩ := hq
    have hpn := perm_of_sortF hq3
    have ehas : hasB (all.getD num.toNat []) (-(t.getD k 0)) = hasB now (-(t.getD k 0)) := by rw [hq1, Int.toNat_natCast]; exact hasB_perm hpn _
    rw [trF, trR, ehas]
    by_cases hc : y.getD k 0 < 0 ∨ hasB now (-(t.getD k 0)) = false
    · rw [if_pos hc, if_pos hc]
      refine tr_same hh ht k now num nx out all (by omega) h ⟨q, hq1, hq2, hq3⟩ hl fun x hx => ?_
      obtain ⟨j, hj1, hj2⟩ := hf x hx
      rcases hj2 with hj2 | hj2
      · by_cases e : j = k
        · subst e
          rcases hc with hc | hc
          · exact ⟨j, hj1, .inr hc⟩
          · exfalso
            rw [htk] at hj1
            injection hj1 with hj1
            rw [hj1, Int.neg_neg] at hc
            exact hasB_false.1 hc hx
        · exact ⟨j, hj1, .inl (by omega)⟩
      · exact ⟨j, hj1, .inr hj2⟩
    · rw [if_neg hc, if_neg hc]
      have hy0 : 0 ≤ y.getD k 0 := by
        rcases Int.lt_or_le (y.getD k 0) 0 with h1 | h1
        · exact absurd (.inl h1) hc
        · exact h1
      have hn : -(t.getD k 0) ∈ now := by
        rw [← hasB_iff]
        cases hb : hasB now (-(t.getD k 0))
        · exact absurd (.inr hb) hc
        · rfl
      obtain ⟨c, c1, c2, c3⟩ := hh.2 k _ _ hyk htk hy0
      have hcd : known.getD (y.getD k 0).toNat [] = c := by rw [List.getD_eq_getElem?_getD, c1]; rfl
      obtain ⟨m, m1, m2, m3⟩ := h.same _ _ c1
      have hpc := perm_of_sortF m3
      have hcl := h.kl c (List.mem_of_getElem? c1)
      rw [hcd, m1]
      obtain ⟨r1, r2, r3⟩ := rv_res (S := fun x => -x ∈ t) (fun x hx hx2 => ht.two hx hx2) hcl hl hpc.symm hpn.symm c2 hn
        (fun x hx hne => List.mem_of_mem_take (c3 x hx hne)) (fun x hx _ => by
          obtain ⟨j, hj1, _⟩ := hf x hx
          exact List.mem_of_getElem? hj1)
      have hbits := ht.1 _ (List.mem_of_getElem? htk)
      have hone : oneF vars all (rsT (t.getD k 0) num m) = (rvF c now ((t.getD k 0).natAbs : Int), 0) ∧ oneR all (rsT (t.getD k 0) num m) = (rvF c now ((t.getD k 0).natAbs : Int), 0) := by
        have e : oneR all (rsT (t.getD k 0) num m) = (rvF c now ((t.getD k 0).natAbs : Int), 0) := by
          rw [← r3]
          unfold oneR rsT
          rw [hq1]
          by_cases h0 : t.getD k 0 < 0
          · rw [if_pos h0, if_pos h0, if_pos h0]; simp only [Int.toNat_natCast]
          · rw [if_neg h0, if_neg h0, if_neg h0]; simp only [Int.toNat_natCast]
        refine ⟨?_, e⟩
        rw [← e]
        unfold oneF
        have : outB vars all.length (rsT (t.getD k 0) num m) = false := by
          rw [outB_iff]
          unfold rsT
          rw [hq1]
          by_cases h0 : t.getD k 0 < 0
          · rw [if_pos h0]; simp only; omega
          · rw [if_neg h0]; simp only; omega
        rw [this]
        rfl
      rw [hone.2]
      have hok : TrOk vars xss known nums (nx + 1) (out ++ [rsT (t.getD k 0) num m]) (all ++ [rvF c now ((t.getD k 0).natAbs : Int)]) := by
        refine ⟨h.len, by rw [h.nx_]; simp, h.kl, snoc_lits h.al r1, fun i d hd => ?_, ?_⟩
        · obtain ⟨p, p1, p2, p3⟩ := h.same i d hd
          exact ⟨p, p1, by simp; omega, by rw [getD_snoc p2]; exact p3⟩
        · have := ressF_snoc (r := rsT (t.getD k 0) num m) out xss all 0 h.chk (by rw [hone.1])
          rw [hone.1] at this
          exact this
      obtain ⟨all', now', num', nx', out', g1, g2, g3, g4, g5, g6, g7⟩ := tr_same hh ht k (rvF c now ((t.getD k 0).natAbs : Int)) nx (nx + 1) (out ++ [rsT (t.getD k 0) num m]) (all ++ [rvF c now ((t.getD k 0).natAbs : Int)]) (by omega) hok
        ⟨all.length, h.nx_, by simp, by rw [getD_last]⟩ r1 (fun x hx => by
          obtain ⟨hx1, hx2⟩ := (r2 x).1 hx
          rcases hx1 with hx1 | hx1
          · have hm := c3 x hx1 fun e => hx2 (by rw [e])
            obtain ⟨j, hj, e⟩ := List.getElem_of_mem hm
            rw [List.length_take] at hj
            refine ⟨j, ?_, .inl (by omega)⟩
            rw [List.getElem_take] at e
            rw [← e, List.getElem?_eq_getElem]
          · obtain ⟨j, hj1, hj2⟩ := hf x hx1
            refine ⟨j, hj1, ?_⟩
            rcases hj2 with hj2 | hj2
            · by_cases e : j = k
              · subst e
                exfalso
                rw [htk] at hj1
                injection hj1 with hj1
                exact hx2 (by rw [hj1, Int.natAbs_neg])
              · exact .inl (by omega)
            · exact .inr hj2)
      refine ⟨all', now', num', nx', out', g1, ?_, g3, g4, g5, g6, .inr ?_⟩
      · rw [← h.nx_]; exact g2
      · rcases g7 with ⟨g8, _, g9, g10⟩ | g7
        · refine ⟨by rw [g9, g8, h.nx_]; simp, by rw [g10]; simp⟩
        · exact g7

/-- Clauses that are parts of others fall at least as often. -/
theorem falls_sub {vars : Int} {l m : List (List Int)} {c : List Int} (v0 : 0 ≤ vars) (hl : ∀ c ∈ l, Lits vars c) (hm : ∀ c ∈ m, Lits vars c) (hc : Lits vars c) (h : ∀ x ∈ l, ∃ y ∈ m, ∀ z ∈ y, z ∈ x) (hf : fallsF vars l c = true) : fallsF vars m c = true := by
  cases hg : fallsF vars m c
  · exfalso
    unfold fallsF askF at hf hg
    have ok := runF_ok v0 hm (vars.toNat + 1) (negF c) ((negF c).map fun _ => -1) hc.neg (by omega)
    have hneg : (runF m (vars.toNat + 1) (negF c) ((negF c).map fun _ => -1)).2.2 < 0 := by simpa using hg
    have hs := ok.shut hneg
    obtain ⟨u, hu⟩ := ok.ext
    have := (runF_more (xss := l) (s := (runF m (vars.toNat + 1) (negF c) ((negF c).map fun _ => -1)).1) (fun c hc => (hl c hc).cls.1) (fun x hx => by
      obtain ⟨y, hy, e⟩ := h x hx
      obtain ⟨h1, h2⟩ := hs y hy
      have h3 : falB (runF m (vars.toNat + 1) (negF c) ((negF c).map fun _ => -1)).1 0 x = false := by
        rw [Bool.eq_false_iff] at h1 ⊢
        exact fun h4 => h1 (falB_iff.2 fun z hz hne => falB_iff.1 h4 z (e z hz) hne)
      refine ⟨h3, ?_⟩
      by_cases h4 : mustF (runF m (vars.toNat + 1) (negF c) ((negF c).map fun _ => -1)).1 x x = 0
      · exact h4
      · exfalso
        obtain ⟨g1, g2, g3, g4⟩ := mustF_spec h4
        by_cases hin : mustF (runF m (vars.toNat + 1) (negF c) ((negF c).map fun _ => -1)).1 x x ∈ y
        · have sh := shut_run (fun c hc => (hm c hc).cls.1) hs y hy _ hin fun z hz hne => g4 z (e z hz) hne
          exact g2 sh
        · rw [Bool.eq_false_iff] at h1
          exact h1 (falB_iff.2 fun z hz _ => g4 z (e z hz) fun e2 => hin (e2 ▸ hz))) (vars.toNat + 1) (negF c) ((negF c).map fun _ => -1) (fun x hx => by rw [hu]; exact List.mem_append_left _ hx)).2
    rw [this] at hf
    simp at hf
  · rfl
theorem askF_sort {vars : Int} {l m : List (List Int)} {q : List Int} (hl : ∀ c ∈ l, Lits vars c) (hm : ∀ c ∈ m, Lits vars c) (h : l.map sortF = m.map sortF) : askF vars l q = askF vars m q := by
  unfold askF
  rw [← runF_sort (fun c hc => (hl c hc).cls), h, runF_sort (fun c hc => (hm c hc).cls)]
theorem ofL_done {vars : Int} {known : List (List Int)} {nums : List Int} {nx : Int} {out : List R3} (h : known.any (fun z => z.isEmpty) = true) : ∀ rs : List (Int × List Int), ofL vars rs known nums nx out = some out
  | [] => rfl
  | (k, x) :: r => by rw [ofL, if_pos h]
theorem sortF_isEmpty {l m : List Int} (h : sortF l = sortF m) : l.isEmpty = m.isEmpty := by
  have := (perm_of_sortF h).length_eq
  rw [Bool.eq_iff_iff, List.isEmpty_iff_length_eq_zero, List.isEmpty_iff_length_eq_zero, this]
/-- What the program tells of a proof is what the reference tells; they are resolutions, and the last one has no literals. -/
theorem of_un {vars : Int} (v0 : 0 ≤ vars) {xss : List (List Int)} : ∀ (rs : List (Int × List Int)) (p known : List (List Int)) (nums : List Int) (nx : Int) (out : List R3) (all : List (List Int)), (∀ r ∈ rs, (r.1 = 1 ∨ r.1 = 2) ∧ Lits vars r.2) → (∀ c ∈ p, Lits vars c) →
    TrOk vars xss known nums nx out all → known.any (fun z => z.isEmpty) = false → known.length = p.length → (∀ (i : Nat) (c d : List Int), known[i]? = some c → p[i]? = some d → ∀ z ∈ c, z ∈ d) →
    (∀ k, p.length ≤ k → k < (p ++ learntF rs).length → fallsF vars ((p ++ learntF rs).take k) ((p ++ learntF rs).getD k []) = true) → (p ++ learntF rs).any (fun x => x.isEmpty) = true →
    ofL vars rs known nums nx out = unL vars rs all nums out ∧ ∀ l, ofL vars rs known nums nx out = some l → ∃ all', ressF vars l xss 0 = (all', 0, 0) ∧ l ≠ [] ∧ all'.getLast? = some []
  | [], p, known, nums, nx, out, all, _, _, _, hne, hlen, hsub, _, hany => by
    exfalso
    obtain ⟨d, hd, he⟩ := List.any_eq_true.1 hany
    rw [show p ++ learntF [] = p by simp [learntF]] at hd
    obtain ⟨i, hi, e⟩ := List.getElem_of_mem hd
    have hik : i < known.length := by omega
    have hs := hsub i known[i] d (List.getElem?_eq_getElem hik) (by rw [List.getElem?_eq_getElem hi, e])
    have hd0 : d = [] := List.isEmpty_iff.1 he
    have : (known[i]).isEmpty = true := by
      rw [List.isEmpty_iff, List.eq_nil_iff_forall_not_mem]
      intro z hz
      have := hs z hz
      rw [hd0] at this
      simp at this
    have h2 := List.any_eq_false.1 hne known[i] (List.getElem_mem hik)
    exact h2 this
  | (k, x) :: r, p, known, nums, nx, out, all, hrs, hp, hok, hne, hlen, hsub, hrow, hany => by
    have hx := (hrs (k, x) (by simp)).2
    have hr : ∀ q ∈ r, (q.1 = 1 ∨ q.1 = 2) ∧ Lits vars q.2 := fun q hq => hrs q (by simp [hq])
    simp only at hx
    rw [ofL, if_neg (by rw [hne]; simp), unL]
    rw [learntF_cons] at hrow hany
    by_cases hk : k = 1
    · have hk' : ¬ k ≠ 1 := by omega
      rw [if_neg hk', if_neg hk']
      rw [if_pos hk] at hrow hany
      have e : p ++ x :: learntF r = (p ++ [x]) ++ learntF r := by simp
      rw [e] at hrow hany
      have hf : fallsF vars known x = true := by
        have := hrow p.length (Nat.le_refl _) (by simp)
        have e1 : ((p ++ [x]) ++ learntF r).take p.length = p := by rw [List.append_assoc, List.take_left']; rfl
        have e2 : ((p ++ [x]) ++ learntF r).getD p.length [] = x := by rw [List.getD_eq_getElem?_getD, List.append_assoc, List.getElem?_append_right (Nat.le_refl _)]; simp
        rw [e1, e2] at this
        refine falls_sub v0 hp hok.kl hx (fun d hd => ?_) this
        obtain ⟨i, hi, e3⟩ := List.getElem_of_mem hd
        have hik : i < known.length := by omega
        exact ⟨known[i], List.getElem_mem hik, hsub i _ _ (List.getElem?_eq_getElem hik) (by rw [List.getElem?_eq_getElem hi, e3])⟩
      have hask : uaF vars all nums x = askF vars known (negF x) := by
        unfold uaF
        have hmap : (nums.map (fun i => all.getD i.toNat [])).map sortF = known.map sortF := by
          refine List.ext_getElem? fun i => ?_
          rw [List.getElem?_map, List.getElem?_map, List.getElem?_map]
          rcases Nat.lt_or_ge i known.length with hi | hi
          · obtain ⟨q, q1, q2, q3⟩ := hok.same i _ (List.getElem?_eq_getElem hi)
            have hin : i < nums.length := by rw [hok.len]; exact hi
            rw [List.getD_eq_getElem?_getD, List.getElem?_eq_getElem hin] at q1
            simp only [Option.getD_some] at q1
            rw [List.getElem?_eq_getElem hin, List.getElem?_eq_getElem hi]
            simp only [Option.map_some]
            rw [q1, Int.toNat_natCast, q3]
          · rw [List.getElem?_eq_none hi, List.getElem?_eq_none (by rw [hok.len]; exact hi)]; rfl
        refine askF_sort (fun c hc => ?_) hok.kl hmap
        obtain ⟨i, hi, rfl⟩ := List.mem_map.1 hc
        obtain ⟨j, hj, e3⟩ := List.getElem_of_mem hi
        have hjk : j < known.length := by rw [← hok.len]; exact hj
        obtain ⟨q, q1, q2, q3⟩ := hok.same j _ (List.getElem?_eq_getElem hjk)
        rw [List.getD_eq_getElem?_getD, List.getElem?_eq_getElem hj] at q1
        simp only [Option.getD_some] at q1
        rw [← e3, q1, Int.toNat_natCast]
        refine hok.al _ ?_
        rw [List.getD_eq_getElem?_getD, List.getElem?_eq_getElem q2]
        exact List.getElem_mem q2
      have ok := runF_ok v0 hok.kl (vars.toNat + 1) (negF x) ((negF x).map fun _ => -1) hx.neg (by omega)
      have hh := (runF_hist (xss := known) (vars.toNat + 1) (negF x) ((negF x).map fun _ => -1) ⟨by simp, fun j k x h1 h2 h0 => by
        have := List.mem_of_getElem? h1
        rw [List.mem_map] at this
        obtain ⟨_, _, rfl⟩ := this
        omega⟩).1
      have hyy := runF_y (xss := known) (negF x) (vars.toNat + 1) (negF x) ((negF x).map fun _ => -1) (by simp) (fun j x _ h => List.mem_of_getElem? h)
      have hwhy := ok.why (fun k hk => by rw [List.mem_map] at hk; obtain ⟨_, _, rfl⟩ := hk; omega)
      have hfa : 0 ≤ (askF vars known (negF x)).2.2 := by unfold fallsF at hf; simpa using hf
      have hfa' : ¬ (askF vars known (negF x)).2.2 < 0 := by omega
      rw [usF, hask, stpF, if_neg hfa', if_neg hfa']
      clear hfa'
      generalize hrr : askF vars known (negF x) = rr at hfa
      unfold askF at hrr
      rw [hrr] at ok hh hyy hwhy
      obtain ⟨t, y, a⟩ := rr
      simp only at ok hh hyy hwhy hfa ⊢
      obtain ⟨c, c1, c2⟩ := ok.fals hfa
      have hcd : known.getD a.toNat [] = c := by rw [List.getD_eq_getElem?_getD, c1]; rfl
      have hcl := hok.kl c (List.mem_of_getElem? c1)
      obtain ⟨q, q1, q2, q3⟩ := hok.same _ _ c1
      rw [hcd]
      obtain ⟨all', now', num', nx', out', g1, g2, g3, g4, g5, g6, g7⟩ := tr_same (xss := xss) hh ok.lits t.length (sortF c) (nums.getD a.toNat 0) nx out all (Nat.le_refl _) hok ⟨q, q1, q2, by rw [sortF_idem]; exact q3⟩ hcl.sortF (fun z hz => by
        have hz' := sortF_mem.1 hz
        have := falB_iff.1 c2 z hz' (hcl.1 z hz').1
        obtain ⟨j, hj, e3⟩ := List.getElem_of_mem this
        exact ⟨j, by rw [List.getElem?_eq_getElem hj, e3], .inl hj⟩)
      rw [g1, g2]
      simp only
      have hpart : ∀ z ∈ now', z ∈ x := fun z hz => by
        obtain ⟨j, hj1, hj2⟩ := g6 z hz
        have hj3 : y.getD j 0 < 0 := by
          rcases hj2 with hj2 | hj2
          · omega
          · exact hj2
        have hjy : j < y.length := by
          rw [hh.1]
          exact (List.getElem?_eq_some_iff.1 hj1).1
        have hyj : y[j]? = some (y.getD j 0) := by rw [List.getD_eq_getElem?_getD, List.getElem?_eq_getElem hjy]; rfl
        have h1 := (hwhy _ (List.mem_of_getElem? hyj)).1
        have := hyy j (-z) (by rw [hyj]; congr 1; omega) hj1
        obtain ⟨u, hu, e3⟩ := List.mem_map.1 this
        have : u = z := by omega
        rw [← this]; exact hu
      by_cases hmany : 2000 < out'.length
      · rw [if_pos hmany, if_pos hmany]
        exact ⟨rfl, fun l hl => by simp at hl⟩
      · rw [if_neg hmany, if_neg hmany]
        obtain ⟨n', n1, n2, n3⟩ := g4
        have hemp : (all'.getD num'.toNat []).isEmpty = now'.isEmpty := by rw [n1, Int.toNat_natCast]; exact sortF_isEmpty n3
        rw [hemp]
        by_cases hnow : now'.isEmpty = true
        · rw [if_pos hnow, ofL_done (by rw [List.any_append]; simp [hnow])]
          refine ⟨rfl, fun l hl => ?_⟩
          injection hl with hl
          subst hl
          refine ⟨all', g3.chk, ?_⟩
          rcases g7 with ⟨_, h8, _, _⟩ | ⟨h8, h9⟩
          · exfalso
            rw [h8, List.isEmpty_iff_length_eq_zero, sortF_len, ← List.isEmpty_iff_length_eq_zero] at hnow
            exact List.any_eq_false.1 hne c (List.mem_of_getElem? c1) hnow
          · refine ⟨h9, ?_⟩
            rw [hnow, n1, Int.toNat_natCast, List.isEmpty_iff] at hemp
            rw [List.getLast?_eq_getElem?, show all'.length - 1 = n' by omega, List.getElem?_eq_getElem n2]
            rw [List.getD_eq_getElem?_getD, List.getElem?_eq_getElem n2] at hemp
            simp only [Option.getD_some] at hemp
            rw [hemp]
        · rw [if_neg hnow]
          refine of_un v0 r (p ++ [x]) (known ++ [now']) (nums ++ [num']) nx' out' all' hr (snoc_lits hp hx) ?_ ?_ (by simp [hlen]) ?_ ?_ hany
          · refine ⟨by simp [g3.len], g3.nx_, snoc_lits g3.kl g5, g3.al, fun i d hd => ?_, g3.chk⟩
            rcases Nat.lt_or_ge i known.length with hi | hi
            · rw [List.getElem?_append_left hi] at hd
              obtain ⟨u, u1, u2, u3⟩ := g3.same i d hd
              exact ⟨u, by rw [getD_snoc (by rw [g3.len]; exact hi)]; exact u1, u2, u3⟩
            · have hi2 := (List.getElem?_eq_some_iff.1 hd).1
              simp at hi2
              obtain rfl : i = known.length := by omega
              rw [List.getElem?_concat_length] at hd
              injection hd with hd
              subst hd
              exact ⟨n', by rw [← g3.len, getD_last]; exact n1, n2, n3⟩
          · rw [List.any_append, hne]
            simpa using hnow
          · intro i d1 d2 hd1 hd2
            rcases Nat.lt_or_ge i known.length with hi | hi
            · rw [List.getElem?_append_left hi] at hd1
              rw [List.getElem?_append_left (by omega)] at hd2
              exact hsub i d1 d2 hd1 hd2
            · have hi2 := (List.getElem?_eq_some_iff.1 hd1).1
              simp at hi2
              obtain rfl : i = known.length := by omega
              rw [List.getElem?_concat_length] at hd1
              rw [hlen, List.getElem?_concat_length] at hd2
              injection hd1 with hd1
              injection hd2 with hd2
              subst hd1
              subst hd2
              exact hpart
          · intro k' h1 h2
            exact hrow k' (by simp at h1; omega) h2
    · have hk' : k ≠ 1 := hk
      rw [if_pos hk', if_pos hk']
      rw [if_neg hk] at hrow hany
      exact of_un v0 r p known nums nx out all hr hp hok hne hlen hsub hrow hany

theorem natsF_at (n i : Nat) (h : i < n) : (natsF n)[i]? = some (i : Int) := by
  unfold natsF
  rw [List.getElem?_map, List.getElem?_range h]; rfl
/-- .. for a proof that is taken. -/
theorem of_whole {vars : Int} {n : Nat} (v0 : 0 ≤ vars) {xss : List (List Int)} {rs : List (Int × List Int)} (hx : ∀ c ∈ xss, Lits vars c) (hr : ∀ r ∈ rs, (r.1 = 1 ∨ r.1 = 2) ∧ Lits vars r.2) (h : whyF vars n xss rs 0 = -1) :
    ofF vars xss rs = unF vars xss rs ∧ (xss.any (fun z => z.isEmpty) = true → ofF vars xss rs = some []) ∧ (xss.any (fun z => z.isEmpty) = false → ∀ l, ofF vars xss rs = some l → ∃ all', ressF vars l xss 0 = (all', 0, 0) ∧ l ≠ [] ∧ all'.getLast? = some []) := by
  obtain ⟨h1, h2⟩ := why_row v0 rs xss xss 0 hx hx hr (fun _ h => h) h
  unfold ofF unF
  cases hany : xss.any (fun z => z.isEmpty)
  · rw [if_neg (by simp)]
    have hok : TrOk vars xss xss (natsF xss.length) xss.length [] xss := by
      refine ⟨by simp [natsF], rfl, hx, hx, fun i c hc => ?_, by rw [ressF]⟩
      have hi := (List.getElem?_eq_some_iff.1 hc).1
      exact ⟨i, by rw [List.getD_eq_getElem?_getD, natsF_at _ _ hi]; rfl, hi, by rw [List.getD_eq_getElem?_getD, hc]; rfl⟩
    obtain ⟨g1, g2⟩ := of_un v0 rs xss xss _ _ _ _ hr hx hok hany rfl (fun i c d hc hd z hz => by rw [hc] at hd; injection hd with hd; rw [← hd]; exact hz) h1 h2
    exact ⟨g1, fun h => by simp at h, fun _ => g2⟩
  · rw [if_pos rfl, ofL_done hany]
    exact ⟨rfl, fun _ => rfl, fun h => by simp at h⟩
end Go.Proofs.Ytabjbpkojbdgaaa
