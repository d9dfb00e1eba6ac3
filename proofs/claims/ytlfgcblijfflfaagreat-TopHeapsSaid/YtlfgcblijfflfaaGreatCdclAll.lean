/- CdclAll: the texts CdclPlain, CdclStep, CutW, CdclAt, CdclAna, CdclSt, CdclProp, CdclDec, AppFull, CdclLearn, CdclBack, CdclNo, CdclDo in one. -/
import Derived.Test.YtlfgcblijfflfaaGreatTaughtDo
import Derived.Test.YtlfgcblijfflfaaGreatShut
import Derived.Test.YtlfgcblijfflfaaGreatCutA
import Derived.Test.YtlfgcblijfflfaaGreatPool
import Derived.Test.YtlfgcblijfflfaaGreatUnitAdd
import Derived.Test.YtlfgcblijfflfaaGreatUnitRun
import Derived.Test.YtlfgcblijfflfaaGreatDelGen
import Derived.BigQuiet
import Derived.Test.YtlfgcblijfflfaaGreatStepOwn
import Derived.Test.YtlfgcblijfflfaaGreatTail
import Derived.Test.YtlfgcblijfflfaaGreatOwn
import Derived.Test.YtlfgcblijfflfaaGreatClipR
import Derived.Test.YtlfgcblijfflfaaGreatBoth
import Derived.Deep.OwnRows
/- The search that learns, plainly: what its state keeps; what a conflict teaches; what its ends say; how many clauses it can learn. -/
namespace Go.Proofs.YtlfgcblijfflfaaGreat

theorem lev_same {y v u : List Int} {z : Nat} (h : Lev y v z) (hu : ∀ k ∈ u, 0 ≤ k) : Lev (y ++ u) (v ++ List.replicate u.length (z : Int)) z := by
  have key : ∀ (i : Nat) (a : Int), (v ++ List.replicate u.length (z : Int))[i]? = some a → (i < v.length ∧ v[i]? = some a) ∨ (v.length ≤ i ∧ a = (z : Int)) := fun i a hi => by
    rw [List.getElem?_append] at hi
    split at hi
    · rename_i hlt; exact .inl ⟨hlt, hi⟩
    · rw [List.getElem?_replicate] at hi
      split at hi
      · simp at hi; exact .inr ⟨by omega, hi.symm⟩
      · cases hi
  refine ⟨by simp [h.len], fun i a hi => ?_, fun i j a b hij h1 h2 => ?_, fun i k h1 h2 => ?_⟩
  · rcases key i a hi with ⟨_, h1⟩ | ⟨_, h1⟩
    · exact h.low i a h1
    · omega
  · rcases key i a h1 with ⟨g1, g2⟩ | ⟨g1, g2⟩ <;> rcases key j b h2 with ⟨g3, g4⟩ | ⟨g3, g4⟩
    · exact h.mono i j a b hij g2 g4
    · have := h.low i a g2; omega
    · omega
    · omega
  · rw [List.getElem?_append] at h1
    split at h1
    · rename_i hlt
      obtain ⟨e, b, hb, h0, hj⟩ := h.new i k h1 h2
      have hiv : i < v.length := by rw [h.len]; exact hlt
      refine ⟨e, b, by rw [List.getElem?_append_left hiv]; exact hb, h0, fun j a hji ha => ?_⟩
      rcases key j a ha with ⟨g1, g2⟩ | ⟨g1, g2⟩
      · exact hj j a hji g2
      · omega
    · have := hu k (List.mem_of_getElem? h1); omega
theorem take_some {α : Type} {l : List α} {n i : Nat} {a : α} (h : (l.take n)[i]? = some a) : i < n ∧ l[i]? = some a := by
  rw [List.getElem?_take] at h
  split at h
  · rename_i hi; exact ⟨hi, h⟩
  · cases h
theorem some_take {α : Type} {l : List α} {n i : Nat} {a : α} (hi : i < n) (h : l[i]? = some a) : (l.take n)[i]? = some a := by
  rw [List.getElem?_take, if_pos hi]; exact h
theorem lev_take {y v : List Int} {z n b : Nat} (h : Lev y v z) (hb : ∀ (i : Nat) (a : Int), i < n → v[i]? = some a → a ≤ b) : Lev (y.take n) (v.take n) b := by
  refine ⟨by simp [h.len], fun i a hi => ?_, fun i j a c hij h1 h2 => ?_, fun i k h1 h2 => ?_⟩
  · obtain ⟨g1, g2⟩ := take_some hi
    exact ⟨(h.low i a g2).1, hb i a g1 g2⟩
  · exact h.mono i j a c hij (take_some h1).2 (take_some h2).2
  · obtain ⟨g1, g2⟩ := take_some h1
    obtain ⟨e, c, hc, h0, hj⟩ := h.new i k g2 h2
    exact ⟨e, c, some_take g1 hc, h0, fun j a hji ha => hj j a hji (take_some ha).2⟩
theorem hist_take {xss : List (List Int)} {t y : List Int} (h : Hist xss t y) (n : Nat) : Hist xss (t.take n) (y.take n) := by
  refine ⟨by simp [h.1], fun i k x h1 h2 h0 => ?_⟩
  obtain ⟨g1, g2⟩ := take_some h1
  rw [List.take_take, Nat.min_eq_left (by omega)]
  exact h.2 i k x g2 (take_some h2).2 h0
theorem hist_more {xss ls : List (List Int)} {t y : List Int} (h : Hist xss t y) : Hist (xss ++ ls) t y := by
  refine ⟨h.1, fun i k x h1 h2 h0 => ?_⟩
  obtain ⟨c, c1, c2⟩ := h.2 i k x h1 h2 h0
  exact ⟨c, by rw [List.getElem?_append_left (List.getElem?_eq_some_iff.1 c1).1]; exact c1, c2⟩
theorem lits_both {vars : Int} {t : List Int} (h : Lits vars t) {x : Int} (h1 : x ∈ t) (h2 : -x ∈ t) : False := by
  have x0 := (h.1 x h1).1
  obtain ⟨i, hi, e1⟩ := List.getElem_of_mem h1
  obtain ⟨j, hj, e2⟩ := List.getElem_of_mem h2
  have key := List.pairwise_iff_getElem.1 h.2
  rcases Nat.lt_trichotomy i j with g | g | g
  · exact key i j hi hj g (by rw [e1, e2]; omega)
  · subst g; rw [e1] at e2; omega
  · exact key j i hj hi g (by rw [e1, e2]; omega)
theorem neg_lits {vars : Int} {t c : List Int} (h : Lits vars t) (nd : c.Nodup) (hn : ∀ x ∈ c, -x ∈ t) : Lits vars c := by
  refine ⟨fun x hx => by have := h.1 _ (hn x hx); omega, ?_⟩
  refine List.Pairwise.imp_of_mem ?_ nd
  intro x w hx hw hne he
  rcases Int.natAbs_eq_natAbs_iff.1 he with e | e
  · exact hne e
  · exact lits_both h (by have := hn w hw; rw [← e] at this; exact this) (hn x hx)

/-- A clause as a number. -/
def digF (c : List Int) (k : Nat) : Nat := if hasB c (k : Int) then 1 else if hasB c (-(k : Int)) then 2 else 0
def codeF (c : List Int) : Nat → Nat
  | 0 => 0
  | k + 1 => 3 * codeF c k + digF c (k + 1)
theorem digF_lt (c : List Int) (k : Nat) : digF c k < 3 := by unfold digF; split <;> (try split) <;> omega
theorem codeF_lt (c : List Int) : ∀ k, codeF c k < 3 ^ k
  | 0 => by simp [codeF]
  | k + 1 => by
    have := codeF_lt c k
    have := digF_lt c (k + 1)
    rw [codeF, Nat.pow_succ]
    omega
theorem codeF_eq {c d : List Int} : ∀ k, codeF c k = codeF d k → ∀ i, 1 ≤ i → i ≤ k → digF c i = digF d i
  | 0, _, i, h1, h2 => by omega
  | k + 1, h, i, h1, h2 => by
    rw [codeF, codeF] at h
    have a := digF_lt c (k + 1)
    have b := digF_lt d (k + 1)
    by_cases e : i = k + 1
    · rw [e]; omega
    · exact codeF_eq k (by omega) i h1 (by omega)
theorem codeF_sub {vars : Int} {c d : List Int} (hc : Lits vars c) (h : codeF c vars.toNat = codeF d vars.toNat) : ∀ x ∈ c, x ∈ d := fun x hx => by
  have hb := hc.1 x hx
  have hd := codeF_eq _ h x.natAbs (by omega) (by omega)
  unfold digF at hd
  by_cases hp : 0 < x
  · have e : ((x.natAbs : Nat) : Int) = x := by omega
    rw [e, hasB_iff.2 hx] at hd
    simp only [if_true] at hd
    cases hdx : hasB d x
    · rw [hdx] at hd; simp only [Bool.false_eq_true, if_false] at hd; split at hd <;> omega
    · exact hasB_iff.1 hdx
  · have e : -((x.natAbs : Nat) : Int) = x := by omega
    have e2 : ((x.natAbs : Nat) : Int) = -x := by omega
    have hn : hasB c (-x) = false := hasB_false.2 fun h' => lits_both hc hx h'
    rw [e, e2, hasB_iff.2 hx, hn] at hd
    simp only [if_true, Bool.false_eq_true, if_false] at hd
    cases hdx : hasB d x
    · rw [hdx] at hd; simp only [Bool.false_eq_true, if_false] at hd; split at hd <;> omega
    · exact hasB_iff.1 hdx

/-- The levels to which one goes back. -/
def bckF (t v : List Int) (z : Int) : List Int → Int → Int
  | [], b => b
  | l :: r, b => bckF t v z r (if lvF t v l < z then max b (lvF t v l) else b)
theorem bckF_spec (t v : List Int) (z : Int) : ∀ (l : List Int) (b : Int), b ≤ bckF t v z l b ∧ (∀ x ∈ l, lvF t v x < z → lvF t v x ≤ bckF t v z l b) ∧ (bckF t v z l b = b ∨ ∃ x ∈ l, lvF t v x < z ∧ bckF t v z l b = lvF t v x)
  | [], b => ⟨Int.le_refl _, by simp, .inl rfl⟩
  | y :: r, b => by
    rw [bckF]
    obtain ⟨h1, h2, h3⟩ := bckF_spec t v z r (if lvF t v y < z then max b (lvF t v y) else b)
    by_cases hy : lvF t v y < z
    · rw [if_pos hy] at h1 h2 h3 ⊢
      refine ⟨by omega, fun x hx hxz => ?_, ?_⟩
      · rcases List.mem_cons.1 hx with e | hx
        · rw [e]; omega
        · exact h2 x hx hxz
      · rcases h3 with h3 | ⟨x, hx, hxz, e⟩
        · by_cases hm : b ≤ lvF t v y
          · exact .inr ⟨y, by simp, hy, by rw [h3]; omega⟩
          · exact .inl (by rw [h3]; omega)
        · exact .inr ⟨x, by simp [hx], hxz, e⟩
    · rw [if_neg hy] at h1 h2 h3 ⊢
      refine ⟨h1, fun x hx hxz => ?_, ?_⟩
      · rcases List.mem_cons.1 hx with e | hx
        · rw [e] at hxz; exact absurd hxz hy
        · exact h2 x hx hxz
      · rcases h3 with h3 | ⟨x, hx, hxz, e⟩
        · exact .inl h3
        · exact .inr ⟨x, by simp [hx], hxz, e⟩
def keepF (v : List Int) (b : Int) : Nat := (v.takeWhile (fun a => decide (a ≤ b))).length
theorem keepF_low : ∀ {v : List Int} {b : Int} {i : Nat} {a : Int}, i < keepF v b → v[i]? = some a → a ≤ b
  | [], b, i, a, h, _ => by simp [keepF] at h
  | x :: r, b, i, a, h, h2 => by
    unfold keepF at h
    rw [List.takeWhile_cons] at h
    by_cases hx : x ≤ b
    · simp only [decide_eq_true hx, if_true, List.length_cons] at h
      cases i with
      | zero => simp at h2; omega
      | succ i => exact keepF_low (v := r) (i := i) (by unfold keepF; omega) (by simpa using h2)
    · simp [hx] at h
theorem keepF_next : ∀ {v : List Int} {b a : Int}, v[keepF v b]? = some a → b < a
  | [], b, a, h => by simp at h
  | x :: r, b, a, h => by
    unfold keepF at h
    rw [List.takeWhile_cons] at h
    by_cases hx : x ≤ b
    · simp only [decide_eq_true hx, if_true, List.length_cons, List.getElem?_cons_succ] at h
      exact keepF_next (v := r) h
    · simp [hx] at h; omega
theorem keepF_eq {v : List Int} {b : Int} {n : Nat} (h1 : ∀ (i : Nat) (a : Int), i < n → v[i]? = some a → a ≤ b) (h2 : ∀ a, v[n]? = some a → b < a) (h3 : n ≤ v.length) : keepF v b = n := by
  rcases Nat.lt_trichotomy (keepF v b) n with h | h | h
  · have hl : keepF v b < v.length := by omega
    have := keepF_next (List.getElem?_eq_getElem hl)
    have := h1 _ _ h (List.getElem?_eq_getElem hl)
    omega
  · exact h
  · have hk : keepF v b ≤ v.length := by unfold keepF; exact (List.takeWhile_prefix _).length_le
    have hl : n < v.length := by omega
    have := h2 _ (List.getElem?_eq_getElem hl)
    have := keepF_low h (List.getElem?_eq_getElem hl)
    omega

/-- What is known of a search at work: clauses cs0, those that it learned, the asked literals, its trail, reasons, levels. -/
structure Srch (vars : Int) (cs0 ls : List (List Int)) (q t y v : List Int) (z : Nat) : Prop where
  cls : ∀ c ∈ cs0 ++ ls, Lits vars c
  imp : ∀ m : List Bool, allB cs0 m = true → allB ls m = true
  lits : Lits vars t
  hist : Hist (cs0 ++ ls) t y
  lev : Lev y v z
  beg : ∀ k : Nat, 1 ≤ k → k ≤ z → ∃ i : Nat, y[i]? = some (-1) ∧ v[i]? = some (k : Int)
  shut : ∀ i : Nat, y[i]? = some (-1) → ∀ c ∈ cs0 ++ ls, falB (t.take i) 0 c = false ∧ mustF (t.take i) c c = 0
  dec : ∀ (i : Nat) (x : Int), y[i]? = some (-1) → t[i]? = some x → x ∈ q ∨ ∀ l ∈ q, l ∈ t.take i
  dis : ls.Pairwise (fun c d => codeF c vars.toNat ≠ codeF d vars.toNat)
theorem srch_start {vars : Int} {cs0 : List (List Int)} (q : List Int) (hc : ∀ c ∈ cs0, Lits vars c) : Srch vars cs0 [] q [] [] [] 0 :=
  ⟨by simpa using hc, by simp [allB], ⟨by simp, List.Pairwise.nil⟩, ⟨rfl, by simp⟩, ⟨rfl, by simp, by simp, by simp⟩, fun k h1 h2 => by omega, by simp, by simp, List.Pairwise.nil⟩
section
variable {vars : Int} {cs0 ls : List (List Int)} {q t y v : List Int} {z : Nat}
theorem Srch.zero (h : Srch vars cs0 ls q t y v z) : ∀ c ∈ cs0 ++ ls, (0 : Int) ∉ c := fun c hc => (h.cls c hc).cls.1
theorem Srch.all (h : Srch vars cs0 ls q t y v z) {m : List Bool} (hm : allB cs0 m = true) : allB (cs0 ++ ls) m = true := by
  have := h.imp m hm
  unfold allB at *
  rw [List.all_append, hm, this]
  rfl
theorem Srch.told (h : Srch vars cs0 ls q t y v z) {a : Int} (h1 : a = -1 ∨ 0 ≤ a) (h2 : 0 ≤ a → ∃ c, (cs0 ++ ls)[a.toNat]? = some c ∧ ∀ l ∈ c, -l ∈ t) : Told vars (cs0 ++ ls) t y v z a :=
  ⟨h.lits, h.hist, h.lev, h1, fun ha => by obtain ⟨c, c1, c2⟩ := h2 ha; exact ⟨c, c1, List.mem_of_getElem? c1, c2⟩⟩
/-- Propagation. -/
theorem Srch.run (h : Srch vars cs0 ls q t y v z) (v0 : 0 ≤ vars) {t' y' : List Int} {a : Int} (hr : runF (cs0 ++ ls) (vars.toNat + 1) t y = (t', y', a)) :
    Srch vars cs0 ls q t' y' (v ++ List.replicate (t'.length - v.length) (z : Int)) z ∧ (a < 0 → ∀ c ∈ cs0 ++ ls, falB t' 0 c = false ∧ mustF t' c c = 0) ∧ (0 ≤ a → ∃ c, (cs0 ++ ls)[a.toNat]? = some c ∧ ∀ l ∈ c, -l ∈ t') ∧ (a = -1 ∨ 0 ≤ a) := by
  have ok := runF_ok v0 h.cls (vars.toNat + 1) t y h.lits (by omega)
  obtain ⟨i1, s, u, i2, i3, i4⟩ := runF_hist (xss := cs0 ++ ls) (vars.toNat + 1) t y h.hist
  rw [hr] at ok i1 i2 i3
  simp only at ok i1 i2 i3
  have hyl := h.hist.1
  have hul : u.length = t'.length - v.length := by
    have := i1.1
    rw [i3, List.length_append] at this
    rw [h.lev.len]
    omega
  have old : ∀ i : Nat, y'[i]? = some (-1) → y[i]? = some (-1) ∧ t'.take i = t.take i ∧ i < t.length := fun i hi => by
    rw [i3, List.getElem?_append] at hi
    split at hi
    · rename_i hlt
      exact ⟨hi, by rw [i2, List.take_append_of_le_length (by omega)], by omega⟩
    · have := i4 _ (List.mem_of_getElem? hi); omega
  refine ⟨⟨h.cls, h.imp, ok.lits, i1, ?_, ?_, ?_, ?_, h.dis⟩, ok.shut, fun ha => ?_, ok.at_⟩
  · rw [← hul, i3]; exact lev_same h.lev i4
  · intro k h1 h2
    obtain ⟨i, g1, g2⟩ := h.beg k h1 h2
    refine ⟨i, ?_, ?_⟩
    · rw [i3, List.getElem?_append_left (List.getElem?_eq_some_iff.1 g1).1]; exact g1
    · rw [List.getElem?_append_left (List.getElem?_eq_some_iff.1 g2).1]; exact g2
  · intro i hi c hc
    obtain ⟨g1, g2, _⟩ := old i hi
    rw [g2]
    exact h.shut i g1 c hc
  · intro i x hi hx
    obtain ⟨g1, g2, g3⟩ := old i hi
    rw [g2]
    rw [i2, List.getElem?_append_left g3] at hx
    exact h.dec i x g1 hx
  · obtain ⟨c, c1, c2⟩ := ok.fals ha
    exact ⟨c, c1, fals_of h.zero (List.mem_of_getElem? c1) c2⟩
/-- A choice. -/
theorem Srch.decide (h : Srch vars cs0 ls q t y v z) (hs : ∀ c ∈ cs0 ++ ls, falB t 0 c = false ∧ mustF t c c = 0) {x : Int} (hx : x ≠ 0 ∧ -vars ≤ x ∧ x ≤ vars) (h1 : x ∉ t) (h2 : -x ∉ t) (hq : x ∈ q ∨ ∀ l ∈ q, l ∈ t) :
    Srch vars cs0 ls q (t ++ [x]) (y ++ [-1]) (v ++ [(z : Int) + 1]) (z + 1) := by
  have hyl := h.hist.1
  have hvl := h.lev.len
  have old : ∀ i : Nat, (y ++ [-1])[i]? = some (-1) → i < t.length ∧ y[i]? = some (-1) ∨ i = t.length := fun i hi => by
    rw [List.getElem?_append] at hi
    split at hi
    · rename_i hlt; exact .inl ⟨by omega, hi⟩
    · right
      have : i < (y ++ [-1]).length ∨ i = y.length := by
        cases hd : i - y.length with
        | zero => right; omega
        | succ m => rw [hd] at hi; simp at hi
      simp at this
      omega
  have hlev := lev_more (u := []) h.lev (by simp)
  simp only [List.append_nil, List.length_nil, Nat.zero_add, List.replicate_one] at hlev
  refine ⟨h.cls, h.imp, ?_, hist_snoc h.hist (fun hk => by omega), hlev, ?_, ?_, ?_, h.dis⟩
  · refine ⟨fun w hw => ?_, List.pairwise_append.2 ⟨h.lits.2, by simp, fun w hw u hu => ?_⟩⟩
    · rcases List.mem_append.1 hw with hw | hw
      · exact h.lits.1 w hw
      · simp at hw; subst hw; exact hx
    · simp at hu
      subst hu
      intro e
      rcases Int.natAbs_eq_natAbs_iff.1 e with e | e
      · exact h1 (e ▸ hw)
      · exact h2 (e ▸ hw)
  · intro k k1 k2
    by_cases hk : k ≤ z
    · obtain ⟨i, g1, g2⟩ := h.beg k k1 hk
      exact ⟨i, by rw [List.getElem?_append_left (List.getElem?_eq_some_iff.1 g1).1]; exact g1, by rw [List.getElem?_append_left (List.getElem?_eq_some_iff.1 g2).1]; exact g2⟩
    · refine ⟨y.length, by simp, ?_⟩
      rw [← hvl]
      simp
      omega
  · intro i hi c hc
    rcases old i hi with ⟨g1, g2⟩ | g1
    · rw [List.take_append_of_le_length (by omega)]; exact h.shut i g2 c hc
    · rw [g1, List.take_append_of_le_length (Nat.le_refl _), List.take_length]; exact hs c hc
  · intro i w hi hw
    rcases old i hi with ⟨g1, g2⟩ | g1
    · rw [List.take_append_of_le_length (by omega)]
      rw [List.getElem?_append_left g1] at hw
      exact h.dec i w g2 hw
    · rw [g1, List.take_append_of_le_length (Nat.le_refl _), List.take_length]
      rw [g1] at hw
      simp at hw
      rw [← hw]
      exact hq
end
end Go.Proofs.YtlfgcblijfflfaaGreat

/- The search that learns, plainly (2): a conflict; the ends; the bound. -/
namespace Go.Proofs.YtlfgcblijfflfaaGreat

section
variable {vars : Int} {xss : List (List Int)} {t y v : List Int} {z : Nat} {a : Int}
theorem lvAt (h : Told vars xss t y v z a) {x : Int} (hx : -x ∈ t) : v[(plcF t x).toNat]? = some (lvF t v x) := by
  obtain ⟨p0, p1, _⟩ := plc_mem hx
  have hi : (plcF t x).toNat < v.length := by rw [h.lev.len, h.hist.1]; omega
  rw [lvF, List.getD_eq_getElem?_getD, List.getElem?_eq_getElem hi]; rfl
/-- A model has all of the trail up to a level, if it has the choices there. -/
theorem lowIn {S : Int → Prop} (h : Told vars xss t y v z a) (hS : Shut xss S) (k : Int)
    (hd : ∀ (i : Nat) (x b : Int), y[i]? = some (-1) → t[i]? = some x → v[i]? = some b → b ≤ k → S x) : ∀ (n i : Nat) (x b : Int), i < n → t[i]? = some x → v[i]? = some b → b ≤ k → S x
  | 0, i, x, b, hn, _, _, _ => by omega
  | n + 1, i, x, b, hn, hx, hb, hk => by
    have hit := (List.getElem?_eq_some_iff.1 hx).1
    have hiy : i < y.length := by rw [h.hist.1]; exact hit
    obtain ⟨q, hq⟩ : ∃ q, y[i]? = some q := ⟨_, List.getElem?_eq_getElem hiy⟩
    by_cases h0 : 0 ≤ q
    · obtain ⟨c, c1, c2, c3⟩ := h.hist.2 i q x hq hx h0
      refine hS c (List.mem_of_getElem? c1) x c2 fun l hl hne => ?_
      have hm := c3 l hl hne
      obtain ⟨j, hj, e⟩ := List.getElem_of_mem hm
      rw [List.length_take] at hj
      have hj2 : t[j]? = some (-l) := by rw [List.getElem?_eq_some_iff]; exact ⟨by omega, by rw [← e]; simp⟩
      have hjv : j < v.length := by rw [h.lev.len, h.hist.1]; omega
      have hjb := List.getElem?_eq_getElem hjv
      have := h.lev.mono j i _ _ (by omega) hjb hb
      exact lowIn h hS k hd n j (-l) _ (by omega) hj2 hjb (by omega)
    · obtain ⟨e, _⟩ := h.lev.new i q hq (by omega)
      subst e
      exact hd i x b hq hx hb hk
theorem zeroIn {S : Int → Prop} (h : Told vars xss t y v z a) (hS : Shut xss S) {x : Int} (hx : -x ∈ t) (h0 : lvF t v x = 0) : S (-x) := by
  refine lowIn h hS 0 (fun i x b h1 h2 h3 h4 => ?_) ((plcF t x).toNat + 1) (plcF t x).toNat (-x) (lvF t v x) (by omega) (plc_mem hx).2.2 (lvAt h hx) (by omega)
  obtain ⟨_, b', hb, hb0, _⟩ := h.lev.new i (-1) h1 (by omega)
  rw [h3] at hb
  injection hb with hb
  omega
theorem resMem {c : List Int} {la x : Int} : (x ∈ c ∧ x ≠ la) ∨ (x ∈ bringF xss t y la ∧ x ≠ -la) → x ∈ resT xss t y c la := by
  unfold resT
  have key : ∀ (r n : List Int), (x ∈ n ∨ (x ∈ r ∧ x ≠ -la)) → x ∈ addF (-la) r n := by
    intro r
    induction r with
    | nil => intro n h; simpa [addF] using h
    | cons l r ih =>
      intro n h
      rw [addF]
      by_cases hl : (l != -la && !hasB n l) = true
      · rw [if_pos hl]
        refine ih _ ?_
        rcases h with h | ⟨h1, h2⟩
        · exact .inl (by simp [h])
        · rcases List.mem_cons.1 h1 with e | h1
          · exact .inl (by simp [e])
          · exact .inr ⟨h1, h2⟩
      · rw [if_neg hl]
        refine ih _ ?_
        rcases h with h | ⟨h1, h2⟩
        · exact .inl h
        · rcases List.mem_cons.1 h1 with e | h1
          · subst e
            left
            by_cases hn : hasB n x = true
            · exact hasB_iff.1 hn
            · exfalso; apply hl; simp [h2] at hn ⊢; exact hn
          · exact .inr ⟨h1, h2⟩
  intro h
  refine key _ _ ?_
  rcases h with ⟨h1, h2⟩ | h
  · exact .inl (List.mem_filter.2 ⟨h1, by simpa using h2⟩)
  · exact .inr h
theorem two_lv {c : List Int} (h0 : (0 : Int) ∉ t) (hn : ∀ l ∈ c, -l ∈ t) (nd : c.Nodup) (hm : ¬ (latF t v z c 0 0).2 < 2) (la : Int) : ∃ x ∈ c, lvF t v x = z ∧ x ≠ la := by
  rw [(lat_spec h0 (z := z) (v := v) c 0 0 hn (.inl rfl)).1] at hm
  generalize hF : c.filter (fun l => lvF t v l == (z : Int)) = F at hm
  have hFd : F.Nodup := by rw [← hF]; exact nd.filter _
  have hFm : ∀ x ∈ F, x ∈ c ∧ lvF t v x = z := fun x hx => by
    rw [← hF, List.mem_filter] at hx
    exact ⟨hx.1, by simpa using hx.2⟩
  match F, hFd, hFm, hm with
  | [], _, _, hm => simp at hm
  | [x], _, _, hm => simp at hm
  | x1 :: x2 :: F', hFd, hFm, _ =>
    have hne : x1 ≠ x2 := by
      have := (List.nodup_cons.1 hFd).1
      intro e; exact this (by simp [e])
    obtain ⟨m1, l1⟩ := hFm x1 (by simp)
    obtain ⟨m2, l2⟩ := hFm x2 (by simp)
    by_cases e : x1 = la
    · exact ⟨x2, m2, l2, fun e2 => hne (e.trans e2.symm)⟩
    · exact ⟨x1, m1, l1, e⟩
theorem one_lv {c : List Int} (h0 : (0 : Int) ∉ t) (hn : ∀ l ∈ c, -l ∈ t) (hm : (latF t v z c 0 0).2 < 2) {x w : Int} (hx : x ∈ c) (hw : w ∈ c) (h1 : lvF t v x = z) (h2 : lvF t v w = z) : x = w := by
  rw [(lat_spec h0 (z := z) (v := v) c 0 0 hn (.inl rfl)).1] at hm
  generalize hF : c.filter (fun l => lvF t v l == (z : Int)) = F at hm
  have g1 : x ∈ F := by rw [← hF, List.mem_filter]; exact ⟨hx, by simpa using h1⟩
  have g2 : w ∈ F := by rw [← hF, List.mem_filter]; exact ⟨hw, by simpa using h2⟩
  match F, g1, g2, hm with
  | [], g1, _, _ => simp at g1
  | [u], g1, g2, _ => simp at g1 g2; rw [g1, g2]
  | x1 :: x2 :: F', _, _, hm => simp at hm; omega
/-- What stays in each step of the resolution. -/
theorem cloInd (h : Told vars xss t y v z a) (P : List Int → Prop)
    (hP : ∀ c : List Int, (∀ l ∈ c, -l ∈ t) → c.Nodup → ¬ (latF t v z c 0 0).2 < 2 → (latF t v z c 0 0).1 ∈ c → bringF xss t y (latF t v z c 0 0).1 ∈ xss → P c → P (resT xss t y c (latF t v z c 0 0).1)) : ∀ (k : Nat) (c : List Int), Con t v z c k → P c → P (cloF xss t y v z (k + 1) c)
  | k, c, hc, hp => by
    rw [cloF]
    by_cases hm : (latF t v z c 0 0).2 < 2
    · rw [if_pos hm]; exact hp
    · rw [if_neg hm]
      obtain ⟨s1, s2, s3, _, s5, s6, _, s8⟩ := con_step h hc hm
      match k, hc, s2 with
      | 0, hc, s2 => omega
      | k + 1, hc, s2 =>
        have s9 : Con t v z (resT xss t y c (latF t v z c 0 0).1) (k : Nat) := ⟨s8.neg, s8.nd, fun l hl hz => by have := s8.low l hl hz; omega⟩
        exact cloInd h P hP k _ s9 (hP c hc.neg hc.nd hm s1 (List.mem_of_getElem? s5) hp)

/-- The clause that a conflict brings. -/
def lrnF (xss : List (List Int)) (t y v : List Int) (z : Nat) (c : List Int) : List Int := (cloF xss t y v z (t.length + 1) c).filter (fun l => !(lvF t v l == 0))
structure Lrn (xss : List (List Int)) (t v : List Int) (z : Nat) (d : List Int) : Prop where
  neg : ∀ l ∈ d, -l ∈ t
  nd : d.Nodup
  one : ∃ u ∈ d, lvF t v u = z ∧ ∀ x ∈ d, lvF t v x = z → x = u
  tru : ∀ m : List Bool, allB xss m = true → satB m d = true
theorem lrn_ok (h : Told vars xss t y v z a) (hcl : ∀ c ∈ xss, Lits vars c) (hz : 0 < z) {c : List Int} (hc : c ∈ xss) (hn : ∀ l ∈ c, -l ∈ t) (hs : ∃ l ∈ c, lvF t v l = z) : Lrn xss t v z (lrnF xss t y v z c) := by
  have h0 := h.lits.zero
  have hz0 : ∀ c ∈ xss, (0 : Int) ∉ c := fun c hc' => (hcl c hc').cls.1
  have con : Con t v z c t.length := con_first (hcl c hc) hn
  obtain ⟨e1, e2⟩ := cloF_con h t.length c con
  have hsome := cloInd h (fun c => ∃ l ∈ c, lvF t v l = z) (fun c hn nd hm _ _ _ => by
    obtain ⟨x, hx, hxz, hne⟩ := two_lv h0 hn nd hm (latF t v z c 0 0).1
    exact ⟨x, resMem (.inl ⟨hx, hne⟩), hxz⟩) t.length c con hs
  refine ⟨fun l hl => e1.neg l (List.mem_filter.1 hl).1, e1.nd.filter _, ?_, fun m hm => ?_⟩
  · obtain ⟨u, hu, huz⟩ := hsome
    refine ⟨u, List.mem_filter.2 ⟨hu, ?_⟩, huz, fun x hx hxz => one_lv h0 e1.neg e2 (List.mem_filter.1 hx).1 hu hxz huz⟩
    rw [huz]
    simp
    omega
  · have hsat : satB m (cloF xss t y v z (t.length + 1) c) = true := by
      refine cloInd h (fun c => satB m c = true) (fun c hn nd hc2 hla hb hs => ?_) t.length c con ((List.all_eq_true.1 hm) c hc)
      have hla0 : (latF t v z c 0 0).1 ≠ 0 := fun e => h0 (by have := hn _ hla; rw [e] at this; simpa using this)
      obtain ⟨l, hl, hl'⟩ := List.any_eq_true.1 hs
      by_cases el : l = (latF t v z c 0 0).1
      · obtain ⟨u, hu, hu'⟩ := List.any_eq_true.1 ((List.all_eq_true.1 hm) _ hb)
        refine List.any_eq_true.2 ⟨u, resMem (.inr ⟨hu, fun eu => ?_⟩), hu'⟩
        rw [el] at hl'
        rw [eu, lit_not hla0 hl'] at hu'
        cases hu'
      · exact List.any_eq_true.2 ⟨l, resMem (.inl ⟨hl, el⟩), hl'⟩
    obtain ⟨l, hl, hl'⟩ := List.any_eq_true.1 hsat
    refine List.any_eq_true.2 ⟨l, List.mem_filter.2 ⟨hl, ?_⟩, hl'⟩
    rw [Bool.not_eq_true', beq_eq_false_iff_ne]
    intro h00
    have := zeroIn h (shut_model hz0 hm) (e1.neg l hl) h00
    have l0 : l ≠ 0 := fun e => h0 (by have := e1.neg l hl; rw [e] at this; simpa using this)
    rw [lit_not l0 hl'] at this
    cases this
end

section
variable {vars : Int} {cs0 ls : List (List Int)} {q t y v : List Int} {z : Nat}
theorem Srch.conflict (h : Srch vars cs0 ls q t y v z) (hz : 0 < z) {a : Int} (ha : 0 ≤ a) {c : List Int} (hc : (cs0 ++ ls)[a.toNat]? = some c) (hn : ∀ l ∈ c, -l ∈ t) : Lrn (cs0 ++ ls) t v z (lrnF (cs0 ++ ls) t y v z c) := by
  have hT := h.told (a := a) (.inr ha) (fun _ => ⟨c, hc, hn⟩)
  have hm := List.mem_of_getElem? hc
  refine lrn_ok hT h.cls hz hm hn ?_
  obtain ⟨i, i1, i2⟩ := h.beg z hz (Nat.le_refl _)
  by_cases hex : ∃ l ∈ c, lvF t v l = z
  · exact hex
  · exfalso
    have := (h.shut i i1 c hm).1
    rw [Bool.eq_false_iff] at this
    refine this (falB_iff.2 fun l hl _ => ?_)
    have hlt := hn l hl
    have hv := lvAt hT hlt
    obtain ⟨p0, p1, p2⟩ := plc_mem hlt
    have hne : lvF t v l ≠ z := fun e => hex ⟨l, hl, e⟩
    have hle := (h.lev.low _ _ hv).2
    have hpi : (plcF t l).toNat < i := by
      rcases Nat.lt_or_ge (plcF t l).toNat i with g | g
      · exact g
      · have := h.lev.mono i (plcF t l).toNat _ _ g i2 hv; omega
    have := some_take hpi p2
    exact List.mem_of_getElem? this
theorem Srch.learn (h : Srch vars cs0 ls q t y v z) (hz : 0 < z) {a : Int} (ha : 0 ≤ a) {c d : List Int} (hc : (cs0 ++ ls)[a.toNat]? = some c) (hn : ∀ l ∈ c, -l ∈ t) (hd : lrnF (cs0 ++ ls) t y v z c = d) {b : Int} (hb : bckF t v z d 0 = b) :
    Srch vars cs0 (ls ++ [d]) q (t.take (keepF v b)) (y.take (keepF v b)) (v.take (keepF v b)) b.toNat ∧ 0 ≤ b ∧ b < z := by
  have hL := h.conflict hz ha hc hn
  rw [hd] at hL
  have hT := h.told (a := a) (.inr ha) (fun _ => ⟨c, hc, hn⟩)
  obtain ⟨b1, b2, b3⟩ := bckF_spec t v z d 0
  rw [hb] at b1 b2 b3
  have hbz : b < z := by
    rcases b3 with e | ⟨x, _, hx, e⟩
    · omega
    · omega
  obtain ⟨u, hu, huz, huq⟩ := hL.one
  have hdl : Lits vars d := neg_lits h.lits hL.nd hL.neg
  -- what stands ahead of a choice of level k has a smaller level
  have ahead : ∀ (i : Nat) (k x : Int), y[i]? = some (-1) → v[i]? = some k → x ∈ d → -x ∈ t.take i → lvF t v x < k := fun i k x h1 h2 hx hm => by
    obtain ⟨_, b', e1, _, e3⟩ := h.lev.new i (-1) h1 (by omega)
    rw [h2] at e1
    injection e1 with e1
    have hp := plc_take h.lits.nodup hm
    have := e3 (plcF t x).toNat _ (by have := (plc_mem (hL.neg x hx)).1; omega) (lvAt hT (hL.neg x hx))
    omega
  have before : ∀ (i : Nat) (k x : Int), v[i]? = some k → x ∈ d → lvF t v x < k → -x ∈ t.take i := fun i k x h2 hx hlt => by
    have hv := lvAt hT (hL.neg x hx)
    obtain ⟨p0, p1, p2⟩ := plc_mem (hL.neg x hx)
    have hpi : (plcF t x).toNat < i := by
      rcases Nat.lt_or_ge (plcF t x).toNat i with g | g
      · exact g
      · have := h.lev.mono i (plcF t x).toNat _ _ g h2 hv; omega
    exact List.mem_of_getElem? (some_take hpi p2)
  refine ⟨⟨?_, fun m hm => ?_, ?_, ?_, ?_, ?_, ?_, ?_, ?_⟩, b1, hbz⟩
  · intro x hx
    rw [← List.append_assoc] at hx
    rcases List.mem_append.1 hx with hx | hx
    · exact h.cls x hx
    · simp at hx; subst hx; exact hdl
  · have h1 := h.imp m hm
    have h2 := hL.tru m (h.all hm)
    unfold allB at *
    rw [List.all_append, h1]
    simp [h2]
  · exact ⟨fun x hx => h.lits.1 x (List.mem_of_mem_take hx), h.lits.2.sublist (List.take_sublist _ _)⟩
  · rw [← List.append_assoc]
    exact hist_take (hist_more h.hist) _
  · exact lev_take h.lev fun i a hi hva => by have := keepF_low hi hva; omega
  · intro k k1 k2
    obtain ⟨i, i1, i2⟩ := h.beg k k1 (by omega)
    have hi : i < keepF v b := by
      rcases Nat.lt_or_ge i (keepF v b) with g | g
      · exact g
      · have hl : keepF v b < v.length := by have := (List.getElem?_eq_some_iff.1 i2).1; omega
        have h3 := keepF_next (List.getElem?_eq_getElem hl)
        have := h.lev.mono _ i _ _ g (List.getElem?_eq_getElem hl) i2
        omega
    exact ⟨i, some_take hi i1, some_take hi i2⟩
  · intro i hi x hx
    obtain ⟨i1, i2⟩ := take_some hi
    rw [List.take_take, Nat.min_eq_left (by omega)]
    rw [← List.append_assoc] at hx
    rcases List.mem_append.1 hx with hx | hx
    · exact h.shut i i2 x hx
    · simp at hx
      subst hx
      obtain ⟨_, k, k1, k2, _⟩ := h.lev.new i (-1) i2 (by omega)
      have hkb := keepF_low i1 k1
      obtain ⟨w, hw, hwz, hwb⟩ : ∃ w ∈ x, lvF t v w < z ∧ b = lvF t v w := by
        rcases b3 with e | ⟨w, w1, w2, w3⟩
        · omega
        · exact ⟨w, w1, w2, w3⟩
      have nw : -w ∉ t.take i := fun hm => by have := ahead i k w i2 k1 hw hm; omega
      have nu : -u ∉ t.take i := fun hm => by have := ahead i k u i2 k1 hu hm; omega
      have hwu : w ≠ u := fun e => by rw [e] at hwz; omega
      refine ⟨?_, ?_⟩
      · rw [Bool.eq_false_iff]
        intro hf
        exact nu (falB_iff.1 hf u hu (fun e => hdl.zero (e ▸ hu)))
      · by_cases hm0 : mustF (t.take i) x x = 0
        · exact hm0
        · exfalso
          obtain ⟨_, _, _, g4⟩ := mustF_spec hm0
          by_cases e : w = mustF (t.take i) x x
          · exact nu (g4 u hu (fun e2 => hwu (e.trans e2.symm)))
          · exact nw (g4 w hw e)
  · intro i x hi hx
    obtain ⟨i1, i2⟩ := take_some hi
    rw [List.take_take, Nat.min_eq_left (by omega)]
    exact h.dec i x i2 (take_some hx).2
  · refine List.pairwise_append.2 ⟨h.dis, by simp, fun e he f hf => ?_⟩
    simp at hf
    subst hf
    intro heq
    have hel : Lits vars e := h.cls e (List.mem_append_right _ he)
    have s1 := codeF_sub hel heq
    have s2 := codeF_sub hdl heq.symm
    obtain ⟨i, i1, i2⟩ := h.beg z hz (Nat.le_refl _)
    have hsh := shut_run h.zero (h.shut i i1)
    have hut : u ∈ t.take i := hsh e (List.mem_append_right _ he) u (s2 u hu) fun l hl hne => by
      have hle := (h.lev.low _ _ (lvAt hT (hL.neg l (s1 l hl)))).2
      have hne2 : lvF t v l ≠ z := fun e => hne (huq l (s1 l hl) e)
      exact before i z l i2 (s1 l hl) (by omega)
    exact lits_both h.lits (List.mem_of_mem_take hut) (hL.neg u hu)

/-- No choice, and a false clause. -/
theorem Srch.no (h : Srch vars cs0 ls q t y v 0) {a : Int} (ha : 0 ≤ a) {c : List Int} (hc : (cs0 ++ ls)[a.toNat]? = some c) (hn : ∀ l ∈ c, -l ∈ t) {m : List Bool} (hm : allB cs0 m = true) : False := by
  have hT := h.told (a := a) (.inr ha) (fun _ => ⟨c, hc, hn⟩)
  have hall := h.all hm
  obtain ⟨l, hl, hl'⟩ := List.any_eq_true.1 ((List.all_eq_true.1 hall) c (List.mem_of_getElem? hc))
  have l0 : l ≠ 0 := fun e => h.zero c (List.mem_of_getElem? hc) (e ▸ hl)
  have hv := lvAt hT (hn l hl)
  have := h.lev.low _ _ hv
  have := zeroIn hT (shut_model h.zero hall) (hn l hl) (by omega)
  rw [lit_not l0 hl'] at this
  cases this
/-- An asked literal is false. -/
theorem Srch.core (h : Srch vars cs0 ls q t y v z) {l : Int} (hl : l ∈ q) (hn : -l ∈ t) (l0 : l ≠ 0) {m : List Bool} (hm : allB cs0 m = true) (hq : ∀ x ∈ q, litB m x = true) : False := by
  have hT := h.told (a := -1) (.inl rfl) (fun ha => by omega)
  have hS := shut_model h.zero (h.all hm)
  have hp := plc_mem hn
  have key := lowIn hT hS (lvF t v l) (fun i x b h1 h2 h3 h4 => by
    rcases h.dec i x h1 h2 with g | g
    · exact hq x g
    · exact (lits_both h.lits (List.mem_of_mem_take (g l hl)) hn).elim) ((plcF t l).toNat + 1) (plcF t l).toNat (-l) (lvF t v l) (by omega) hp.2.2 (lvAt hT hn) (Int.le_refl _)
  have key2 : litB m (-l) = true := key
  rw [lit_not l0 (hq l hl)] at key2
  cases key2

/-- The assignment that a trail is. -/
def hldF : List Int → List Bool → List Bool
  | [], a => a
  | l :: r, a => hldF r (a.set (l.natAbs - 1) (decide (0 < l)))
theorem hldF_len : ∀ (t : List Int) (a : List Bool), (hldF t a).length = a.length
  | [], _ => rfl
  | l :: r, a => by rw [hldF, hldF_len r]; simp
theorem hldF_out : ∀ (t : List Int) (a : List Bool) (p : Nat), (∀ l ∈ t, l.natAbs - 1 ≠ p) → (hldF t a)[p]? = a[p]?
  | [], _, _, _ => rfl
  | l :: r, a, p, h => by
    rw [hldF, hldF_out r _ p (fun x hx => h x (by simp [hx])), List.getElem?_set_ne (h l (by simp))]
theorem hldF_in : ∀ (t : List Int) (a : List Bool), t.Pairwise (fun x y => x.natAbs ≠ y.natAbs) → (∀ l ∈ t, l ≠ 0 ∧ l.natAbs ≤ a.length) → ∀ l ∈ t, litB (hldF t a) l = true
  | [], _, _, _, l, h => by simp at h
  | x :: r, a, hp, hr, l, h => by
    rw [List.pairwise_cons] at hp
    rw [hldF]
    rcases List.mem_cons.1 h with e | h
    · subst e
      have hb := hr l (by simp)
      unfold litB
      rw [hldF_out r _ _ (fun w hw e => hp.1 w hw (by have := hr w (by simp [hw]); omega)), List.getElem?_set_self (by omega)]
      simp
    · exact hldF_in r _ hp.2 (fun w hw => by have := hr w (by simp [hw]); simpa using this) l h
/-- All have a value, and nothing is false. -/
theorem Srch.yes (h : Srch vars cs0 ls q t y v z) (v0 : 0 ≤ vars) (hs : ∀ c ∈ cs0 ++ ls, falB t 0 c = false ∧ mustF t c c = 0) (hall : ∀ x : Int, 1 ≤ x → x ≤ vars → x ∈ t ∨ -x ∈ t) (hq : ∀ l ∈ q, l ∈ t) :
    allB cs0 (hldF t (List.replicate vars.toNat false)) = true ∧ ∀ l ∈ q, litB (hldF t (List.replicate vars.toNat false)) l = true := by
  have hin := hldF_in t (List.replicate vars.toNat false) h.lits.2 (fun l hl => by have := h.lits.1 l hl; simp; omega)
  refine ⟨List.all_eq_true.2 fun c hc => ?_, fun l hl => hin l (hq l hl)⟩
  have hc2 : c ∈ cs0 ++ ls := List.mem_append_left _ hc
  have hf := (hs c hc2).1
  by_cases hex : ∃ l ∈ c, l ∈ t
  · obtain ⟨l, hl, hlt⟩ := hex
    exact List.any_eq_true.2 ⟨l, hl, hin l hlt⟩
  · exfalso
    rw [Bool.eq_false_iff] at hf
    refine hf (falB_iff.2 fun l hl _ => ?_)
    have hb := (h.cls c hc2).1 l hl
    have hnl : l ∉ t := fun e => hex ⟨l, hl, e⟩
    by_cases hp : 0 < l
    · rcases hall l (by omega) (by omega) with g | g
      · exact absurd g hnl
      · exact g
    · rcases hall (-l) (by omega) (by omega) with g | g
      · exact g
      · rw [Int.neg_neg] at g; exact absurd g hnl
/-- How many clauses it can have learned. -/
theorem Srch.bound (h : Srch vars cs0 ls q t y v z) : ls.length ≤ 3 ^ vars.toNat := by
  have := length_le_of_sub (ls.map fun c => ((codeF c vars.toNat : Nat) : Int)) ((List.range (3 ^ vars.toNat)).map fun k : Nat => (k : Int)) ?_ ?_
  · simpa using this
  · unfold List.Nodup
    rw [List.pairwise_map]
    exact h.dis.imp fun hne e => hne (by omega)
  · intro x hx
    obtain ⟨c, _, rfl⟩ := List.mem_map.1 hx
    exact List.mem_map.2 ⟨_, List.mem_range.2 (codeF_lt c _), rfl⟩
end
end Go.Proofs.YtlfgcblijfflfaaGreat

/- A world cut at a height; rows of clauses that stand below a height, apart from what is written. -/
namespace Go.Proofs.YtlfgcblijfflfaaGreat
open Go.RowKit

/-- Clauses that came in (below low) or are the call's own. -/
structure Clz (w : World) (low : Nat) (A : Option Addr) (n c : Nat) (xss : List (List Int)) : Prop where
  ex : ∃ vs, Sl w A n c vs ∧ Apart 22 w low A ∧ RowsP 3 w low vs xss
  nil : A = none → c = 0
section
variable {w w' : World} {low n c : Nat} {A : Option Addr} {xss : List (List Int)}
theorem Clz.grid (h : Clz w low A n c xss) : Grid w A n c xss := by
  obtain ⟨vs, h1, _, h3⟩ := h.ex
  exact h3.sl h1
theorem Clz.len (h : Clz w low A n c xss) : xss.length = n := h.grid.len
theorem Clz.keep (h : Clz w low A n c xss) (hb : Below w.heap.size w w') : Clz w' low A n c xss := by
  obtain ⟨vs, h1, h2, h3⟩ := h.ex
  exact ⟨⟨vs, h1.keep hb, h2.keep hb, h3.keep hb⟩, h.nil⟩
theorem Clz.kept {t' : TypeId} {row : Option Nat} (h : Clz w low A n c xss) (hg : w.grownBy w' row) (hr : ∀ g, row = some g → low ≤ g ∧ Typed t' w g) (n1 : (22 : TypeId) ≠ t') (n2 : (3 : TypeId) ≠ t') : Clz w' low A n c xss := by
  obtain ⟨vs, h1, h2, h3⟩ := h.ex
  have hne : blockOf A = none ∨ blockOf A ≠ row := by
    cases row with
    | none => cases A with
      | none => exact .inl rfl
      | some a => exact .inr (by simp [blockOf])
    | some g => exact h2.ne (hr g rfl).1 (hr g rfl).2 n1
  exact ⟨⟨vs, h1.kept hg hne, h2.kept hg hne, h3.kept hg hr n2⟩, h.nil⟩
theorem Clz.of_grid (h : Grid w A n c xss) (hA : A = none → c = 0) (hA2 : ∀ a, A = some a → a.block < w.heap.size) : Clz w w.heap.size A n c xss := by
  obtain ⟨vs, h1, h2⟩ := h.rowsP 3 (Nat.le_refl _)
  exact ⟨⟨vs, h1, fun a ha => .inl (hA2 a ha), h2⟩, hA⟩
theorem Clz.of_own {base : Nat} (h : OwnP 22 3 w base low A n c xss) : Clz w low A n c xss := by
  obtain ⟨vs, h1, h2⟩ := h
  refine ⟨⟨vs, h1.sl, Apart.of_own h1, h2⟩, fun hA => ?_⟩
  rcases h1.form with ⟨_, _, h0, _⟩ | ⟨g, cur, h0, _⟩
  · exact h0
  · rw [hA] at h0; cases h0
end
end Go.Proofs.YtlfgcblijfflfaaGreat

/- Contracts of cdcl's search (1): what a look at it needs; a literal's place; its closures. -/
namespace Go.Proofs.YtlfgcblijfflfaaGreat
open Go.RowKit
set_option linter.unusedSimpArgs false

theorem plc_idx (t : List Int) (l : Int) : idxF (fun y => -l == y) t 0 = plcF t l := by
  unfold plcF
  congr 1
  funext x
  rw [Bool.eq_iff_iff, beq_iff_eq, beq_iff_eq]
  exact ⟨Eq.symm, Eq.symm⟩

/-- What a look at a search needs. -/
structure CdLook (W : World) (gs : Nat) (A : Option Addr) (n c : Nat) (xss : List (List Int)) (t y v : List Int) (z : Int) : Prop where
  ex : ∃ g L cl Y cy V nv cv, W.cell? ⟨gs, 3, none⟩ = some (.pointer (some ⟨g, 0, none⟩)) ∧ W.cell? ⟨g, 0, none⟩ = some (.slice A n c) ∧ W.cell? ⟨g, 1, none⟩ = some (.slice L t.length cl) ∧ W.cell? ⟨g, 2, none⟩ = some (.slice Y y.length cy) ∧ W.cell? ⟨gs, 4, none⟩ = some (.slice V nv cv) ∧ Ints W L t.length cl t ∧ Ints W Y y.length cy y ∧ Ints W V nv cv v ∧ W.cell? ⟨gs, 5, none⟩ = some (.int .i64 z)
  len : v.length = t.length
  leny : y.length = t.length
  grid : Grid W A n c xss
section
variable {W W' : World} {gs : Nat} {A : Option Addr} {n c : Nat} {xss : List (List Int)} {t y v : List Int} {z : Int}
theorem CdLook.keep (h : CdLook W gs A n c xss t y v z) (hb : Below W.heap.size W W') : CdLook W' gs A n c xss t y v z := by
  obtain ⟨g, L, cl, Y, cy, V, nv, cv, h1, h2, h3, h4, h5, h6, h7, h8, h9⟩ := h.ex
  exact ⟨⟨g, L, cl, Y, cy, V, nv, cv, keepBox hb h1, keepBox hb h2, keepBox hb h3, keepBox hb h4, keepBox hb h5, h6.keep hb, h7.keep hb, h8.keep hb, keepBox hb h9⟩, h.len, h.leny, h.grid.keep hb⟩
end

set_option maxHeartbeats 1000000 in
theorem cd_at (W : World) (gs : Nat) (A : Option Addr) (n c : Nat) (xss : List (List Int)) (t y v : List Int) (z : Int) (h : CdLook W gs A n c xss t y v z) (l : Int) (hl : -1000000 ≤ l ∧ l ≤ 1000000) (p : Int) (hp : Hid (plcF t l = p)) :
    Calls Tryz.prog 75 #[.pointer (some ⟨gs, 0, none⟩), .int .i64 l] W (RetQ (.int .i64 p) W) := by
  obtain ⟨g, L, cl, Y, cy, V, nv, cv, h1, h0, h2, hyy, h3, h4, hY, h5, h6⟩ := h.ex
  have H4 := Lib.hid h4
  have g0 := (cell_lt h1).1
  have g1 := (cell_lt h2).1
  have hp2 : Hid (idxF (fun y => -l == y) t 0 = p) := by rw [Hid, plc_idx]; exact hp.out
  obtain ⟨l1, l2⟩ := hl
  clear h h4 h5 hY
  go_enter Tryz.func75, Tryz.ntmps75
  go_wp2_with fail
  refine (index_ints L t.length cl t (-l) W H4.out p hp2).mono ?_
  rintro e w1 ⟨rfl, m1, rfl⟩
  go_wp2_with fail
  go_ret
  exact ⟨rfl, m1, rfl⟩

theorem ana1_any (y x : Int) (bx : Nat) (W : World) (hc : W.cell? ⟨bx, 0, none⟩ = some (.int .i64 x)) : Calls Tryz.prog 76 #[.int .i64 y, .pointer (some ⟨bx, 0, none⟩)] W (RetQ (.bool (y == x)) W) := by
  have hlt := (cell_lt hc).1
  go_enter Tryz.func76, Tryz.ntmps76
  go_wp2_with fail
  go_ret
  exact RetQ.of0 rfl
theorem enters_ana1 : Enters Tryz.prog 76 := enters_of Tryz.func76 (by kernel_rfl) rfl
theorem enters_ana2 : Enters Tryz.prog 77 := enters_of Tryz.func77 (by kernel_rfl) rfl

/-- The level's cell of a literal whose negation is on the trail. -/
theorem CdLook.lvl {W : World} {gs : Nat} {A : Option Addr} {n c : Nat} {xss : List (List Int)} {t y v : List Int} {z : Int} (h : CdLook W gs A n c xss t y v z) {l : Int} (hm : -l ∈ t) :
    ∃ (p nv cv b off : Nat), W.cell? ⟨gs, 4, none⟩ = some (.slice (some ⟨b, off, none⟩) nv cv) ∧ W.cell? ⟨gs, 5, none⟩ = some (.int .i64 z) ∧ Hid (plcF t l = (p : Int)) ∧ p < nv ∧ nv ≤ cv ∧ cv ≤ 9223372036854775807 ∧ b < W.heap.size ∧ W.cell? ⟨b, off + p, none⟩ = some (.int .i64 (lvF t v l)) ∧ gs < W.heap.size := by
  have hlen := h.len
  obtain ⟨g, L, cl, Y, cy, V, nv, cv, h1, h0, h2, hyy, h3, h4, hY, h5, h6⟩ := h.ex
  obtain ⟨p0, p1, p2⟩ := plc_mem hm
  have hbd := h5.bd
  have hpn : (plcF t l).toNat < nv := by rw [← h5.len, hlen]; omega
  obtain ⟨b, off, x, hV, hb, hcell, x1, x2, hx⟩ := h5.round hpn
  have hxr : x = lvF t v l := by rw [lvF, List.getD_eq_getElem?_getD, hx.out]; rfl
  subst hV hxr
  exact ⟨(plcF t l).toNat, nv, cv, b, off, h3, h6, by show _ = _; omega, hpn, hbd.1, hbd.2, hb, hcell, (cell_lt h1).1⟩

set_option maxHeartbeats 1000000 in
theorem ana2_any (W : World) (gs bx : Nat) (A : Option Addr) (n c : Nat) (xss : List (List Int)) (t y v : List Int) (z : Int) (h : CdLook W gs A n c xss t y v z) (hc : W.cell? ⟨bx, 0, none⟩ = some (.pointer (some ⟨gs, 0, none⟩))) (l : Int) (hl : -1000000 ≤ l ∧ l ≤ 1000000) (hm : -l ∈ t) (p : Bool) (hp : Hid ((lvF t v l == 0) = p)) :
    Calls Tryz.prog 77 #[.int .i64 l, .pointer (some ⟨bx, 0, none⟩)] W (RetQ (.bool p) W) := by
  have hlt := (cell_lt hc).1
  obtain rfl : (lvF t v l == 0) = p := hp.out
  have HH := Lib.hid h
  obtain ⟨q, nv, cv, b, off, h4, h5, hq, hqn, hb1, hb2, hb, hcell, hgs⟩ := h.lvl hm
  have y1 : (0 : Int) ≤ (q : Int) := by omega
  have y2 : (q : Int) < (nv : Int) := by omega
  clear h h5 hp
  go_enter Tryz.func77, Tryz.ntmps77
  go_wp2_with fail
  go_quiet ((go_at_call 75; exact RetQ.quiet (cd_at _ gs A n c xss t y v z (HH.out.keep (below_drewN _ _)) l hl _ hq)))
  go_wp2_with fail
  go_ret
  exact ⟨rfl, nq, rfl⟩
end Go.Proofs.YtlfgcblijfflfaaGreat

/- Contract of cdcl's analysed: the clause that a conflict brings, and the level to go back to. (Printed by wip/tools/cdana.py.) -/
namespace Go.Proofs.YtlfgcblijfflfaaGreat
open Go.RowKit
set_option linter.unusedSimpArgs false

def RetAna (d : List Int) (b : Int) (w : World) (e : Ending) (w' : World) : Prop :=
  ∃ C nc cc, e = .returned (.tuple #[.slice C nc cc, .int .i64 b]) ∧ Own 3 w' w.heap.size C nc cc (d.map (Value.int .i64)) ∧ Below w.heap.size w w'

set_option maxHeartbeats 8000000 in
set_option maxRecDepth 100000 in
theorem analysed_any (W : World) (gs : Nat) (A : Option Addr) (n c : Nat) (xss : List (List Int)) (t y v : List Int) (z aN : Nat) (vars : Int) (h : CdLook W gs A n c xss t y v z) (v0 : 0 ≤ vars) (v1 : vars ≤ 1000)
    (hT : Told vars xss t y v z aN) (hc : ∀ c ∈ xss, Lits vars c) (hz6 : z ≤ 1000000) (hzp : 0 < z) (d : List Int) (hd : Hid (lrnF xss t y v z (xss.getD aN []) = d)) (bk : Int) (hbk : Hid (bckF t v z d 0 = bk)) :
    Calls Tryz.prog 43 #[.pointer (some ⟨gs, 0, none⟩), .int .i64 aN] W (RetAna d bk W) := by
  have HH := Lib.hid h
  have HT := Lib.hid hT
  have HCX := Lib.hid hc
  obtain ⟨fc, f1, f2, f3⟩ := hT.fals (by omega)
  simp only [Int.toNat_natCast] at f1
  have hg := h.grid
  have hxl : aN < n := by rw [← hg.len]; exact (List.getElem?_eq_some_iff.1 f1).1
  obtain ⟨b, off, A', n', c', xs, hAe, hb, hcell, hx, hxk⟩ := hg.round hxl
  obtain rfl : fc = xs := by have := hxk.out; rw [f1] at this; injection this
  have hfl := hc fc f2
  have HC0 := Lib.hid (con_first (v := v) (z := z) hfl f3)
  have hR0 : Hid ((cloF xss t y v z (t.length + 1) fc).filter (fun l => !(lvF t v l == 0)) = d) := by have := hd.out; rw [List.getD_eq_getElem?_getD, f1] at this; exact this
  have hn6 : n' ≤ 1000000 := by
    have e1 := hx.len
    have := hfl.len_le v0; omega
  obtain ⟨g, L, cl, Y, cy, V, nv, cv, h1, h0, h2, hyy, h3, h4, hY, h5, h6⟩ := h.ex
  have g0 := (cell_lt h1).1
  have g1 := (cell_lt h0).1
  have hbd := hg.bd
  subst hAe
  obtain ⟨i0, hi0, hz0, hz1, hz2⟩ := info_parts int_info
  have q1 : (0 : Int) ≤ (aN : Int) := by omega
  have q2 : (aN : Int) < (n : Int) := by omega
  obtain ⟨wd, hwd⟩ : ∃ w0 : World, w0 = W.alloc (.cells #[.pointer (some ⟨gs, 0, none⟩)] 77) := ⟨_, rfl⟩
  have HBD : Hid (Below W.heap.size W wd) := by rw [hwd]; exact below_new _ _
  have HKD : Hid (Blk wd W.heap.size 77 #[.pointer (some ⟨gs, 0, none⟩)]) := by rw [hwd]; exact Blk.new _ _ _
  have HX := Lib.hid (hx.keep HBD.out)
  have HHD := Lib.hid (HH.out.keep HBD.out)
  have HGD := Lib.hid (hg.keep HBD.out)
  clear h hg hT h2 hyy h3 h4 hY h5 h6 hx hxk f1 f2 f3 hfl hd hc
  go_enter Tryz.func43, Tryz.ntmps43
  go_wp2_with fail
  rw [← hwd]
  clear hwd
  refine (clone_ints _ _ _ fc _ HX.out hn6).mono ?_
  rintro e w1 ⟨A1, n1, c1, rfl, hown, hb1⟩
  have HB1 := Lib.hid hb1
  have O1 := Lib.hid hown
  obtain ⟨R0, hr0⟩ : ∃ R0, Hid (cloF xss t y v z (t.length + 1) fc = R0) := ⟨_, rfl⟩
  rw [hr0.out] at hR0
  clear hown hb1 HX h1 h0 hcell g0 g1
  go_wp2_with fail
  go_loopg [6] (t.length) (fun f s wr => ∃ (A5 : Option Addr) (n5 c5 : Nat) (cc : List Int), s = .slice A5 n5 c5 ∧ Hid (Own 3 wr wd.heap.size A5 n5 c5 (cc.map (Value.int .i64))) ∧ Hid (Con t v z cc f) ∧ Hid (cloF xss t y v z (f + 1) cc = R0) ∧ Hid (Below wd.heap.size wd wr))
  case atStart => exact ⟨A1, n1, c1, fc, rfl, O1, HC0, hr0, HB1⟩
  case round =>
    clear O1 HC0 hr0 HB1
    obtain ⟨A5, n5, c5, cc, rfl, hO, hC, hF1, hB⟩ := hrel
    have HCN := hC
    have h0t : Hid ((0 : Int) ∉ t) := HT.out.lits.zero
    have HCB : Hid (∀ x ∈ cc, -1000000 ≤ x ∧ x ≤ 1000000) := fun x hx => by have := HT.out.lits.1 _ (hC.out.neg x hx); omega
    have HTL : Hid (t.length ≤ 1000) := by have := HT.out.lits.len_le v0; show _ ≤ _; omega
    have HN5 : Hid (n5 ≤ 1000000) := by
      have g3 := hO.out.len
      rw [List.length_map] at g3
      have g4 := length_le_of_sub cc (t.map (fun x => -x)) hC.out.nd (fun x hx => List.mem_map.2 ⟨-x, hC.out.neg x hx, by omega⟩)
      rw [List.length_map] at g4
      have := HTL.out
      show _ ≤ _
      omega
    clear hC
    obtain ⟨wa, hwa⟩ : ∃ wa : World, wa = wr.alloc (.cells #[.int .i64 0] 3) := ⟨_, rfl⟩
    have hba : Below wr.heap.size wr wa := by rw [hwa]; exact below_new _ _
    have KA := Blk.new wr 3 #[.int .i64 0]
    rw [← hwa] at KA
    have HOA := Lib.hid (hO.out.keep hba)
    have HBA := Lib.hid (below_next hB.out hba)
    have hOb : Hid (blockOf A5 ≠ some wr.heap.size) := hO.out.ltb (Nat.le_refl _)
    have hbrge : Hid (wd.heap.size ≤ wr.heap.size) := hB.out.size
    obtain ⟨la0, m0, hlat⟩ : ∃ la0 m0, Hid (latF t v z cc 0 0 = (la0, m0)) := ⟨_, _, rfl⟩
    have HI : Hid (∀ x ∈ cc, I64 x) := fun x hx => by have := HCB.out x hx; unfold I64; omega
    go_wp2_with fail
    rw [← hwa]
    obtain ⟨br, hbr⟩ : ∃ br, br = wr.heap.size := ⟨_, rfl⟩
    rw [← hbr] at hOb hbrge KA ⊢
    have HKA := Lib.hid KA
    clear hbr hwa hba KA hO hB
    go_loopw [8, 30] (fun s5 s31 wr => ∃ (k : Nat) (la m : Int), k ≤ n5 ∧ 0 ≤ m ∧ m ≤ k ∧ s5 = .int .i64 m ∧ s31 = .int .i64 k ∧ Hid (la = 0 ∨ -la ∈ t) ∧ Hid (Blk wr br 3 #[.int .i64 la]) ∧ Hid (Own 3 wr wd.heap.size A5 n5 c5 (cc.map (Value.int .i64))) ∧ Hid (Below wd.heap.size wd wr) ∧ Hid (latF t v z (cc.drop k) la m = (la0, m0))) (fun _ i _ => n5 - (intOf i).toNat)
    case atStart => exact ⟨0, 0, 0, Nat.zero_le _, Int.le_refl _, Int.le_refl _, rfl, rfl, .inl rfl, HKA, HOA, HBA, hlat⟩
    case round =>
      clear HKA HOA HBA
      obtain ⟨k, la, m, hk, hm0, hmk, rfl, rfl, hla, hbk0, hO, hB, hlt⟩ := hrel
      have hn5 : n5 ≤ 1000000 := HN5.out
      have HK := Lib.hid (HKD.out.keep hB.out)
      have HL := Lib.hid (HHD.out.keep hB.out)
      have ek := HK.out.cell 0
      have eb := hbk0.out.cell 0
      simp at ek eb
      have zk := (cell_lt ek).1
      have zb := (cell_lt eb).1
      by_cases hkn : k < n5
      · obtain ⟨b, off, x, hAe, hbb, hcell, x1, x2, hxk⟩ := (hO.out.ints HI.out).round hkn
        have hxm := List.mem_of_getElem? hxk.out
        have hxb := HCB.out x hxm
        have hxt : Hid (-x ∈ t) := HCN.out.neg x hxm
        obtain ⟨lv, hlv⟩ : ∃ lv, Hid (lvF t v x = lv) := ⟨_, rfl⟩
        have hst : Hid ((if lv = z then latF t v z (cc.drop (k + 1)) (if la = 0 ∨ plcF t la < plcF t x then x else la) (m + 1) else latF t v z (cc.drop (k + 1)) la m) = (la0, m0)) := by have := hlt.out; rw [drop_cons_of hxk.out, latF, hlv.out] at this; exact this
        obtain ⟨pq, nv, cv, bv, ov, l4, l5, hpq, pq1, pq2, pq3, pq4, lcell, lgs⟩ := HL.out.lvl hxt.out
        rw [hlv.out] at lcell
        have y1 : (0 : Int) ≤ (pq : Int) := by omega
        have y2 : (pq : Int) < (nv : Int) := by omega
        have hA5 : Hid (A5 = some ⟨b, off, none⟩) := hAe
        clear hlt hxm
        subst hAe
        by_cases hle : lv = z
        · have hst2 : Hid (latF t v z (cc.drop (k + 1)) (if la = 0 ∨ plcF t la < plcF t x then x else la) (m + 1) = (la0, m0)) := by have := hst.out; rw [if_pos hle] at this; exact this
          have dle : (lv == (z : Int)) = true := by rw [beq_iff_eq]; exact hle
          clear hst
          go_wp2_with fail
          go_quiet ((go_at_call 75; exact RetQ.quiet (cd_at _ gs _ n c xss t y v z (HL.out.keep (below_drewN _ _)) x hxb _ hpq)))
          go_wp2_with fail
          obtain ⟨wq, hwq⟩ : ∃ wq : World, wq = wr.drewN nq := ⟨_, rfl⟩
          have hbq : Below wr.heap.size wr wq := by rw [hwq]; exact below_drewN _ _
          (try rw [← hwq])
          have HLQ := Lib.hid (HL.out.keep hbq)
          have HBK := Lib.hid (hbk0.out.keep hbq)
          have HOQ := Lib.hid (hO.out.keep hbq)
          have HBQ := Lib.hid (below_next hB.out hbq)
          have eb2 := keepBox hbq eb
          have ek2 := keepBox hbq ek
          have zk2 := (cell_lt ek2).1
          have zb2 := (cell_lt eb2).1
          have fb2 : wq.frozen? ⟨br, 0, none⟩ = false := HBK.out.frozen 0
          clear hbq hwq eb ek zk zb hcell hbk0 hO hB HL HK nq l4 l5 hpq pq1 pq2 pq3 pq4 lcell lgs y1 y2
          by_cases hl0 : la = 0
          · have HC9 : Hid (la = 0 ∨ plcF t la < plcF t x) := .inl hl0
            subst hl0
            go_quiet (fail)
            go_wp2_with fail
            go_roundw
            case rel =>
              refine ⟨k + 1, x, m + 1, by omega, by omega, by omega, by go_num, by go_num, .inr hxt, ?_, ?_, ?_, ?_⟩
              · have := (HBK.out.keep (below_drewN wq nq)).set_ 0 (.int .i64 x)
                simpa [Hid] using this
              · exact (HOQ.out.keep (below_drewN wq nq)).kept (grown_setCell _ ⟨br, 0, none⟩ _) (.inr (by simpa [blockOf] using hOb.out))
              · exact (below_next HBQ.out (below_drewN wq nq)).setCell hbrge.out _
              · have := hst2.out; rw [if_pos HC9.out] at this; exact this
            case measure => simp [intOf]; omega
          · have hlt9 : Hid (-la ∈ t) := by rcases hla with h | h; exact absurd h hl0; exact h
            have hlab : -1000000 ≤ la ∧ la ≤ 1000000 := by have := HT.out.lits.1 _ hlt9.out; omega
            have dl0 : (la == 0) = false := by rw [beq_eq_false_iff_ne]; exact hl0
            obtain ⟨px, hpx⟩ : ∃ q, Hid (plcF t x = q) := ⟨_, rfl⟩
            obtain ⟨pl, hpl⟩ : ∃ q, Hid (plcF t la = q) := ⟨_, rfl⟩
            by_cases hcmp : pl < px
            · have HC9 : Hid (la = 0 ∨ plcF t la < plcF t x) := .inr (by rw [hpx.out, hpl.out]; exact hcmp)
              go_quiet ((first | (go_at_call 75; with_reducible exact RetQ.quiet (cd_at _ gs _ n c xss t y v z (HLQ.out.keep (below_drewN _ _)) x hxb _ hpx)) | (go_at_call 75; with_reducible exact RetQ.quiet (cd_at _ gs _ n c xss t y v z (HLQ.out.keep (below_drewN _ _)) la hlab _ hpl))))
              go_wp2_with fail
              go_roundw
              case rel =>
                refine ⟨k + 1, x, m + 1, by omega, by omega, by omega, by go_num, by go_num, .inr hxt, ?_, ?_, ?_, ?_⟩
                · have := (HBK.out.keep (below_drewN wq nq)).set_ 0 (.int .i64 x)
                  simpa [Hid] using this
                · exact (HOQ.out.keep (below_drewN wq nq)).kept (grown_setCell _ ⟨br, 0, none⟩ _) (.inr (by simpa [blockOf] using hOb.out))
                · exact (below_next HBQ.out (below_drewN wq nq)).setCell hbrge.out _
                · have := hst2.out; rw [if_pos HC9.out] at this; exact this
              case measure => simp [intOf]; omega
            · have HC9 : Hid (¬ (la = 0 ∨ plcF t la < plcF t x)) := by rw [hpx.out, hpl.out]; rintro (h | h); exact hl0 h; exact hcmp h
              go_quiet ((first | (go_at_call 75; with_reducible exact RetQ.quiet (cd_at _ gs _ n c xss t y v z (HLQ.out.keep (below_drewN _ _)) x hxb _ hpx)) | (go_at_call 75; with_reducible exact RetQ.quiet (cd_at _ gs _ n c xss t y v z (HLQ.out.keep (below_drewN _ _)) la hlab _ hpl))))
              go_wp2_with fail
              go_roundw
              case rel =>
                refine ⟨k + 1, la, m + 1, by omega, by omega, by omega, by go_num, by go_num, hla, HBK.out.keep (below_drewN wq nq), HOQ.out.keep (below_drewN wq nq), below_next HBQ.out (below_drewN wq nq), ?_⟩
                have := hst2.out; rw [if_neg HC9.out] at this; exact this
              case measure => simp [intOf]; omega
        · have hst2 : Hid (latF t v z (cc.drop (k + 1)) la m = (la0, m0)) := by have := hst.out; rw [if_neg hle] at this; exact this
          have dle : (lv == (z : Int)) = false := by rw [beq_eq_false_iff_ne]; exact hle
          clear hst
          go_wp2_with fail
          go_quiet ((go_at_call 75; exact RetQ.quiet (cd_at _ gs _ n c xss t y v z (HL.out.keep (below_drewN _ _)) x hxb _ hpq)))
          go_wp2_with fail
          go_roundw
          case rel => exact ⟨k + 1, la, m, by omega, hm0, by omega, rfl, by go_num, hla, hbk0.out.keep (below_drewN _ _), hO.out.keep (below_drewN _ _), below_next hB.out (below_drewN _ _), hst2⟩
          case measure => simp [intOf]; omega
      · have hfin : (la, m) = (la0, m0) := by have := hlt.out; rw [List.drop_of_length_le (by have := hO.out.len; rw [List.length_map] at this; omega), latF] at this; exact this
        obtain ⟨rfl, rfl⟩ : la = la0 ∧ m = m0 := by simpa using hfin
        clear hfin hlt
        by_cases hm2 : m < 2
        · have hF2 : Hid (cc = R0) := by have := hF1.out; rw [cloF, hlat.out, if_pos hm2] at this; exact this
          have OX := hO
          have BX := hB
          clear hF1
          go_wp2_with fail
          refine (deleteFunc_any 77 enters_ana2 _ wd.heap.size n5 c5 A5 cc (fun l => lvF t v l == 0) _ OX.out (fun x hx => by have := HCB.out x hx; unfold I64; omega) ?_ HN5.out).mono ?_
          · intro W2 y2 hg2 hy2
            have hb2 : Below wd.heap.size wd W2 := below_grown BX.out OX.out (Nat.le_refl _) hg2
            exact ana2_any W2 gs W.heap.size _ n c _ t y v _ (HHD.out.keep hb2) (by have := (HKD.out.keep hb2).cell 0; simpa using this) y2 (HCB.out y2 hy2) (HCN.out.neg y2 hy2) _ rfl
          rintro e w6 ⟨n6, rfl, hown6, hg6⟩
          have HB6 := Lib.hid (below_grown BX.out OX.out (Nat.le_refl _) hg6)
          have hn6' : n6 ≤ 1000000 := by
            have g1 := hown6.len
            rw [List.length_map] at g1
            have g2 := List.length_filter_le (fun l => !(lvF t v l == 0)) cc
            have g3 := OX.out.len
            rw [List.length_map] at g3
            have g4 := HN5.out
            omega
          have HRC : Hid (cc.filter (fun l => !(lvF t v l == 0)) = d) := by have := hR0.out; rw [← hF2.out] at this; exact this
          have O6 : Hid (Own 3 w6 wd.heap.size A5 n6 c5 (d.map (Value.int .i64))) := by rw [← HRC.out]; exact hown6
          have HFI : Hid (∀ x ∈ d, (-1000000 ≤ x ∧ x ≤ 1000000) ∧ -x ∈ t) := fun x hx => by
            rw [← HRC.out] at hx
            have := (List.mem_filter.1 hx).1
            exact ⟨HCB.out x this, HCN.out.neg x this⟩
          have I6 := Lib.hid (O6.out.ints (fun x hx => by have := HFI.out x hx; unfold I64; omega))
          have L6 := Lib.hid (HHD.out.keep HB6.out)
          have K6 := Lib.hid (HKD.out.keep HB6.out)
          clear hown6 hg6 OX BX hbk0 hO hB HL HK ek eb zk zb
          go_wp2_with fail
          go_loopw [13, 114] (fun s13 s114 wr => ∃ (j m : Nat) (bq : Int), j ≤ n6 ∧ 0 ≤ bq ∧ bq ≤ z ∧ s13 = .int .i64 bq ∧ s114 = .int .i64 j ∧ Hid (wr = w6.drewN m) ∧ Hid (bckF t v z (d.drop j) bq = bk)) (fun _ i _ => n6 - (intOf i).toNat)
          case atStart => exact ⟨0, 0, 0, Nat.zero_le _, Int.le_refl _, by omega, rfl, rfl, rfl, hbk⟩
          case round =>
            clear hbk
            obtain ⟨j, mq, bq, hj, hb0, hb1, rfl, rfl, hwr, hbk⟩ := hrel
            have hbw : Below w6.heap.size w6 wr := by rw [hwr.out]; exact below_drewN _ _
            have IR := Lib.hid (I6.out.keep hbw)
            have LR := Lib.hid (L6.out.keep hbw)
            have ek := (K6.out.keep hbw).cell 0
            simp at ek
            have zk := (cell_lt ek).1
            by_cases hjn : j < n6
            · obtain ⟨b, off, x, hAe, hbb, hcell, x1, x2, hxk⟩ := IR.out.round hjn
              obtain ⟨hxb, hxt0⟩ := HFI.out x (List.mem_of_getElem? hxk.out)
              have hxt := Lib.hid hxt0
              obtain ⟨lv, hlv⟩ : ∃ lv, Hid (lvF t v x = lv) := ⟨_, rfl⟩
              have hst : Hid (bckF t v z (d.drop (j + 1)) (if lv < z then max bq lv else bq) = bk) := by have := hbk.out; rw [drop_cons_of hxk.out, bckF, hlv.out] at this; exact this
              have hlvr : 0 ≤ lv ∧ lv ≤ z := by
                have := HT.out.lev.low _ _ (lvAt HT.out hxt.out)
                rw [hlv.out] at this
                exact this
              obtain ⟨pq, nv, cv, bv, ov, l4, l5, hpq, pq1, pq2, pq3, pq4, lcell, lgs⟩ := LR.out.lvl hxt.out
              rw [hlv.out] at lcell
              have y1 : (0 : Int) ≤ (pq : Int) := by omega
              have y2 : (pq : Int) < (nv : Int) := by omega
              have hA5 : Hid (A5 = some ⟨b, off, none⟩) := hAe
              clear hbk hxt0
              subst hAe
              by_cases hle : lv < z
              · have dle : decide (lv < (z : Int)) = true := decide_eq_true hle
                have hst2 : Hid (bckF t v z (d.drop (j + 1)) (max bq lv) = bk) := by have := hst.out; rw [if_pos hle] at this; exact this
                clear hst
                go_wp2_with fail
                go_quiet ((go_at_call 75; exact RetQ.quiet (cd_at _ gs _ n c xss t y v z (LR.out.keep (below_drewN _ _)) x hxb _ hpq)))
                have l5q := keepBox (below_drewN wr nq) l5
                have ekq := keepBox (below_drewN wr nq) ek
                have zkq := (cell_lt ekq).1
                have zgq := (cell_lt l5q).1
                go_wp2_with fail
                go_roundw
                case rel => exact ⟨j + 1, mq + nq, max bq lv, by omega, by omega, by omega, by go_num, by go_num, by show _ = _; rw [hwr.out, World.drewN_drewN], hst2⟩
                case measure => simp [intOf]; omega
              · have dle : decide (lv < (z : Int)) = false := decide_eq_false hle
                have hst2 : Hid (bckF t v z (d.drop (j + 1)) bq = bk) := by have := hst.out; rw [if_neg hle] at this; exact this
                clear hst
                go_wp2_with fail
                go_quiet ((go_at_call 75; exact RetQ.quiet (cd_at _ gs _ n c xss t y v z (LR.out.keep (below_drewN _ _)) x hxb _ hpq)))
                have l5q := keepBox (below_drewN wr nq) l5
                have ekq := keepBox (below_drewN wr nq) ek
                have zkq := (cell_lt ekq).1
                have zgq := (cell_lt l5q).1
                go_wp2_with fail
                go_roundw
                case rel => exact ⟨j + 1, mq + nq, bq, by omega, by omega, by omega, rfl, by go_num, by show _ = _; rw [hwr.out, World.drewN_drewN], hst2⟩
                case measure => simp [intOf]; omega
            · obtain rfl : bq = bk := by have := hbk.out; rw [List.drop_of_length_le (by have := I6.out.len; omega), bckF] at this; exact this
              have HBW := Lib.hid (below_next (below_next HBD.out HB6.out) hbw)
              have OW : Hid (Own 3 wr W.heap.size A5 n6 c5 (d.map (Value.int .i64))) := (O6.out.keep hbw).mono HBD.out.size
              clear hbk hwr
              go_wp2_with fail
              go_ret2
              exact ⟨A5, n6, c5, rfl, OW.out, HBW.out⟩
        · have hcs := con_step HT.out HCN.out (by rw [hlat.out]; exact hm2)
          rw [hlat.out] at hcs
          have HCS := Lib.hid hcs
          clear hcs
          go_wp2_with fail
          refine (deleteFunc_any 76 enters_ana1 _ wd.heap.size n5 c5 A5 cc (fun l => l == la) _ hO.out HI.out ?_ HN5.out).mono ?_
          · intro W2 y2 hg2 hy2
            exact ana1_any y2 la br W2 (by have := (hbk0.out.grown hg2 (fun e => hOb.out e.symm)).cell 0; simpa using this)
          rintro e w6 ⟨n6, rfl, hown6, hg6⟩
          have HB6 := Lib.hid (below_grown hB.out hO.out (Nat.le_refl _) hg6)
          have O6 := Lib.hid hown6
          have KB6 : Hid (Blk w6 br 3 #[.int .i64 la]) := hbk0.out.grown hg6 (fun e => hOb.out e.symm)
          have K6 := Lib.hid (HKD.out.keep HB6.out)
          have L6 := Lib.hid (HHD.out.keep HB6.out)
          have hn6 : n6 ≤ 1000000 := by
            have g1 := hown6.len
            rw [List.length_map] at g1
            have g2 := List.length_filter_le (fun l => !(l == la)) cc
            have g3 := hO.out.len
            rw [List.length_map] at g3
            omega
          obtain ⟨jla, jlt, j0, jy, jx, jneg, jtk, jcon⟩ := HCS.out
          have hlab := HCB.out la jla
          have HCON : Hid (Con t v z (resT xss t y cc la) ((gk - 1 : Nat) : Int)) := ⟨jcon.neg, jcon.nd, fun l hl hlz => by have := jcon.low l hl hlz; omega⟩
          obtain ⟨P, hP⟩ : ∃ P : Nat, plcF t la = (P : Int) := ⟨(plcF t la).toNat, by omega⟩
          have hgk : Hid (gk - 1 + 1 = gk) := by show _ = _; omega
          have hpl := (plc_mem (HCN.out.neg la jla)).2.1
          simp only [hP, Int.toNat_natCast] at jy jx hpl
          obtain ⟨Q, hQ⟩ : ∃ Q : Nat, y.getD P 0 = (Q : Int) := ⟨(y.getD P 0).toNat, by omega⟩
          rw [hQ, Int.toNat_natCast] at jx
          obtain ⟨br2, hbr2⟩ : ∃ q, Hid (bringF xss t y la = q) := ⟨_, rfl⟩
          rw [hbr2.out] at jx
          have hQn : Q < n := by rw [← HGD.out.len]; exact (List.getElem?_eq_some_iff.1 jx).1
          obtain ⟨b3, off3, A3, n3, c3, xs3, hA3, hb3, hcell3, hx3, hxk3⟩ := HGD.out.round hQn
          obtain rfl : br2 = xs3 := by have := hxk3.out; rw [jx] at this; injection this
          cases hA3
          have hlb := HCX.out _ (List.mem_of_getElem? jx)
          have hn3 : n3 ≤ 1000 := by have := hlb.len_le v0; rw [hx3.len] at this; omega
          have HBL : Hid (∀ x ∈ br2, -1000000 ≤ x ∧ x ≤ 1000000) := fun x hx => by have := hlb.1 x hx; omega
          have HX3 := Lib.hid hx3
          have hcell6 := keepBox HB6.out hcell3
          have hPn : P < y.length := by rw [L6.out.leny]; omega
          have hF3 : Hid (cloF xss t y v z gk (resT xss t y cc la) = R0) := by have := hF1.out; rw [cloF, hlat.out, if_neg (by omega)] at this; exact this
          have hadd : Hid (addF (-la) br2 (cc.filter (fun l => !(l == la))) = resT xss t y cc la) := by rw [resT, hbr2.out]; rfl
          obtain ⟨res, hres⟩ : ∃ r, Hid (resT xss t y cc la = r) := ⟨_, rfl⟩
          rw [hres.out] at hadd hF3 HCON
          have HPL : Hid (plcF t la = (P : Int)) := hP
          have HN0 : Hid (∀ x ∈ cc.filter (fun l => !(l == la)), -1000000 ≤ x ∧ x ≤ 1000000) := fun x hx => HCB.out x (List.mem_filter.1 hx).1
          clear ek eb zk zb HK HL
          obtain ⟨g, L, cl, Y, cy, V, nv, cv, h1, h0, h2, hyy, h3, h4, hY, h5, h6⟩ := L6.out.ex
          obtain ⟨b4, off4, yv, hYe, hb4, hcell4, yv1, yv2, hyk⟩ := hY.round hPn
          obtain rfl : yv = (Q : Int) := by have := hyk.out; rw [← hQ, List.getD_eq_getElem?_getD, this]; rfl
          cases hYe
          have ek := K6.out.cell 0
          have eb := KB6.out.cell 0
          simp at ek eb
          have zk := (cell_lt ek).1
          have zr := (cell_lt h1).1
          have zg := (cell_lt h0).1
          have zb := (cell_lt eb).1
          have z3 := (cell_lt hcell6).1
          have z4 := (cell_lt hcell4).1
          have u1 : (0 : Int) ≤ (P : Int) := by omega
          have u2 : (P : Int) < (y.length : Int) := by omega
          have u3 : (0 : Int) ≤ (Q : Int) := by omega
          have u4 : (Q : Int) < (n : Int) := by omega
          clear h2 h3 h4 hY h5 h6 hyk hown6 hg6 hO hB hbk0 jx jy jneg jtk jcon jlt j0 hbr2 hres HCS hx3 hxk3 hcell3 hb3 hF1 hP hQ hlb
          go_wp2_with fail
          go_quiet ((go_at_call 75; exact RetQ.quiet (cd_at _ gs _ n c xss t y v z (L6.out.keep (below_drewN _ _)) la hlab _ HPL)))
          go_wp2_with fail
          obtain ⟨wb, hwb⟩ : ∃ wb : World, wb = w6.drewN nq := ⟨_, rfl⟩
          have hbb6 : Below w6.heap.size w6 wb := by rw [hwb]; exact below_drewN _ _
          (try rw [← hwb])
          have O7 := Lib.hid (O6.out.keep hbb6)
          have B7 := Lib.hid (below_next HB6.out hbb6)
          have KB7 := Lib.hid (KB6.out.keep hbb6)
          clear hwb hbb6 ek eb zk zr zg zb z3 z4 h1 h0 hyy hcell6 hcell4 nq
          go_loopw [6, 90] (fun s3 s85 wr => ∃ (k : Nat) (A7 : Option Addr) (n7 c7 : Nat) (nn : List Int), k ≤ n3 ∧ n7 ≤ n6 + k ∧ s3 = .slice A7 n7 c7 ∧ s85 = .int .i64 k ∧ Hid (Own 3 wr wd.heap.size A7 n7 c7 (nn.map (Value.int .i64))) ∧ Hid (∀ x ∈ nn, -1000000 ≤ x ∧ x ≤ 1000000) ∧ Hid (Blk wr br 3 #[.int .i64 la]) ∧ Hid (blockOf A7 ≠ some br) ∧ Hid (Below wd.heap.size wd wr) ∧ Hid (addF (-la) (br2.drop k) nn = res)) (fun _ i _ => n3 - (intOf i).toNat)
          case atStart => exact ⟨0, A5, n6, c5, _, Nat.zero_le _, Nat.le_refl _, rfl, rfl, O7, HN0, KB7, hOb, B7, hadd⟩
          case round =>
            clear O7 HN0 KB7 B7 hadd O6 HB6 KB6 K6 L6
            obtain ⟨k, A7, n7, c7, nn, hk, hn7, rfl, rfl, hO, hN, hbk0, hOb7, hB, had⟩ := hrel
            have eb := hbk0.out.cell 0
            simp at eb
            have zb := (cell_lt eb).1
            have HXR := Lib.hid (HX3.out.keep hB.out)
            have HIN : Hid (∀ x ∈ nn, I64 x) := fun x hx => by have := hN.out x hx; unfold I64; omega
            by_cases hkn : k < n3
            · obtain ⟨b5, off5, x, hAe, hbb, hcell5, x1, x2, hxk⟩ := HXR.out.round hkn
              have hxb := HBL.out x (List.mem_of_getElem? hxk.out)
              have had2 : Hid ((if x != -la && !hasB nn x then addF (-la) (br2.drop (k + 1)) (nn ++ [x]) else addF (-la) (br2.drop (k + 1)) nn) = res) := by have := had.out; rw [drop_cons_of hxk.out, addF] at this; exact this
              cases hAe
              clear had
              by_cases hxe : x = -la
              · have had3 : Hid (addF (-la) (br2.drop (k + 1)) nn = res) := by have := had2.out; rw [hxe] at this; simpa [Hid] using this
                have dx : (x == -la) = true := by rw [beq_iff_eq]; exact hxe
                clear had2
                go_wp2_with fail
                go_roundw
                case rel => exact ⟨k + 1, A7, n7, c7, nn, by omega, by omega, rfl, by go_num, hO, hN, hbk0, hOb7, hB, had3⟩
                case measure => simp [intOf]; omega
              · have dx : (x == -la) = false := by rw [beq_eq_false_iff_ne]; exact hxe
                obtain ⟨q, hq⟩ : ∃ q, Hid (hasB nn x = q) := ⟨_, rfl⟩
                have had3 : Hid ((if q then addF (-la) (br2.drop (k + 1)) nn else addF (-la) (br2.drop (k + 1)) (nn ++ [x])) = res) := by
                  have := had2.out
                  rw [hq.out, bne, dx] at this
                  cases q <;> simpa [Hid] using this
                clear had2
                go_wp2_with fail
                refine (contains_ints A7 n7 c7 nn x wr (hO.out.ints HIN.out) q hq).mono ?_
                rintro e w8 ⟨rfl, m8, rfl⟩
                obtain ⟨wq, hwq⟩ : ∃ wq : World, wq = wr.drewN m8 := ⟨_, rfl⟩
                have hbq : Below wr.heap.size wr wq := by rw [hwq]; exact below_drewN _ _
                have ownq := Lib.hid (hO.out.keep hbq)
                have blq := Lib.hid (below_next hB.out hbq)
                have HBK := Lib.hid (hbk0.out.keep hbq)
                (try rw [← hwq])
                clear hbq hwq
                cases q
                · have hS := ints_made wq 3 [x] rfl (by simp [I64]; omega) (by simp [maxLen])
                  have hqz := blq.out.size
                  have zq : br < wq.heap.size := HBK.out.lt
                  go_wp2_with (first
                    | (at_builtin
                       refine wpList_append_sl _ rfl (.tmp 104) (.tmp 106) _ rfl wd.heap.size 3 i0 _ 8 Tryz.underlying22 hi0 hz0 hz1 hz2 rfl A7 n7 c7 _ rfl (ownq.out.keep (below_new _ _)) (some ⟨wq.heap.size, 0, none⟩) 1 1 _ rfl hS.sl (ints_one _) (by simp only [maxLen]; omega) (by omega) (by simp; omega) ?_
                       intro L1 cL1 w9 hL1 hg1 hat1
                       have HL1 := Lib.hid hL1
                       have HB9 := Lib.hid (below_grown (below_alloc blq.out (.cells #[.int .i64 x] 3)) (ownq.out.keep (below_new wq (.cells #[.int .i64 x] 3))) (Nat.le_refl _) hg1)
                       have HK9 := Lib.hid ((HBK.out.alloc (.cells #[.int .i64 x] 3)).grown hg1 (fun e => hOb7.out e.symm))
                       have HO9 : Hid (blockOf L1 ≠ some br) := by
                         rcases hat1 with h | h
                         · rw [h]; exact hOb7.out
                         · rw [h]; intro e; injection e with e; simp at e; omega
                       clear hL1 hg1 hat1))
                  go_roundw
                  case rel =>
                    refine ⟨k + 1, L1, n7 + 1, cL1, nn ++ [x], by omega, by omega, rfl, by go_num, by rw [List.map_append]; exact HL1, ?_, HK9, HO9, HB9, by have := had3.out; simpa [Hid] using this⟩
                    intro z hz
                    rcases List.mem_append.1 hz with hz | hz
                    · exact hN.out z hz
                    · simp at hz; subst hz; exact hxb
                  case measure => simp [intOf]; omega
                · go_wp2_with fail
                  go_roundw
                  case rel => exact ⟨k + 1, A7, n7, c7, nn, by omega, by omega, rfl, by go_num, ownq, hN, HBK, hOb7, blq, by have := had3.out; simpa [Hid] using this⟩
                  case measure => simp [intOf]; omega
            · have hfin : Hid (nn = res) := by have := had.out; rw [List.drop_of_length_le (by rw [HXR.out.len]; omega), addF] at this; exact this
              have hcon : Hid (Con t v z nn ((gk - 1 : Nat) : Int)) := by rw [hfin.out]; exact HCON
              have hclo : Hid (cloF xss t y v z gk nn = R0) := by rw [hfin.out]; exact hF3
              clear had
              go_wp2_with fail
              go_roundg (gk - 1)
              case measure => have := hgk.out; omega
              case rel => exact ⟨A7, n7, c7, nn, rfl, hO, hcon, by rw [hgk.out]; exact hclo, hB⟩
end Go.Proofs.YtlfgcblijfflfaaGreat

/- Contracts of cdcl's search (2): a search in memory, and how it is kept. -/
namespace Go.Proofs.YtlfgcblijfflfaaGreat
open Go.RowKit Go.Maps Go.WideMaps
set_option linter.unusedSimpArgs false

/-- Another world at the trail's foot. -/
theorem TrSt.base_ {w w2 wr : World} {g : Nat} {A : Option Addr} {n c : Nat} {L : Option Addr} {cl : Nat} {Y : Option Addr} {cy gm : Nat} {D : DataW Unit} {t y : List Int} (h : TrSt w wr g A n c L cl Y cy gm D t y) (hs : w2.heap.size = w.heap.size) (hb : Below w2.heap.size w2 wr) : TrSt w2 wr g A n c L cl Y cy gm D t y :=
  ⟨hb, by rw [hs]; exact h.lo, h.tb, by rw [hs]; exact h.lits, by rw [hs]; exact h.why, h.ne, h.mp, h.has, by rw [hs]; exact h.lm⟩
theorem Blk.cut {w : World} {g h : Nat} {t : TypeId} {cs : Array Value} (hb : Blk w g t cs) (hg : g < h) : Blk (cutW w h) g t cs := by unfold Blk; rw [cutW_heap hg]; exact hb
theorem ne_sym_ {a b : Option Nat} (h : a = none ∨ a ≠ b) : b = none ∨ b ≠ a ∨ a = none := by
  rcases h with h | h
  · exact .inr (.inr h)
  · exact .inr (.inl fun e => h e.symm)
theorem own_typ_ne {e t' : TypeId} {w : World} {base n c g : Nat} {A : Option Addr} {xs : List Value} (h : Own e w base A n c xs) (hT : Typed t' w g) (hne : e ≠ t') : some g ≠ blockOf A := by
  rcases h.ne_typed hT hne with h1 | h1
  · rw [h1]; simp
  · exact fun e => h1 e.symm

/-- A search of the call's own: its block gs, its trail g (from height h on), its levels v, the level z, what it learned (ns steps). -/
structure CdSt (w0 wr : World) (h gs g : Nat) (vars : Int) (Q : Option Addr) (mq dq : Nat) (q : List Int) (ph : Bool) (xss : List (List Int)) (A : Option Addr) (n c : Nat) (L : Option Addr) (cl : Nat) (Y : Option Addr) (cy gm : Nat) (D : DataW Unit) (t y : List Int) (V : Option Addr) (nv cv : Nat) (v : List Int) (z : Int) (S : Option Addr) (ns cs : Nat) : Prop where
  lo : w0.heap.size ≤ h
  hi : h ≤ wr.heap.size
  bl : Below w0.heap.size w0 wr
  tr : TrSt (cutW wr h) wr g A n c L cl Y cy gm D t y
  cz : Clz (cutW wr h) w0.heap.size A n c xss
  sb : Blk wr gs 81 #[.int .i64 vars, .slice Q mq dq, .bool ph, .pointer (some ⟨g, 0, none⟩), .slice V nv cv, .int .i64 z, .slice S ns cs]
  glo : w0.heap.size ≤ gs
  vo : Own 3 wr h V nv cv (v.map (Value.int .i64))
  nL : blockOf V = none ∨ blockOf V ≠ blockOf L
  nY : blockOf V = none ∨ blockOf V ≠ blockOf Y
  so : ∃ xs, OwnC (cutW wr h) w0.heap.size S ns cs xs
  aq : Ints w0 Q mq dq q
section
variable {w0 wr w' W w1 : World} {h gs g : Nat} {vars : Int} {Q : Option Addr} {mq dq : Nat} {q : List Int} {ph : Bool} {xss : List (List Int)} {A : Option Addr} {n c : Nat} {L L' : Option Addr} {cl cl' : Nat} {Y Y' : Option Addr} {cy cy' gm : Nat} {D D' : DataW Unit} {t y t' y' : List Int} {V V' : Option Addr} {nv cv cv' : Nat} {v : List Int} {z : Int} {S : Option Addr} {ns cs : Nat}
theorem cut_low (hi : h ≤ wr.heap.size) (hb : Below (cutW wr h).heap.size (cutW wr h) w') (hs : wr.heap.size ≤ w'.heap.size) : Below h wr w' :=
  ⟨hb.os, hb.tape, hb.output, hs, fun k hk => by rw [hb.block k (by rw [cutW_size hi]; exact hk), cutW_heap hk]⟩
theorem CdSt.asked (d : CdSt w0 wr h gs g vars Q mq dq q ph xss A n c L cl Y cy gm D t y V nv cv v z S ns cs) : Ints wr Q mq dq q := d.aq.keep d.bl
theorem CdSt.grid (d : CdSt w0 wr h gs g vars Q mq dq q ph xss A n c L cl Y cy gm D t y V nv cv v z S ns cs) : Grid wr A n c xss := d.cz.grid.keep (cutW_below d.hi)
theorem CdSt.keep (d : CdSt w0 wr h gs g vars Q mq dq q ph xss A n c L cl Y cy gm D t y V nv cv v z S ns cs) (hb : Below wr.heap.size wr w') : CdSt w0 w' h gs g vars Q mq dq q ph xss A n c L cl Y cy gm D t y V nv cv v z S ns cs := by
  have hi' := Nat.le_trans d.hi hb.size
  have hc := cutW_keep d.hi (hb.mono d.hi)
  obtain ⟨xs, hxs⟩ := d.so
  exact ⟨d.lo, hi', below_next d.bl hb, (d.tr.keep hb).base_ (by rw [cutW_size d.hi, cutW_size hi']) (cutW_below hi'), d.cz.keep hc, d.sb.keep hb, d.glo, d.vo.keep hb, d.nL, d.nY, ⟨xs, hxs.keep hc⟩, d.aq⟩
theorem CdSt.gne (d : CdSt w0 wr h gs g vars Q mq dq q ph xss A n c L cl Y cy gm D t y V nv cv v z S ns cs) : gs ≠ g := fun e => by
  subst e
  have h1 := d.sb
  have h2 := d.tr.tb
  unfold Blk at h1 h2
  rw [h1] at h2
  injection h2 with h2
  injection h2 with _ h2
  exact absurd h2 (by decide)
theorem CdSt.gmne (d : CdSt w0 wr h gs g vars Q mq dq q ph xss A n c L cl Y cy gm D t y V nv cv v z S ns cs) : gs ≠ gm := blk_map_ne d.sb d.tr.mp
/-- The trail went on. -/
theorem CdSt.frm (d : CdSt w0 wr h gs g vars Q mq dq q ph xss A n c L cl Y cy gm D t y V nv cv v z S ns cs) (st : TrSt (cutW wr h) w' g A n c L' cl' Y' cy' gm D' t' y') (f : Frm wr w' g gm L Y L' Y') : CdSt w0 w' h gs g vars Q mq dq q ph xss A n c L' cl' Y' cy' gm D' t' y' V nv cv v z S ns cs := by
  have hi' := Nat.le_trans d.hi f.size
  have hb : Below h wr w' := cut_low d.hi st.bl f.size
  have hc := cutW_keep d.hi hb
  obtain ⟨xs, hxs⟩ := d.so
  have key : ∀ {X : Option Addr} {b : Option Nat}, (blockOf V = none ∨ blockOf V ≠ b) → (blockOf X = b ∨ ∀ k, blockOf X = some k → wr.heap.size ≤ k) → (blockOf V = none ∨ blockOf V ≠ blockOf X) := fun {X b} h1 h2 => by
    rcases h2 with h2 | h2
    · rw [h2]; exact h1
    · rcases d.vo.form with ⟨rfl, _⟩ | ⟨k, cur, rfl, _, hh, _⟩
      · exact .inl rfl
      · right
        intro e
        have h3 := h2 k (by rw [← e]; rfl)
        have := heap_lt hh
        omega
  refine ⟨d.lo, hi', d.bl.trans (hb.mono d.lo), st.base_ (by rw [cutW_size d.hi, cutW_size hi']) (cutW_below hi'), d.cz.keep hc, (f.blk gs d.sb.lt d.gne d.gmne (own_typ_ne d.tr.lits (Typed.of_blk d.sb) (by decide)) (own_typ_ne d.tr.why (Typed.of_blk d.sb) (by decide))).trans d.sb, d.glo, ?_, key d.nL f.l, key d.nY f.y, ⟨xs, hxs.keep hc⟩, d.aq⟩
  rcases d.vo.form with ⟨h1, h2, h3, h4⟩ | ⟨k, cur, hV, hk, hh, r⟩
  · rw [h1, h2, h3, h4]; exact Own.nil _ _ _
  · have hVb : blockOf V = some k := by rw [hV]; rfl
    have hbk := f.blk k (heap_lt hh) (fun e => own_typ_ne d.vo (Typed.of_blk d.tr.tb) (by decide) (by rw [hVb, e])) (fun e => own_map_ne d.vo d.tr.mp (by rw [hVb, e]))
      (fun e => by rcases d.nL with h5 | h5; rw [hVb] at h5; cases h5; exact h5 (by rw [hVb, e])) (fun e => by rcases d.nY with h5 | h5; rw [hVb] at h5; cases h5; exact h5 (by rw [hVb, e]))
    refine ⟨d.vo.1, .inr ⟨k, cv, cur, by rw [hV], hk, hbk.trans hh, r.1, r.2.1, by simpa using r.2.2.1, by simpa using r.2.2.2⟩⟩
theorem cut_set {i : Nat} {u : Value} {low : Nat} {cs0 : Array Value} (hi : h ≤ wr.heap.size) (hb : Blk wr gs 81 cs0) (hl : low ≤ gs) :
    (∀ {A : Option Addr} {n c : Nat} {xss : List (List Int)}, Clz (cutW wr h) low A n c xss → Clz (cutW (wr.setCell ⟨gs, i, none⟩ u) h) low A n c xss) ∧ (∀ {base : Nat} {S : Option Addr} {n c : Nat} {xs : List Value}, OwnC (cutW wr h) base S n c xs → OwnC (cutW (wr.setCell ⟨gs, i, none⟩ u) h) base S n c xs) := by
  have hg := cutW_grown hi (grown_setCell wr ⟨gs, i, none⟩ u)
  by_cases hgs : gs < h
  · have hT : Typed 81 (cutW wr h) gs := Typed.of_blk (hb.cut hgs)
    exact ⟨fun hz => hz.kept hg (fun k hk => by cases hk; exact ⟨hl, hT⟩) (by decide) (by decide), fun ho => ho.kept hg (ho.ne_typed hT (by decide))⟩
  · have hk : Below (cutW wr h).heap.size (cutW wr h) (cutW (wr.setCell ⟨gs, i, none⟩ u) h) := cutW_keep hi ((Below.refl h wr).setCell (p := ⟨gs, i, none⟩) (by show h ≤ gs; omega) u)
    exact ⟨fun hz => hz.keep hk, fun ho => ho.keep hk⟩
theorem TrSt.setFar {i : Nat} {u : Value} {cs0 : Array Value} (hi : h ≤ wr.heap.size) (hst : TrSt (cutW wr h) wr g A n c L cl Y cy gm D t y) (hb : Blk wr gs 81 cs0) (h1 : gs ≠ g) (h2 : gs ≠ gm) : TrSt (cutW (wr.setCell ⟨gs, i, none⟩ u) h) (wr.setCell ⟨gs, i, none⟩ u) g A n c L cl Y cy gm D t y := by
  have hg := grown_setCell wr ⟨gs, i, none⟩ u
  have hT := Typed.of_blk hb
  have hi' := Nat.le_trans hi hg.size
  have hs : (cutW (wr.setCell ⟨gs, i, none⟩ u) h).heap.size = (cutW wr h).heap.size := by rw [cutW_size hi, cutW_size hi']
  exact ⟨cutW_below hi', by rw [hs]; exact hst.lo, hst.tb.grown hg (by simp; exact fun e => h1 e.symm), by rw [hs]; exact hst.lits.kept hg (hst.lits.ne_typed hT (by decide)), by rw [hs]; exact hst.why.kept hg (hst.why.ne_typed hT (by decide)), hst.ne, hst.mp.grown hg (by simp; exact fun e => h2 e.symm), hst.has, by rw [hs]; exact hst.lm⟩
/-- A store into the search's own box. -/
theorem CdSt.set_ {z' : Int} {V' S' : Option Addr} {nv' cv' ns' cs' : Nat} {v' : List Int} (d : CdSt w0 wr h gs g vars Q mq dq q ph xss A n c L cl Y cy gm D t y V nv cv v z S ns cs) (i : Nat) (u : Value)
    (hs : (#[Value.int .i64 vars, .slice Q mq dq, .bool ph, .pointer (some ⟨g, 0, none⟩), .slice V nv cv, .int .i64 z, .slice S ns cs] : Array Value).setIfInBounds i u = #[.int .i64 vars, .slice Q mq dq, .bool ph, .pointer (some ⟨g, 0, none⟩), .slice V' nv' cv', .int .i64 z', .slice S' ns' cs'])
    (hv : Own 3 wr h V' nv' cv' (v'.map (Value.int .i64))) (nL : blockOf V' = none ∨ blockOf V' ≠ blockOf L) (nY : blockOf V' = none ∨ blockOf V' ≠ blockOf Y) (hso : ∃ xs, OwnC (cutW wr h) w0.heap.size S' ns' cs' xs) :
    CdSt w0 (wr.setCell ⟨gs, i, none⟩ u) h gs g vars Q mq dq q ph xss A n c L cl Y cy gm D t y V' nv' cv' v' z' S' ns' cs' := by
  have hg := grown_setCell wr ⟨gs, i, none⟩ u
  have hT := Typed.of_blk d.sb
  obtain ⟨k1, k2⟩ := cut_set (i := i) (u := u) d.hi d.sb d.glo
  obtain ⟨xs, hxs⟩ := hso
  refine ⟨d.lo, Nat.le_trans d.hi hg.size, d.bl.setCell (p := ⟨gs, i, none⟩) d.glo u, d.tr.setFar d.hi d.sb d.gne d.gmne, k1 d.cz, ?_, d.glo, hv.kept hg (hv.ne_typed hT (by decide)), nL, nY, ⟨xs, k2 hxs⟩, d.aq⟩
  rw [← hs]
  exact d.sb.set_ i u
theorem CdSt.setLev (d : CdSt w0 wr h gs g vars Q mq dq q ph xss A n c L cl Y cy gm D t y V nv cv v z S ns cs) (z' : Int) : CdSt w0 (wr.setCell ⟨gs, 5, none⟩ (.int .i64 z')) h gs g vars Q mq dq q ph xss A n c L cl Y cy gm D t y V nv cv v z' S ns cs :=
  d.set_ 5 _ (by simp) d.vo d.nL d.nY d.so
/-- A level more: appended, not yet stored. -/
theorem CdSt.push1 (d : CdSt w0 wr h gs g vars Q mq dq q ph xss A n c L cl Y cy gm D t y V nv cv v z S ns cs) (hB : Below wr.heap.size wr W) (hG : W.grownBy w1 (blockOf V)) :
    Blk w1 gs 81 #[.int .i64 vars, .slice Q mq dq, .bool ph, .pointer (some ⟨g, 0, none⟩), .slice V nv cv, .int .i64 z, .slice S ns cs] ∧ CdSt w0 w1 h gs g vars Q mq dq q ph xss A n c L cl Y cy gm D t y none 0 0 [] z S ns cs = CdSt w0 w1 h gs g vars Q mq dq q ph xss A n c L cl Y cy gm D t y none 0 0 [] z S ns cs := by
  have h1 := d.keep hB
  exact ⟨h1.sb.grown hG (own_typ_ne h1.vo (Typed.of_blk h1.sb) (by decide)), rfl⟩
theorem CdSt.push (d : CdSt w0 wr h gs g vars Q mq dq q ph xss A n c L cl Y cy gm D t y V nv cv v z S ns cs) (hB : Below wr.heap.size wr W) {x : Int} (hO : Own 3 w1 h V' (nv + 1) cv' (v.map (Value.int .i64) ++ [Value.int .i64 x])) (hG : W.grownBy w1 (blockOf V))
    (hA : blockOf V' = blockOf V ∨ blockOf V' = some W.heap.size) : CdSt w0 (w1.setCell ⟨gs, 4, none⟩ (.slice V' (nv + 1) cv')) h gs g vars Q mq dq q ph xss A n c L cl Y cy gm D t y V' (nv + 1) cv' (v ++ [x]) z S ns cs := by
  have h1 := d.keep hB
  have rb := (d.push1 hB hG).1
  have hVlo : ∀ k, blockOf V = some k → h ≤ k := fun k hk => by
    rcases d.vo.form with ⟨rfl, _⟩ | ⟨g', cur, rfl, hg', _⟩
    · cases hk
    · cases hk; exact hg'
  have hbW : Below h W w1 := ⟨hG.os, hG.tape, hG.output, hG.size, fun k hk => hG.block k (Nat.lt_of_lt_of_le hk h1.hi) (fun e => by have := hVlo k e.symm; omega)⟩
  have hi1 : h ≤ w1.heap.size := Nat.le_trans h1.hi hG.size
  have hc := cutW_keep h1.hi hbW
  have hs1 : (cutW w1 h).heap.size = (cutW W h).heap.size := by rw [cutW_size h1.hi, cutW_size hi1]
  have nLs : blockOf L = none ∨ blockOf L ≠ blockOf V := by
    rcases d.nL with e | e
    · by_cases hL : blockOf L = none
      · exact .inl hL
      · exact .inr (by rw [e]; exact hL)
    · exact .inr fun e2 => e e2.symm
  have nYs : blockOf Y = none ∨ blockOf Y ≠ blockOf V := by
    rcases d.nY with e | e
    · by_cases hL : blockOf Y = none
      · exact .inl hL
      · exact .inr (by rw [e]; exact hL)
    · exact .inr fun e2 => e e2.symm
  have st1 : TrSt (cutW w1 h) w1 g A n c L cl Y cy gm D t y :=
    ⟨cutW_below hi1, by rw [hs1]; exact h1.tr.lo, h1.tr.tb.grown hG (own_typ_ne h1.vo (Typed.of_blk h1.tr.tb) (by decide)), by rw [hs1]; exact h1.tr.lits.kept hG nLs, by rw [hs1]; exact h1.tr.why.kept hG nYs, h1.tr.ne, h1.tr.mp.grown hG (fun e => own_map_ne h1.vo h1.tr.mp e.symm), h1.tr.has, by rw [hs1]; exact h1.tr.lm⟩
  have key : ∀ {base k e : Nat} {X : Option Addr} {xs : List Value}, Own 3 wr base X k e xs → (blockOf V = none ∨ blockOf V ≠ blockOf X) → (blockOf V' = none ∨ blockOf V' ≠ blockOf X) := fun ho hn => by
    rcases hA with h1 | h1
    · rw [h1]; exact hn
    · right
      rw [h1]
      exact fun e => ho.ltb hB.size e.symm
  obtain ⟨xs, hxs⟩ := h1.so
  have hT := Typed.of_blk rb
  have hg := grown_setCell w1 ⟨gs, 4, none⟩ (.slice V' (nv + 1) cv')
  obtain ⟨k1, k2⟩ := cut_set (i := 4) (u := .slice V' (nv + 1) cv') hi1 rb d.glo
  refine ⟨d.lo, Nat.le_trans hi1 hg.size, (h1.bl.trans (hbW.mono d.lo)).setCell (p := ⟨gs, 4, none⟩) d.glo _, st1.setFar hi1 rb d.gne d.gmne, k1 (h1.cz.keep hc), ?_, d.glo, ?_, key d.tr.lits d.nL, key d.tr.why d.nY, ⟨xs, k2 (hxs.keep hc)⟩, d.aq⟩
  · have := rb.set_ 4 (.slice V' (nv + 1) cv')
    simpa using this
  · have := hO.kept hg (hO.ne_typed hT (by decide))
    simpa using this
theorem CdSt.look (d : CdSt w0 wr h gs g vars Q mq dq q ph xss A n c L cl Y cy gm D t y V nv cv v z S ns cs) (ht : ∀ x ∈ t, I64 x) (hy : ∀ x ∈ y, I64 x) (hv : ∀ x ∈ v, I64 x) (hl : v.length = t.length) (hl' : y.length = t.length) : CdLook wr gs A n c xss t y v z := by
  have c3 := d.sb.cell 3
  have c4 := d.sb.cell 4
  have c5 := d.sb.cell 5
  have d0 := d.tr.tb.cell 0
  have d1 := d.tr.tb.cell 1
  have d2 := d.tr.tb.cell 2
  simp at c3 c4 c5 d0 d1 d2
  exact ⟨⟨g, L, cl, Y, cy, V, nv, cv, c3, d0, d1, d2, c4, d.tr.lits.ints ht, d.tr.why.ints hy, d.vo.ints hv, c5⟩, hl, hl', d.grid⟩
end
end Go.Proofs.YtlfgcblijfflfaaGreat

/- Contract of cdcl's propagate. (Printed by wip/tools/cdprop.py.) -/
namespace Go.Proofs.YtlfgcblijfflfaaGreat
open Go.RowKit Go.Maps Go.WideMaps
set_option linter.unusedSimpArgs false

/-- A search that went on. -/
def RetPr (w0 : World) (h gs g : Nat) (vars : Int) (Q : Option Addr) (mq dq : Nat) (q : List Int) (ph : Bool) (xss : List (List Int)) (A : Option Addr) (n c gm : Nat) (t y v : List Int) (z : Int) (S : Option Addr) (ns cs : Nat) (a : Int) (e : Ending) (w' : World) : Prop :=
  e = .returned (.int .i64 a) ∧ ∃ L cl Y cy D V nv cv, CdSt w0 w' h gs g vars Q mq dq q ph xss A n c L cl Y cy gm D t y V nv cv v z S ns cs

set_option maxHeartbeats 4000000 in
theorem propagate_any (w0 wr : World) (h gs g : Nat) (vars : Int) (Q : Option Addr) (mq dq : Nat) (q : List Int) (ph : Bool) (xss : List (List Int)) (A : Option Addr) (n c : Nat) (L : Option Addr) (cl : Nat) (Y : Option Addr) (cy gm : Nat) (D : DataW Unit) (t y : List Int) (V : Option Addr) (nv cv : Nat) (v : List Int) (z : Int) (S : Option Addr) (ns cs : Nat) (d : CdSt w0 wr h gs g vars Q mq dq q ph xss A n c L cl Y cy gm D t y V nv cv v z S ns cs)
    (v0 : 0 ≤ vars) (v1 : vars ≤ 1000000) (hc : ∀ x ∈ xss, Lits vars x) (ht : Lits vars t) (hy : y.length = t.length) (k : Nat) (hk : vars < k + t.length)
    (t' y' : List Int) (a : Int) (hr : Hid (runF xss k t y = (t', y', a))) :
    Calls Tryz.prog 41 #[.pointer (some ⟨gs, 0, none⟩)] wr (RetPr w0 h gs g vars Q mq dq q ph xss A n c gm t' y' (v ++ List.replicate (t'.length - v.length) z) z S ns cs a) := by
  obtain ⟨i0, hi0, hz0, hz1, hz2⟩ := info_parts int_info
  have hok := runF_ok v0 hc k t y ht hk
  rw [hr.out] at hok
  have htl : t'.length ≤ 1000000 := by have := hok.lits.len_le v0; simp only at this; omega
  have p0 := d.sb.cell 3
  simp at p0
  have H := Lib.hid d
  have HC := Lib.hid hc
  have HT := Lib.hid ht
  have HY := Lib.hid hy
  have HK := Lib.hid hk
  have lt0 := d.sb.lt
  clear d hc ht hy hk hok
  go_enter Tryz.func41, Tryz.ntmps41
  go_wp2_with fail
  refine (run_any (cutW wr h) wr g A n c L cl Y cy gm D t y H.out.tr xss H.out.cz.grid vars v0 v1 HC.out HT.out HY.out k HK.out t' y' a hr).mono ?_
  rintro e w2 ⟨rfl, L2, cl2, Y2, cy2, D2, hst2, hf2⟩
  have H3 := Lib.hid (H.out.frm hst2 hf2)
  have HVL : Hid (v.length = nv) := by have := H3.out.vo.len; rw [List.length_map] at this; exact this
  clear hst2 hf2 p0 H
  go_wp2_with fail
  go_loopg [9] (t'.length - v.length) (fun f _ wr => ∃ (j : Nat) (V : Option Addr) (nv cv : Nat), Hid (j + f = t'.length - v.length) ∧ Hid (CdSt w0 wr h gs g vars Q mq dq q ph xss A n c L2 cl2 Y2 cy2 gm D2 t' y' V nv cv (v ++ List.replicate j z) z S ns cs))
  case atStart => exact ⟨0, V, nv, cv, by simp [Hid], by simpa [Hid] using H3.out⟩
  case round =>
    clear H3
    obtain ⟨j, V, nv, cv, hjf, hst⟩ := hrel
    have HNV : Hid (v.length + j = nv) := by have := hst.out.vo.len; simp at this; exact this
    have c0 := hst.out.sb.cell 3
    have c1 := hst.out.sb.cell 4
    have c2 := hst.out.sb.cell 5
    have d1 := hst.out.tr.tb.cell 1
    simp at c0 c1 c2 d1
    have ltr := hst.out.sb.lt
    have ltg := hst.out.tr.tb.lt
    cases gk with
    | zero =>
      have hnl : ¬ nv < t'.length := by have := hjf.out; have := HNV.out; omega
      have dn : decide (nv < t'.length) = false := decide_eq_false hnl
      have hdone : Hid (CdSt w0 wr h gs g vars Q mq dq q ph xss A n c L2 cl2 Y2 cy2 gm D2 t' y' V nv cv (v ++ List.replicate (t'.length - v.length) z) z S ns cs) := by have := hjf.out; rw [← this]; exact hst
      go_wp2_with fail
      go_quiet (fail)
      go_wp2_with fail
      go_ret
      exact ⟨rfl, L2, cl2, Y2, cy2, D2, V, nv, cv, hdone.out.keep (below_drewN _ _)⟩
    | succ f =>
      have hnl : nv < t'.length := by have := hjf.out; have := HNV.out; omega
      have dn : decide (nv < t'.length) = true := decide_eq_true hnl
      go_wp2_with fail
      go_quiet (fail)
      go_wp2_with fail
      obtain ⟨wq, hwq⟩ : ∃ wq : World, wq = wr.drewN nq := ⟨_, rfl⟩
      have hbq : Below wr.heap.size wr wq := by rw [hwq]; exact below_drewN _ _
      have hstq := Lib.hid (hst.out.keep hbq)
      rw [← hwq]
      have b1 := keepBox hbq c1
      have b2 := keepBox hbq c2
      clear hwq hst c0 c1 c2 d1
      have hwz := hstq.out.hi
      have hS : wq.drew.cell? ⟨gs, 4, none⟩ = some (.slice V nv cv) ∧ wq.drew.cell? ⟨gs, 5, none⟩ = some (.int .i64 z) := ⟨keepBox (below_drewN wq 1) b1, keepBox (below_drewN wq 1) b2⟩
      refine wp_region_tail (fun w' => w'.cell? ⟨gs, 4, none⟩ = some (.slice V nv cv) ∧ w'.cell? ⟨gs, 5, none⟩ = some (.int .i64 z)) [13] (by kernel_rfl) ?_
      refine take0 (i := 0) (oi := _) (v := ?_) rfl (by kernel_rfl) (by kernel_rfl) (by kernel_rfl) (fun _ _ _ h => h) rfl (Or.inl ⟨by rfl, ?_⟩) (fun _ => hS) ?_
      rotate_left
      · intro w0; go_simp; with_reducible rfl
      (try simp only [Act.put, List.setIfInBounds_toArray, List.set_cons_zero, List.set_cons_succ])
      refine take0 (i := 1) (oi := _) (v := ?_) rfl (by kernel_rfl) (by kernel_rfl) (by kernel_rfl) (fun _ _ _ h => h) rfl (Or.inl ⟨by rfl, ?_⟩) (fun _ => hS) ?_
      rotate_left
      · intro w0; go_simp; with_reducible rfl
      (try simp only [Act.put, List.setIfInBounds_toArray, List.set_cons_zero, List.set_cons_succ])
      refine take0 (i := 2) (oi := _) (v := ?_) rfl (by kernel_rfl) (by kernel_rfl) (by kernel_rfl) (fun _ _ _ h => h) rfl (Or.inl ⟨by rfl, ?_⟩) (fun _ => hS) ?_
      rotate_left
      · intro w0; go_simp; with_reducible rfl
      (try simp only [Act.put, List.setIfInBounds_toArray, List.set_cons_zero, List.set_cons_succ])
      refine take0 (i := 3) (oi := _) (v := ?_) rfl (by kernel_rfl) (by kernel_rfl) (by kernel_rfl) (fun _ _ _ h => h) rfl (Or.inl ⟨by rfl, ?_⟩) (fun _ => hS) ?_
      rotate_left
      · intro w0; go_simp; with_reducible rfl
      (try simp only [Act.put, List.setIfInBounds_toArray, List.set_cons_zero, List.set_cons_succ])
      refine takeS (i := 4) (oi := _) (v := ?_) rfl (by kernel_rfl) (by kernel_rfl) (by kernel_rfl) (fun _ _ _ h => h) rfl (by kernel_rfl) (by kernel_rfl) (Or.inl ⟨by rfl, ?_⟩) hS ?_
      rotate_left
      · intro w0 hSw; (try dsimp only at hSw); go_simp; with_reducible rfl
      (try simp only [Act.put, List.setIfInBounds_toArray, List.set_cons_zero, List.set_cons_succ])
      refine take0 (i := 5) (oi := _) (v := ?_) rfl (by kernel_rfl) (by kernel_rfl) (by kernel_rfl) (fun _ _ _ h => h) rfl (Or.inl ⟨by rfl, ?_⟩) (fun _ => hS) ?_
      rotate_left
      · intro w0; go_simp; with_reducible rfl
      (try simp only [Act.put, List.setIfInBounds_toArray, List.set_cons_zero, List.set_cons_succ])
      refine take0 (i := 6) (oi := _) (v := ?_) rfl (by kernel_rfl) (by kernel_rfl) (by kernel_rfl) (fun _ _ _ h => h) rfl (Or.inl ⟨by rfl, ?_⟩) (fun _ => hS) ?_
      rotate_left
      · intro w0; go_simp; with_reducible rfl
      (try simp only [Act.put, List.setIfInBounds_toArray, List.set_cons_zero, List.set_cons_succ])
      refine take0 (i := 7) (oi := _) (v := ?_) rfl (by kernel_rfl) (by kernel_rfl) (by kernel_rfl) (fun _ _ _ h => h) rfl (Or.inl ⟨by rfl, ?_⟩) (fun _ => hS) ?_
      rotate_left
      · intro w0; go_simp; with_reducible rfl
      (try simp only [Act.put, List.setIfInBounds_toArray, List.set_cons_zero, List.set_cons_succ])
      refine takeS (i := 8) (oi := _) (v := ?_) rfl (by kernel_rfl) (by kernel_rfl) (by kernel_rfl) (fun _ _ _ h => h) rfl (by kernel_rfl) (by kernel_rfl) (Or.inl ⟨by rfl, ?_⟩) hS ?_
      rotate_left
      · intro w0 hSw; (try dsimp only at hSw); go_simp; with_reducible rfl
      (try simp only [Act.put, List.setIfInBounds_toArray, List.set_cons_zero, List.set_cons_succ])
      refine oneT (i := 9) (by kernel_rfl) rfl (by rfl) (fun K hK => ?_)
      go_simp
      have hS : ((wq.alloc (.cells #[.int .i64 z] 3)).drew).cell? ⟨gs, 4, none⟩ = some (.slice V nv cv) ∧ ((wq.alloc (.cells #[.int .i64 z] 3)).drew).cell? ⟨gs, 5, none⟩ = some (.int .i64 z) := ⟨keepBox (below_drew1 (below_new wq _)) b1, keepBox (below_drew1 (below_new wq _)) b2⟩
      refine hK _ _ (fun _ => hS) ?_
      clear hK
      (try simp only [Act.put, List.setIfInBounds_toArray, List.set_cons_zero, List.set_cons_succ])
      refine oneT (i := 10) (by kernel_rfl) rfl (by rfl) (fun K hK => ?_)
      refine wp_append_sl _ (.tmp 27) (.tmp 32) 22 rfl h 3 i0 _ 8 Tryz.underlying22 hi0 hz0 hz1 hz2 rfl V nv cv _ rfl (hstq.out.vo.keep (below_drew1 (below_new wq _))) (some ⟨wq.heap.size, 0, none⟩) 1 1 [.int .i64 z] rfl (sl_one wq 3 (.int .i64 z) rfl).drew1 (by simp [Value.oneCell']) (by simp only [maxLen]; omega) (by omega) (by simp; omega) ?_
      intro V1 cV1 w5 hO5 hG5 hA5
      obtain ⟨rb5, _⟩ := hstq.out.push1 (below_drew1 (below_new wq _)) hG5
      have e1 := rb5.cell 4
      have e2 := rb5.cell 5
      have g1 := rb5.frozen 4
      simp at e1 e2
      have HST5 := Lib.hid (hstq.out.push (below_drew1 (below_new wq _)) hO5 hG5 hA5)
      have hS : w5.cell? ⟨gs, 4, none⟩ = some (.slice V nv cv) ∧ w5.cell? ⟨gs, 5, none⟩ = some (.int .i64 z) := ⟨e1, e2⟩
      clear hO5 hG5 hA5 rb5
      refine hK _ _ (fun _ => hS) ?_
      clear hK
      (try simp only [Act.put, List.setIfInBounds_toArray, List.set_cons_zero, List.set_cons_succ])
      refine take0 (i := 11) (oi := _) (v := ?_) rfl (by kernel_rfl) (by kernel_rfl) (by kernel_rfl) (fun _ _ _ h => h) rfl (Or.inl ⟨by rfl, ?_⟩) (fun _ => hS) ?_
      rotate_left
      · intro w0; go_simp; with_reducible rfl
      (try simp only [Act.put, List.setIfInBounds_toArray, List.set_cons_zero, List.set_cons_succ])
      refine take0 (i := 12) (oi := _) (v := ?_) rfl (by kernel_rfl) (by kernel_rfl) (by kernel_rfl) (fun _ _ _ h => h) rfl (Or.inl ⟨by rfl, ?_⟩) (fun _ => hS) ?_
      rotate_left
      · intro w0; go_simp; with_reducible rfl
      (try simp only [Act.put, List.setIfInBounds_toArray, List.set_cons_zero, List.set_cons_succ])
      refine oneT (i := 13) (by kernel_rfl) rfl (by rfl) (fun K hK => ?_)
      go_simp
      refine hK _ _ (noT_no (by kernel_rfl)) ?_
      clear hK
      (try simp only [Act.put, List.setIfInBounds_toArray, List.set_cons_zero, List.set_cons_succ])
      refine doneT (by kernel_rfl) ?_ _
      go_wp2_with fail
      go_roundg f
      case measure => omega
      case rel => exact ⟨j + 1, V1, _, cV1, by have := hjf.out; show _ = _; omega, by rw [List.replicate_succ', ← List.append_assoc]; exact HST5⟩
end Go.Proofs.YtlfgcblijfflfaaGreat

/- Contract of cdcl's decide. (Printed by wip/tools/cddec.py.) -/
namespace Go.Proofs.YtlfgcblijfflfaaGreat
open Go.RowKit Go.Maps Go.WideMaps
set_option linter.unusedSimpArgs false

/-- A choice that may be made. -/
structure Choice (vars : Int) (q t : List Int) (x : Int) : Prop where
  ne : x ≠ 0
  bd : -vars ≤ x ∧ x ≤ vars
  no : x ∉ t ∧ -x ∉ t
  qs : x ∈ q ∨ ∀ l ∈ q, l ∈ t
/-- What comes of it: an asked literal that is false; all has a value; a choice. -/
def RetDc (w0 : World) (h gs g : Nat) (vars : Int) (Q : Option Addr) (mq dq : Nat) (q : List Int) (ph : Bool) (xss : List (List Int)) (A : Option Addr) (n c gm : Nat) (t y v : List Int) (z : Int) (S : Option Addr) (ns cs : Nat) (e : Ending) (w' : World) : Prop :=
  (∃ l, e = .returned (.tuple #[.bool false, .int .i64 l]) ∧ l ∈ q ∧ -l ∈ t ∧ l ≠ 0 ∧ ∃ L cl Y cy D V nv cv, CdSt w0 w' h gs g vars Q mq dq q ph xss A n c L cl Y cy gm D t y V nv cv v z S ns cs) ∨
  (e = .returned (.tuple #[.bool true, .int .i64 0]) ∧ (∀ l ∈ q, l ∈ t) ∧ (∀ x : Int, 1 ≤ x → x ≤ vars → x ∈ t ∨ -x ∈ t) ∧ ∃ L cl Y cy D V nv cv, CdSt w0 w' h gs g vars Q mq dq q ph xss A n c L cl Y cy gm D t y V nv cv v z S ns cs) ∨
  (∃ x, e = .returned (.tuple #[.bool false, .int .i64 0]) ∧ Choice vars q t x ∧ ∃ L cl Y cy D V nv cv, CdSt w0 w' h gs g vars Q mq dq q ph xss A n c L cl Y cy gm D (t ++ [x]) (y ++ [-1]) V nv cv (v ++ [z + 1]) (z + 1) S ns cs)

set_option maxHeartbeats 8000000 in
set_option maxRecDepth 100000 in
theorem decide_any (w0 wr : World) (h gs g : Nat) (vars : Int) (Q : Option Addr) (mq dq : Nat) (q : List Int) (ph : Bool) (xss : List (List Int)) (A : Option Addr) (n c : Nat) (L : Option Addr) (cl : Nat) (Y : Option Addr) (cy gm : Nat) (D : DataW Unit) (t y : List Int) (V : Option Addr) (nv cv : Nat) (v : List Int) (z : Int) (S : Option Addr) (ns cs : Nat) (d : CdSt w0 wr h gs g vars Q mq dq q ph xss A n c L cl Y cy gm D t y V nv cv v z S ns cs)
    (v0 : 0 ≤ vars) (v1 : vars ≤ 1000) (hq : Lits vars q) (ht : Lits vars t) (hy : y.length = t.length) (hvl : v.length = t.length) (hz : 0 ≤ z ∧ z ≤ 1000000) :
    Calls Tryz.prog 46 #[.pointer (some ⟨gs, 0, none⟩)] wr (RetDc w0 h gs g vars Q mq dq q ph xss A n c gm t y v z S ns cs) := by
  obtain ⟨w, hw⟩ : ∃ w : World, w = wr := ⟨_, rfl⟩
  subst hw
  obtain ⟨i0, hi0, hz0, hz1, hz2⟩ := info_parts int_info
  have H := Lib.hid d
  have HQ := Lib.hid hq
  have HT := Lib.hid ht
  have HY := Lib.hid hy
  have HV := Lib.hid hvl
  have hq0 := d.sb.cell 1
  simp at hq0
  have lt0 := d.sb.lt
  have HA := Lib.hid d.asked
  have hbq := HA.out.bd
  have hlq := Lib.hid HA.out.len
  clear d hq ht hy hvl
  go_enter Tryz.func46, Tryz.ntmps46
  go_wp2_with fail
  clear hq0 lt0
  go_loopw [4, 13] (fun s4 s13 wr => ∃ (k m : Nat) (nx : Int), k ≤ mq ∧ s4 = .int .i64 nx ∧ s13 = .int .i64 k ∧ Hid (wr = w.drewN m) ∧ Hid ((nx = 0 ∧ ∀ x ∈ q.take k, x ∈ t) ∨ (nx ≠ 0 ∧ nx ∈ q ∧ nx ∉ t ∧ -nx ∉ t))) (fun _ i _ => mq - (intOf i).toNat)
  case atStart => exact ⟨0, 0, 0, Nat.zero_le _, rfl, rfl, rfl, .inl ⟨rfl, by simp⟩⟩
  case round =>
    obtain ⟨k, m, nx, hk, rfl, rfl, hwr, hnx⟩ := hrel
    have hbw : Below w.heap.size w wr := by rw [hwr.out]; exact below_drewN _ _
    have HR := Lib.hid (H.out.keep hbw)
    have HAR := Lib.hid (HA.out.keep hbw)
    have c3 := HR.out.sb.cell 3
    simp at c3
    have ltr := HR.out.sb.lt
    have LK := Lib.hid HR.out.tr.look
    by_cases hkn : k < mq
    · obtain ⟨b, off, l, hAe, hbb, hcell, l1, l2, hlk⟩ := HAR.out.round hkn
      have hlm := List.mem_of_getElem? hlk.out
      have hlb := HQ.out.1 l hlm
      have hl64 : I64 (-l) := by unfold I64; omega
      have hl64' : I64 l := by unfold I64; omega
      have htk := Lib.hid (take_snoc_of hlk.out)
      have HLM := Lib.hid hlm
      obtain ⟨q1, hq1⟩ : ∃ r, Hid (hasB t (-l) = r) := ⟨_, rfl⟩
      subst hAe
      clear hlk hlm
      go_wp2_with fail
      refine (has_trail wr g gm t.length D t LK.out (-l) hl64 q1 hq1).mono ?_
      rintro e w1 ⟨rfl, m1, hw1⟩
      obtain rfl : w1 = wr.drewN m1 := hw1
      have hb1 : Below wr.heap.size wr (wr.drewN m1) := below_drewN _ _
      have HR1 := Lib.hid (HR.out.keep hb1)
      have c3b := keepBox hb1 c3
      have LK1 := Lib.hid (LK.out.drewN m1)
      have ltr1 : gs < (wr.drewN m1).heap.size := HR1.out.sb.lt
      clear hb1
      cases q1
      · have hnl : Hid (-l ∉ t) := hasB_false.1 hq1.out
        by_cases hn0 : nx = 0
        · subst hn0
          have hal : Hid (∀ x ∈ q.take k, x ∈ t) := by rcases hnx.out with h | h; exact h.2; exact absurd rfl h.1
          obtain ⟨q2, hq2⟩ : ∃ r, Hid (hasB t l = r) := ⟨_, rfl⟩
          go_wp2_with fail
          refine (has_trail (wr.drewN m1) g gm t.length D t LK1.out l hl64' q2 hq2).mono ?_
          rintro e w2 ⟨rfl, m2, hw2⟩
          obtain rfl : w2 = (wr.drewN m1).drewN m2 := hw2
          cases q2
          · have hnl2 : Hid (l ∉ t) := hasB_false.1 hq2.out
            go_wp2_with fail
            go_roundw
            case rel => exact ⟨k + 1, m + (m1 + m2), l, by omega, rfl, by go_num, by show _ = _; simp only [hwr.out, World.drewN_drewN, Nat.add_assoc], .inr ⟨hlb.1, HLM.out, hnl2.out, hnl.out⟩⟩
            case measure => simp [intOf]; omega
          · have hal2 : Hid (∀ x ∈ q.take (k + 1), x ∈ t) := fun x hx => by
              rw [htk.out] at hx
              rcases List.mem_append.1 hx with hx | hx
              · exact hal.out x hx
              · simp at hx; subst hx; exact hasB_iff.1 hq2.out
            go_wp2_with fail
            go_roundw
            case rel => exact ⟨k + 1, m + (m1 + m2), 0, by omega, rfl, by go_num, by show _ = _; simp only [hwr.out, World.drewN_drewN, Nat.add_assoc], .inl ⟨rfl, hal2.out⟩⟩
            case measure => simp [intOf]; omega
        · have dn : (nx == 0) = false := by rw [beq_eq_false_iff_ne]; exact hn0
          have hg0 : Hid (nx ∈ q ∧ nx ∉ t ∧ -nx ∉ t) := by rcases hnx.out with h | h; exact absurd h.1 hn0; exact h.2
          go_wp2_with fail
          go_roundw
          case rel => exact ⟨k + 1, m + m1, nx, by omega, rfl, by go_num, by show _ = _; rw [hwr.out, World.drewN_drewN], .inr ⟨hn0, hg0.out⟩⟩
          case measure => simp [intOf]; omega
      · have hil : Hid (-l ∈ t) := hasB_iff.1 hq1.out
        go_wp2_with fail
        go_ret2
        exact .inl ⟨l, rfl, HLM.out, hil.out, hlb.1, L, cl, Y, cy, D, V, nv, cv, HR1.out⟩
    · obtain rfl : k = mq := by omega
      have hnx2 : Hid ((nx = 0 ∧ (∀ x ∈ q, x ∈ t) ∧ ∀ x : Int, 1 ≤ x → x < ((1 : Nat) : Int) → x ∈ t ∨ -x ∈ t) ∨ Choice vars q t nx) := by
        rcases hnx.out with h | h
        · refine .inl ⟨h.1, ?_, fun x h1 h2 => by omega⟩
          have := h.2
          rw [List.take_of_length_le (by rw [hlq.out]; exact Nat.le_refl _)] at this
          exact this
        · exact .inr ⟨h.1, (HQ.out.1 nx h.2.1).2, h.2.2, .inl h.2.1⟩
      have HW0 := hwr
      obtain ⟨wz, hwz⟩ : ∃ z : World, z = wr := ⟨_, rfl⟩
      subst hwz
      clear hnx hwr HAR HA hbw H
      go_wp2_with fail
      clear c3 ltr
      go_loopw [4, 7] (fun s4 s7 wr => ∃ (vv m : Nat) (nx : Int), 1 ≤ vv ∧ (vv : Int) ≤ vars + 1 ∧ s4 = .int .i64 nx ∧ s7 = .int .i64 vv ∧ Hid (wr = wz.drewN m) ∧ Hid ((nx = 0 ∧ (∀ x ∈ q, x ∈ t) ∧ ∀ x : Int, 1 ≤ x → x < (vv : Int) → x ∈ t ∨ -x ∈ t) ∨ Choice vars q t nx)) (fun _ i _ => (vars + 2).toNat - (intOf i).toNat)
      case atStart => exact ⟨1, 0, nx, Nat.le_refl _, by omega, rfl, rfl, rfl, hnx2⟩
      case round =>
        clear hnx2
        obtain ⟨vv, mm, nx, hv1, hvv, rfl, rfl, hwr, hnx⟩ := hrel
        have hbw : Below wz.heap.size wz wr := by rw [hwr.out]; exact below_drewN _ _
        have HR2 := Lib.hid (HR.out.keep hbw)
        have c0 := HR2.out.sb.cell 0
        have c2 := HR2.out.sb.cell 2
        have c3 := HR2.out.sb.cell 3
        have c5 := HR2.out.sb.cell 5
        simp at c0 c2 c3 c5
        have ltr := HR2.out.sb.lt
        have LK2 := Lib.hid HR2.out.tr.look
        by_cases hn0 : nx = 0
        · subst hn0
          have hall : Hid ((∀ x ∈ q, x ∈ t) ∧ ∀ x : Int, 1 ≤ x → x < (vv : Int) → x ∈ t ∨ -x ∈ t) := by rcases hnx.out with h | h; exact h.2; exact absurd rfl h.ne
          clear hnx
          by_cases hvn : (vv : Int) ≤ vars
          · have dv : decide ((vv : Int) ≤ vars) = true := decide_eq_true hvn
            have h64 : I64 (vv : Int) := by unfold I64; omega
            have h64' : I64 (-(vv : Int)) := by unfold I64; omega
            obtain ⟨q1, hq1⟩ : ∃ r, Hid (hasB t (vv : Int) = r) := ⟨_, rfl⟩
            go_wp2_with fail
            refine (has_trail wr g gm t.length D t LK2.out (vv : Int) h64 q1 hq1).mono ?_
            rintro e w1 ⟨rfl, m1, hw1⟩
            obtain rfl : w1 = wr.drewN m1 := hw1
            have hb1 : Below wr.heap.size wr (wr.drewN m1) := below_drewN _ _
            have c2b := keepBox hb1 c2
            have c3b := keepBox hb1 c3
            have LK3 := Lib.hid (LK2.out.drewN m1)
            have ltr1 := (cell_lt c3b).1
            clear hb1
            cases q1
            · obtain ⟨q2, hq2⟩ : ∃ r, Hid (hasB t (-(vv : Int)) = r) := ⟨_, rfl⟩
              go_wp2_with fail
              refine (has_trail (wr.drewN m1) g gm t.length D t LK3.out (-(vv : Int)) h64' q2 hq2).mono ?_
              rintro e w2 ⟨rfl, m2, hw2⟩
              obtain rfl : w2 = (wr.drewN m1).drewN m2 := hw2
              have hb2 : Below (wr.drewN m1).heap.size (wr.drewN m1) ((wr.drewN m1).drewN m2) := below_drewN _ _
              have c2c := keepBox hb2 c2b
              have ltr2 := (cell_lt c2c).1
              clear hb2
              have HWW : Hid (wr.drewN (m1 + m2) = wz.drewN (mm + (m1 + m2))) := by show _ = _; simp only [hwr.out, World.drewN_drewN, Nat.add_assoc]
              cases q2
              · have hno : Hid ((vv : Int) ∉ t ∧ -(vv : Int) ∉ t) := ⟨hasB_false.1 hq1.out, hasB_false.1 hq2.out⟩
                cases ph
                · have hch : Hid (Choice vars q t (-(vv : Int))) := ⟨by omega, by omega, ⟨hno.out.2, by rw [Int.neg_neg]; exact hno.out.1⟩, .inr hall.out.1⟩
                  go_wp2_with fail
                  go_roundw
                  case rel => exact ⟨vv + 1, mm + (m1 + m2), -(vv : Int), by omega, by omega, by go_num, by go_num, HWW, .inr hch.out⟩
                  case measure => simp [intOf]; omega
                · have hch : Hid (Choice vars q t (vv : Int)) := ⟨by omega, by omega, hno.out, .inr hall.out.1⟩
                  go_wp2_with fail
                  go_roundw
                  case rel => exact ⟨vv + 1, mm + (m1 + m2), (vv : Int), by omega, by omega, by go_num, by go_num, HWW, .inr hch.out⟩
                  case measure => simp [intOf]; omega
              · have hall2 : Hid ((∀ x ∈ q, x ∈ t) ∧ ∀ x : Int, 1 ≤ x → x < ((vv + 1 : Nat) : Int) → x ∈ t ∨ -x ∈ t) := ⟨hall.out.1, fun x h1 h2 => by
                  by_cases e : x = (vv : Int)
                  · rw [e]; exact .inr (hasB_iff.1 hq2.out)
                  · exact hall.out.2 x h1 (by omega)⟩
                go_wp2_with fail
                go_roundw
                case rel => exact ⟨vv + 1, mm + (m1 + m2), 0, by omega, by omega, rfl, by go_num, HWW, .inl ⟨rfl, hall2.out⟩⟩
                case measure => simp [intOf]; omega
            · have hall2 : Hid ((∀ x ∈ q, x ∈ t) ∧ ∀ x : Int, 1 ≤ x → x < ((vv + 1 : Nat) : Int) → x ∈ t ∨ -x ∈ t) := ⟨hall.out.1, fun x h1 h2 => by
                by_cases e : x = (vv : Int)
                · rw [e]; exact .inl (hasB_iff.1 hq1.out)
                · exact hall.out.2 x h1 (by omega)⟩
              go_wp2_with fail
              go_roundw
              case rel => exact ⟨vv + 1, mm + m1, 0, by omega, by omega, rfl, by go_num, by show _ = _; rw [hwr.out, World.drewN_drewN], .inl ⟨rfl, hall2.out⟩⟩
              case measure => simp [intOf]; omega
          · have dv : decide ((vv : Int) ≤ vars) = false := decide_eq_false hvn
            have hall2 : Hid (∀ x : Int, 1 ≤ x → x ≤ vars → x ∈ t ∨ -x ∈ t) := fun x h1 h2 => hall.out.2 x h1 (by omega)
            go_wp2_with fail
            go_ret2
            exact .inr (.inl ⟨rfl, hall.out.1, hall2.out, L, cl, Y, cy, D, V, nv, cv, HR2.out⟩)
        · have dn : (nx == 0) = false := by rw [beq_eq_false_iff_ne]; exact hn0
          have hch : Hid (Choice vars q t nx) := by rcases hnx.out with h | h; exact absurd h.1 hn0; exact h
          have f5 := HR2.out.sb.frozen 5
          have hnb := hch.out.bd
          clear hnx
          go_wp2_with fail
          obtain ⟨wg, hwg⟩ : ∃ wg : World, wg = wr.setCell ⟨gs, 5, none⟩ (.int .i64 (z + 1)) := ⟨_, rfl⟩
          have HG := Lib.hid (HR2.out.setLev (z + 1))
          rw [← hwg] at HG
          have k3 := HG.out.sb.cell 3
          simp at k3
          have ltg := HG.out.sb.lt
          (try rw [← hwg])
          clear hwg c0 c2 c3 c5 ltr f5 HR2 LK2 hbw hwr
          have htl : t.length ≤ 1000 := by have := HT.out.len_le v0; omega
          go_wp2_with fail
          refine (add_any (cutW wg h) wg g A n c L cl Y cy gm D t y HG.out.tr nx (-1) (by unfold I64; omega) (by omega) (by rw [HY.out]; omega)).mono ?_
          rintro e w3 ⟨rfl, L3, cl3, Y3, cy3, D3, hst3, hf3⟩
          have hstq := Lib.hid (HG.out.frm hst3 hf3)
          have b0 := hstq.out.sb.cell 3
          have b1 := hstq.out.sb.cell 4
          have b2 := hstq.out.sb.cell 5
          simp at b0 b1 b2
          have HNV : Hid (nv ≤ 1000) := by have := hstq.out.vo.len; rw [List.length_map, HV.out] at this; show _ ≤ _; omega
          have hnv := HNV.out
          have ltr := hstq.out.sb.lt
          have hwz := hstq.out.hi
          clear hst3 hf3 k3 ltg HG b0
          go_wp2_with fail
          have hS : w3.drew.cell? ⟨gs, 4, none⟩ = some (.slice V nv cv) ∧ w3.drew.cell? ⟨gs, 5, none⟩ = some (.int .i64 (z + 1)) := ⟨keepBox (below_drewN w3 1) b1, keepBox (below_drewN w3 1) b2⟩
          refine wp_region_tail (fun w' => w'.cell? ⟨gs, 4, none⟩ = some (.slice V nv cv) ∧ w'.cell? ⟨gs, 5, none⟩ = some (.int .i64 (z + 1))) [13] (by kernel_rfl) ?_
          refine take0 (i := 0) (oi := _) (v := ?_) rfl (by kernel_rfl) (by kernel_rfl) (by kernel_rfl) (fun _ _ _ h => h) rfl (Or.inl ⟨by rfl, ?_⟩) (fun _ => hS) ?_
          rotate_left
          · intro w0; go_simp; with_reducible rfl
          (try simp only [Act.put, List.setIfInBounds_toArray, List.set_cons_zero, List.set_cons_succ])
          refine take0 (i := 1) (oi := _) (v := ?_) rfl (by kernel_rfl) (by kernel_rfl) (by kernel_rfl) (fun _ _ _ h => h) rfl (Or.inl ⟨by rfl, ?_⟩) (fun _ => hS) ?_
          rotate_left
          · intro w0; go_simp; with_reducible rfl
          (try simp only [Act.put, List.setIfInBounds_toArray, List.set_cons_zero, List.set_cons_succ])
          refine take0 (i := 2) (oi := _) (v := ?_) rfl (by kernel_rfl) (by kernel_rfl) (by kernel_rfl) (fun _ _ _ h => h) rfl (Or.inl ⟨by rfl, ?_⟩) (fun _ => hS) ?_
          rotate_left
          · intro w0; go_simp; with_reducible rfl
          (try simp only [Act.put, List.setIfInBounds_toArray, List.set_cons_zero, List.set_cons_succ])
          refine take0 (i := 3) (oi := _) (v := ?_) rfl (by kernel_rfl) (by kernel_rfl) (by kernel_rfl) (fun _ _ _ h => h) rfl (Or.inl ⟨by rfl, ?_⟩) (fun _ => hS) ?_
          rotate_left
          · intro w0; go_simp; with_reducible rfl
          (try simp only [Act.put, List.setIfInBounds_toArray, List.set_cons_zero, List.set_cons_succ])
          refine takeS (i := 4) (oi := _) (v := ?_) rfl (by kernel_rfl) (by kernel_rfl) (by kernel_rfl) (fun _ _ _ h => h) rfl (by kernel_rfl) (by kernel_rfl) (Or.inl ⟨by rfl, ?_⟩) hS ?_
          rotate_left
          · intro w0 hSw; (try dsimp only at hSw); go_simp; with_reducible rfl
          (try simp only [Act.put, List.setIfInBounds_toArray, List.set_cons_zero, List.set_cons_succ])
          refine take0 (i := 5) (oi := _) (v := ?_) rfl (by kernel_rfl) (by kernel_rfl) (by kernel_rfl) (fun _ _ _ h => h) rfl (Or.inl ⟨by rfl, ?_⟩) (fun _ => hS) ?_
          rotate_left
          · intro w0; go_simp; with_reducible rfl
          (try simp only [Act.put, List.setIfInBounds_toArray, List.set_cons_zero, List.set_cons_succ])
          refine take0 (i := 6) (oi := _) (v := ?_) rfl (by kernel_rfl) (by kernel_rfl) (by kernel_rfl) (fun _ _ _ h => h) rfl (Or.inl ⟨by rfl, ?_⟩) (fun _ => hS) ?_
          rotate_left
          · intro w0; go_simp; with_reducible rfl
          (try simp only [Act.put, List.setIfInBounds_toArray, List.set_cons_zero, List.set_cons_succ])
          refine take0 (i := 7) (oi := _) (v := ?_) rfl (by kernel_rfl) (by kernel_rfl) (by kernel_rfl) (fun _ _ _ h => h) rfl (Or.inl ⟨by rfl, ?_⟩) (fun _ => hS) ?_
          rotate_left
          · intro w0; go_simp; with_reducible rfl
          (try simp only [Act.put, List.setIfInBounds_toArray, List.set_cons_zero, List.set_cons_succ])
          refine takeS (i := 8) (oi := _) (v := ?_) rfl (by kernel_rfl) (by kernel_rfl) (by kernel_rfl) (fun _ _ _ h => h) rfl (by kernel_rfl) (by kernel_rfl) (Or.inl ⟨by rfl, ?_⟩) hS ?_
          rotate_left
          · intro w0 hSw; (try dsimp only at hSw); go_simp; with_reducible rfl
          (try simp only [Act.put, List.setIfInBounds_toArray, List.set_cons_zero, List.set_cons_succ])
          refine oneT (i := 9) (by kernel_rfl) rfl (by rfl) (fun K hK => ?_)
          go_simp
          have hS : ((w3.alloc (.cells #[.int .i64 (z + 1)] 3)).drew).cell? ⟨gs, 4, none⟩ = some (.slice V nv cv) ∧ ((w3.alloc (.cells #[.int .i64 (z + 1)] 3)).drew).cell? ⟨gs, 5, none⟩ = some (.int .i64 (z + 1)) := ⟨keepBox (below_drew1 (below_new w3 _)) b1, keepBox (below_drew1 (below_new w3 _)) b2⟩
          refine hK _ _ (fun _ => hS) ?_
          clear hK
          (try simp only [Act.put, List.setIfInBounds_toArray, List.set_cons_zero, List.set_cons_succ])
          refine oneT (i := 10) (by kernel_rfl) rfl (by rfl) (fun K hK => ?_)
          refine wp_append_sl _ (.tmp 93) (.tmp 98) 22 rfl h 3 i0 _ 8 Tryz.underlying22 hi0 hz0 hz1 hz2 rfl V nv cv _ rfl (hstq.out.vo.keep (below_drew1 (below_new w3 _))) (some ⟨w3.heap.size, 0, none⟩) 1 1 [.int .i64 (z + 1)] rfl (sl_one w3 3 (.int .i64 (z + 1)) rfl).drew1 (by simp [Value.oneCell']) (by simp only [maxLen]; omega) (by omega) (by simp; omega) ?_
          intro V1 cV1 w5 hO5 hG5 hA5
          obtain ⟨rb5, _⟩ := hstq.out.push1 (below_drew1 (below_new w3 _)) hG5
          have e1 := rb5.cell 4
          have e2 := rb5.cell 5
          have g1 := rb5.frozen 4
          simp at e1 e2
          have HST5 := Lib.hid (hstq.out.push (below_drew1 (below_new w3 _)) hO5 hG5 hA5)
          have hS : w5.cell? ⟨gs, 4, none⟩ = some (.slice V nv cv) ∧ w5.cell? ⟨gs, 5, none⟩ = some (.int .i64 (z + 1)) := ⟨e1, e2⟩
          clear hO5 hG5 hA5 rb5
          refine hK _ _ (fun _ => hS) ?_
          clear hK
          (try simp only [Act.put, List.setIfInBounds_toArray, List.set_cons_zero, List.set_cons_succ])
          refine take0 (i := 11) (oi := _) (v := ?_) rfl (by kernel_rfl) (by kernel_rfl) (by kernel_rfl) (fun _ _ _ h => h) rfl (Or.inl ⟨by rfl, ?_⟩) (fun _ => hS) ?_
          rotate_left
          · intro w0; go_simp; with_reducible rfl
          (try simp only [Act.put, List.setIfInBounds_toArray, List.set_cons_zero, List.set_cons_succ])
          refine take0 (i := 12) (oi := _) (v := ?_) rfl (by kernel_rfl) (by kernel_rfl) (by kernel_rfl) (fun _ _ _ h => h) rfl (Or.inl ⟨by rfl, ?_⟩) (fun _ => hS) ?_
          rotate_left
          · intro w0; go_simp; with_reducible rfl
          (try simp only [Act.put, List.setIfInBounds_toArray, List.set_cons_zero, List.set_cons_succ])
          refine oneT (i := 13) (by kernel_rfl) rfl (by rfl) (fun K hK => ?_)
          go_simp
          refine hK _ _ (noT_no (by kernel_rfl)) ?_
          clear hK
          (try simp only [Act.put, List.setIfInBounds_toArray, List.set_cons_zero, List.set_cons_succ])
          refine doneT (by kernel_rfl) ?_ _
          go_wp2_with fail
          go_ret2
          exact .inr (.inr ⟨nx, rfl, hch.out, L3, cl3, Y3, cy3, D3, V1, _, cV1, HST5.out⟩)
end Go.Proofs.YtlfgcblijfflfaaGreat

/- append to a slice that is full (its capacity is its length), whoever made it: all goes over into a new block. -/
namespace Go.Proofs.YtlfgcblijfflfaaGreat
open Go.RowKit
section
variable {P : Program} (w : World)
theorem run_append_full (base : Nat) (t ty e : TypeId) (i : TypeInfo) (z : Value) (bytes : Nat) (ht : P.underlying t = some (.slice e)) (hi : P.info? e = some i) (hz : i.zero = some z)
    (hsize : i.size = 1) (hby : i.bytes = bytes) (hzs : z.cells.size = 1)
    (B : Option Addr) (n : Nat) (xs : List Value) (hB : Sl w B n n xs)
    (ad : Addr) (m c : Nat) (news : List Value) (hr : Sl w (some ad) m c news) (hm : 0 < m)
    (h63 : n + m ≤ maxLen) (hbytes : (n + m) * bytes ≤ 140737488355328) (hbase : base ≤ w.heap.size) :
    ∃ d' w', (Builtin.append_ #[t, t] ty #[.slice B n n, .slice (some ad) m c]).run P w = .ok (.slice (some ⟨w.heap.size, 0, none⟩) (n + m) d') w' ∧ Own e w' base (some ⟨w.heap.size, 0, none⟩) (n + m) d' (xs ++ news) ∧ Below w.heap.size w w' := by
  have hsmall : n + m ≤ 9223372036854775807 := by simp only [maxLen] at h63; omega
  have hxl := hB.len
  have hnl := hr.len
  have hcells : ∀ j u, news[j]? = some u → w.cell? (ad.add j) = some u := by
    intro j u hu
    have hj : j < m := by
      rw [← hr.len]
      exact (List.getElem?_eq_some_iff.1 hu).1
    obtain ⟨b, off, h, _, hc⟩ := hr.at_ (by omega)
    cases h
    have := hc j hj
    rw [hu] at this
    unfold Addr.add
    by_cases h0 : j = 0
    · subst h0; simpa using this
    · simpa [h0] using this
  have grown : ∀ (old : Nat),
      Own e (w.drew.alloc (.cells (xs.toArray ++ news.toArray ++ Builtin.zeroCells z.cells (grownCap w (n + m) old e - (n + m))) e)) base (some ⟨w.heap.size, 0, none⟩) (n + m) (grownCap w (n + m) old e) (xs ++ news) ∧
      Below w.heap.size w (w.drew.alloc (.cells (xs.toArray ++ news.toArray ++ Builtin.zeroCells z.cells (grownCap w (n + m) old e - (n + m))) e)) := by
    intro old
    have hge := grownCap_ge w (n + m) old e
    have hcm : grownCap w (n + m) old e ≤ maxLen := grownCap_le_maxLen w (n + m) old e h63
    refine ⟨⟨by rw [List.length_append, hxl, hnl, Nat.mul_one], .inr ⟨w.heap.size, _, _, rfl, hbase, heap_alloc_new w.drew _, hge, hcm, ?_, ?_⟩⟩, ⟨rfl, rfl, rfl, by simp, fun k hk => heap_alloc_old w.drew _ hk⟩⟩
    · simp only [Array.size_append, List.size_toArray, size_zeroCells, hzs, hxl, hnl, Nat.mul_one]
      omega
    · simp only [Array.toList_append, List.append_assoc]
      rw [← List.append_assoc, Nat.mul_one, show n + m = (xs ++ news).length by rw [List.length_append, hxl, hnl]]
      exact List.take_left
  rcases B with _ | b
  · have hn : n = 0 := by
      rcases Nat.eq_zero_or_pos n with h0 | h0
      · exact h0
      · obtain ⟨b, off, h, _⟩ := hB.at_ h0
        cases h
    subst hn
    have hx : xs = [] := List.eq_nil_of_length_eq_zero hxl
    subst hx
    have hr' := run_append_nil (P := P) w t ty e i z ht hi hz ad m c news (by rw [hsize, hnl, Nat.mul_one]) hcells hm (by omega) (by have hb := hbytes; simp only [Nat.zero_add] at hb; rw [hby]; omega)
    have hgr := grown 0
    simp only [Nat.zero_add, List.nil_append, Array.empty_append] at hgr ⊢
    exact ⟨_, _, hr', hgr.1, hgr.2⟩
  · have holds : ∀ j u, xs[j]? = some u → w.cell? (b.add j) = some u := by
      intro j u hu
      have hj : j < n := by
        rw [← hB.len]
        exact (List.getElem?_eq_some_iff.1 hu).1
      obtain ⟨b', off, h, _, hc⟩ := hB.at_ (by omega)
      cases h
      have := hc j hj
      rw [hu] at this
      unfold Addr.add
      by_cases h0 : j = 0
      · subst h0; simpa using this
      · simpa [h0] using this
    have hr' := run_append_grow (P := P) w t ty e i z ht hi hz b n n xs (by rw [hsize, hxl, Nat.mul_one]) holds ad m c news (by rw [hsize, hnl, Nat.mul_one]) hcells (by omega) (by omega) (growslice_fits (by omega) (by rw [hby]; exact hbytes))
    have hgr := grown n
    exact ⟨_, _, hr', hgr.1, hgr.2⟩
theorem wp_append_full {o : Oper} {a : Act} {K : Act → World → Prop} {Q : Exit → Act → World → Prop} (s x : Operand) (t : TypeId)
    (ho : o.op = .call { callee := .builtin .append, args := #[s, x], argTypes := #[t, t] })
    (base : Nat) (e : TypeId) (i : TypeInfo) (z : Value) (bytes : Nat) (ht : P.underlying t = some (.slice e)) (hi : P.info? e = some i) (hz : i.zero = some z)
    (hsize : i.size = 1) (hby : i.bytes = bytes) (hzs : z.cells.size = 1)
    (B : Option Addr) (n : Nat) (xs : List Value) (hs : a.eval s = .slice B n n) (hB : Sl w B n n xs)
    (ad : Addr) (m c : Nat) (news : List Value) (hx : a.eval x = .slice (some ad) m c) (hr : Sl w (some ad) m c news) (hm : 0 < m)
    (h63 : n + m ≤ maxLen) (hbytes : (n + m) * bytes ≤ 140737488355328) (hbase : base ≤ w.heap.size)
    (h : ∀ d' w', Own e w' base (some ⟨w.heap.size, 0, none⟩) (n + m) d' (xs ++ news) → Below w.heap.size w w' → K (a.put o.dst (.slice (some ⟨w.heap.size, 0, none⟩) (n + m) d')) w') : o.wp P a w K Q := by
  obtain ⟨d', w', hrun, h2, h3⟩ := run_append_full (P := P) w base t o.type e i z bytes ht hi hz hsize hby hzs B n xs hB ad m c news hr hm h63 hbytes hbase
  unfold Oper.wp execOp
  simp only [ho, resolve, invoke, builtin, Sem.run_bind, Sem.run_pure, Result.andThen_ok, List.map_toArray, List.map_cons, List.map_nil, hs, hx, hrun]
  exact h d' w' h2 h3
end
end Go.Proofs.YtlfgcblijfflfaaGreat

/- Contract of cdcl's learn. (Printed by wip/tools/cdlearn.py.) -/
namespace Go.Proofs.YtlfgcblijfflfaaGreat
open Go.RowKit Go.Maps Go.WideMaps
set_option linter.unusedSimpArgs false

section
variable {P : Program} (w : World)
theorem wp_append_step {o : Oper} {a : Act} {K : Act → World → Prop} {Q : Exit → Act → World → Prop} (s x : Operand) (t : TypeId)
    (ho : o.op = .call { callee := .builtin .append, args := #[s, x], argTypes := #[t, t] })
    (base : Nat) (e : TypeId) (i : TypeInfo) (z : Value) (ht : P.underlying t = some (.slice e)) (hi : P.info? e = some i) (hz : i.zero = some z)
    (hsize : i.size = 9) (hby : i.bytes = 120) (hzs : z.cells.size = 9)
    (B : Option Addr) (n d : Nat) (xs : List Value) (hs : a.eval s = .slice B n d) (hown : w.ownsRow base e 9 (.slice B n d) n xs)
    (b : Nat) (news : List Value) (hx : a.eval x = .slice (some ⟨b, 0, none⟩) 1 1) (hl : news.length = 9) (hc : ∀ j u, news[j]? = some u → w.cell? ⟨b, j, none⟩ = some u) (h1 : ∀ u ∈ news, u.oneCell' = true)
    (h63 : n + 1 ≤ maxLen) (hbytes : (n + 1) * 120 ≤ 140737488355328) (hbase : base ≤ w.heap.size)
    (h : ∀ B' d' w', w'.ownsRow base e 9 (.slice B' (n + 1) d') (n + 1) (xs ++ news) → w.grownBy w' (blockOf B) → K (a.put o.dst (.slice B' (n + 1) d')) w') : o.wp P a w K Q := by
  have form : ∀ (v' : Value) (w' : World), w'.ownsRow base e 9 v' (n + 1) (xs ++ news) → ∃ B' d', v' = Value.slice B' (n + 1) d' := fun v' w' h => by
    rcases h.2 with ⟨hv, hn⟩ | ⟨g, cap, cur, hv, _⟩
    · omega
    · exact ⟨_, _, hv⟩
  obtain ⟨v', w', hrun, h2, h3, _, h5⟩ := run_append_own_at (P := P) w base t o.type e i z 9 120 ht hi hz hsize hby hzs (by omega) (.slice B n d) n xs hown ⟨b, 0, none⟩ 1 1 news (by rw [hl]) (fun j u hj => by
    have := hc j u hj
    unfold Addr.add
    by_cases h0 : j = 0
    · subst h0; simpa using this
    · simpa [h0] using this) h1 h63 hbytes hbase
  obtain ⟨B', d', rfl⟩ := form v' w' h2
  rw [blockOf_own] at h3
  unfold Oper.wp execOp
  simp only [ho, resolve, invoke, builtin, Sem.run_bind, Sem.run_pure, Result.andThen_ok, List.map_toArray, List.map_cons, List.map_nil, hs, hx, hrun]
  exact h B' d' w' h2 h3
end
theorem cells9_one_ (s : Option Addr × Nat × Nat) : ∀ u ∈ cells9 s, u.oneCell' = true := by
  intro u hu
  simp only [cells9, List.mem_cons, List.not_mem_nil, or_false] at hu
  rcases hu with h | h | h | h | h | h | h | h | h <;> (rw [h]; rfl)
theorem row_info_ : (Tryz.prog.info? 22).map (fun i => (i.zero, i.size, i.bytes)) = some (some (.slice none 0 0), 1, 24) := by kernel_rfl
theorem step_parts : ∃ i, Tryz.prog.info? 123 = some i ∧ i.zero = some stepZ ∧ i.size = 9 ∧ i.bytes = 120 := by
  have h := step_info
  rw [Option.map_eq_some_iff] at h
  obtain ⟨i, h1, h2⟩ := h
  simp only [Prod.mk.injEq] at h2
  exact ⟨i, h1, h2.1, h2.2.1, h2.2.2⟩

/-- A search whose clauses have grown: all that is needed to go back. -/
structure LrSt (w0 w : World) (h gs g : Nat) (vars : Int) (Q : Option Addr) (mq dq : Nat) (q : List Int) (ph : Bool) (xss : List (List Int)) (A : Option Addr) (n c : Nat) (L : Option Addr) (cl : Nat) (Y : Option Addr) (cy gm : Nat) (t y : List Int) (V : Option Addr) (nv cv : Nat) (v : List Int) (z : Int) (S : Option Addr) (ns cs : Nat) : Prop where
  bl : Below w0.heap.size w0 w
  lo : w0.heap.size ≤ h
  hi : h ≤ w.heap.size
  tb : Blk w g 93 #[.slice A n c, .slice L t.length cl, .slice Y y.length cy, .map (some gm)]
  ol : Own 3 w h L t.length cl (t.map (Value.int .i64))
  oy : Own 3 w h Y y.length cy (y.map (Value.int .i64))
  ov : Own 3 w h V nv cv (v.map (Value.int .i64))
  sb : Blk w gs 81 #[.int .i64 vars, .slice Q mq dq, .bool ph, .pointer (some ⟨g, 0, none⟩), .slice V nv cv, .int .i64 z, .slice S ns cs]
  cz : Clz w w0.heap.size A n c xss
  so : ∃ xs, OwnC w w0.heap.size S ns cs xs
  glo : w0.heap.size ≤ gs
  tlo : w0.heap.size ≤ g
  aq : Ints w0 Q mq dq q
section
variable {w0 w w' wr : World} {h gs g : Nat} {vars : Int} {Q : Option Addr} {mq dq : Nat} {q : List Int} {ph : Bool} {xss xss' : List (List Int)} {A A' : Option Addr} {n c n' c' : Nat} {L : Option Addr} {cl : Nat} {Y : Option Addr} {cy gm : Nat} {D : DataW Unit} {t y : List Int} {V : Option Addr} {nv cv : Nat} {v : List Int} {z : Int} {S S' : Option Addr} {ns cs cs' : Nat}
theorem own_kT {e e' : TypeId} {w w' : World} {base n c : Nat} {A : Option Addr} {xs : List Value} {row : Option Nat} (h : Own e w base A n c xs) (hg : w.grownBy w' row) (hr : ∀ k, row = some k → Typed e' w k) (hne : e ≠ e') : Own e w' base A n c xs := by
  refine h.kept hg ?_
  cases row with
  | none => cases A with
    | none => exact .inl rfl
    | some a => exact .inr (by simp [blockOf])
  | some k => exact h.ne_typed (hr k rfl) hne
theorem blk_kT {e t : TypeId} {w w' : World} {g : Nat} {cs : Array Value} {row : Option Nat} (h : Blk w g t cs) (hg : w.grownBy w' row) (hr : ∀ k, row = some k → Typed e w k) (hne : t ≠ e) : Blk w' g t cs := by
  refine h.grown hg fun e1 => ?_
  obtain ⟨cs', fz, hcs⟩ := hr g e1.symm
  unfold Blk at h
  rw [h] at hcs
  injection hcs with hcs
  injection hcs with _ ht
  exact hne ht
theorem ownC_kT {e : TypeId} {w w' : World} {base n c : Nat} {A : Option Addr} {xs : List Value} {row : Option Nat} (h : OwnC w base A n c xs) (hg : w.grownBy w' row) (hr : ∀ k, row = some k → Typed e w k) (hne : 123 ≠ e) : OwnC w' base A n c xs := by
  refine h.kept hg ?_
  cases row with
  | none => cases A with
    | none => exact .inl rfl
    | some a => exact .inr (by simp [blockOf])
  | some k => exact h.ne_typed (hr k rfl) hne
theorem below_row {B : Nat} {row : Option Nat} (h : Below B w0 w) (hg : w.grownBy w' row) (hr : ∀ k, row = some k → B ≤ k) (hB : B ≤ w.heap.size) : Below B w0 w' :=
  h.trans ⟨hg.os, hg.tape, hg.output, hg.size, fun k hk => hg.block k (Nat.lt_of_lt_of_le hk hB) (fun e => by have := hr k e.symm; omega)⟩
theorem CdSt.lr (d : CdSt w0 wr h gs g vars Q mq dq q ph xss A n c L cl Y cy gm D t y V nv cv v z S ns cs) : LrSt w0 wr h gs g vars Q mq dq q ph xss A n c L cl Y cy gm t y V nv cv v z S ns cs := by
  obtain ⟨xs, hxs⟩ := d.so
  have hl := d.tr.lo
  have ol := d.tr.lits
  have oy := d.tr.why
  rw [cutW_size d.hi] at hl ol oy
  exact ⟨d.bl, d.lo, d.hi, d.tr.tb, ol, oy, d.vo, d.sb, d.cz.keep (cutW_below d.hi), ⟨xs, hxs.keep (cutW_below d.hi)⟩, d.glo, Nat.le_trans d.lo hl, d.aq⟩
theorem LrSt.keep (r : LrSt w0 w h gs g vars Q mq dq q ph xss A n c L cl Y cy gm t y V nv cv v z S ns cs) (hb : Below w.heap.size w w') : LrSt w0 w' h gs g vars Q mq dq q ph xss A n c L cl Y cy gm t y V nv cv v z S ns cs := by
  obtain ⟨xs, hxs⟩ := r.so
  exact ⟨below_next r.bl hb, r.lo, Nat.le_trans r.hi hb.size, r.tb.keep hb, r.ol.keep hb, r.oy.keep hb, r.ov.keep hb, r.sb.keep hb, r.cz.keep hb, ⟨xs, hxs.keep hb⟩, r.glo, r.tlo, r.aq⟩
/-- A step more, appended. -/
theorem LrSt.step {xs' : List Value} (r : LrSt w0 w h gs g vars Q mq dq q ph xss A n c L cl Y cy gm t y V nv cv v z S ns cs) (ho : OwnC w' w0.heap.size S' (ns + 1) cs' xs') (hg : w.grownBy w' (blockOf S)) :
    Blk w' gs 81 #[.int .i64 vars, .slice Q mq dq, .bool ph, .pointer (some ⟨g, 0, none⟩), .slice V nv cv, .int .i64 z, .slice S ns cs] ∧ LrSt w0 (w'.setCell ⟨gs, 6, none⟩ (.slice S' (ns + 1) cs')) h gs g vars Q mq dq q ph xss A n c L cl Y cy gm t y V nv cv v z S' (ns + 1) cs' := by
  obtain ⟨xs, hxs⟩ := r.so
  have hr : ∀ k, blockOf S = some k → w0.heap.size ≤ k ∧ Typed 123 w k := fun k hk => hxs.base hk
  have hr2 : ∀ k, blockOf S = some k → Typed 123 w k := fun k hk => (hr k hk).2
  have sb1 := blk_kT r.sb hg hr2 (by decide)
  have hT := Typed.of_blk sb1
  have hg2 := grown_setCell w' ⟨gs, 6, none⟩ (.slice S' (ns + 1) cs')
  have hr3 : ∀ k, (some gs : Option Nat) = some k → Typed 81 w' k := fun k hk => by cases hk; exact hT
  have hsz : w0.heap.size ≤ w.heap.size := r.bl.size
  refine ⟨sb1, (below_row r.bl hg (fun k hk => (hr k hk).1) hsz).setCell (p := ⟨gs, 6, none⟩) r.glo _, r.lo, Nat.le_trans r.hi (Nat.le_trans hg.size hg2.size), blk_kT (blk_kT r.tb hg hr2 (by decide)) hg2 hr3 (by decide), own_kT (own_kT r.ol hg hr2 (by decide)) hg2 hr3 (by decide), own_kT (own_kT r.oy hg hr2 (by decide)) hg2 hr3 (by decide), own_kT (own_kT r.ov hg hr2 (by decide)) hg2 hr3 (by decide), ?_, (r.cz.kept hg hr (by decide) (by decide)).kept hg2 (fun k hk => by cases hk; exact ⟨r.glo, hT⟩) (by decide) (by decide), ⟨xs', ownC_kT ho hg2 hr3 (by decide)⟩, r.glo, r.tlo, r.aq⟩
  have := sb1.set_ 6 (.slice S' (ns + 1) cs')
  simpa using this
/-- The clauses are other ones now. -/
theorem LrSt.setA (r : LrSt w0 w h gs g vars Q mq dq q ph xss A n c L cl Y cy gm t y V nv cv v z S ns cs) (hz : Clz w w0.heap.size A' n' c' xss') : LrSt w0 (w.setCell ⟨g, 0, none⟩ (.slice A' n' c')) h gs g vars Q mq dq q ph xss' A' n' c' L cl Y cy gm t y V nv cv v z S ns cs := by
  obtain ⟨xs, hxs⟩ := r.so
  have hT := Typed.of_blk r.tb
  have hg2 := grown_setCell w ⟨g, 0, none⟩ (.slice A' n' c')
  have hr3 : ∀ k, (some g : Option Nat) = some k → Typed 93 w k := fun k hk => by cases hk; exact hT
  refine ⟨r.bl.setCell (p := ⟨g, 0, none⟩) r.tlo _, r.lo, Nat.le_trans r.hi hg2.size, ?_, own_kT r.ol hg2 hr3 (by decide), own_kT r.oy hg2 hr3 (by decide), own_kT r.ov hg2 hr3 (by decide), blk_kT r.sb hg2 hr3 (by decide), hz.kept hg2 (fun k hk => by cases hk; exact ⟨r.tlo, hT⟩) (by decide) (by decide), ⟨xs, ownC_kT hxs hg2 hr3 (by decide)⟩, r.glo, r.tlo, r.aq⟩
  have := r.tb.set_ 0 (.slice A' n' c')
  simpa using this
end
/-- It learned. -/
def RetLr (w0 : World) (h gs g : Nat) (vars : Int) (Q : Option Addr) (mq dq : Nat) (q : List Int) (ph : Bool) (xss : List (List Int)) (n : Nat) (L : Option Addr) (cl : Nat) (Y : Option Addr) (cy gm : Nat) (t y : List Int) (V : Option Addr) (nv cv : Nat) (v : List Int) (z : Int) (ns : Nat) (e : Ending) (w' : World) : Prop :=
  e = .returned (.tuple #[]) ∧ ∃ A c S cs, LrSt w0 w' h gs g vars Q mq dq q ph xss A (n + 1) c L cl Y cy gm t y V nv cv v z S (ns + 1) cs

set_option maxHeartbeats 8000000 in
set_option maxRecDepth 100000 in
theorem learn_any (w0 wr : World) (h gs g : Nat) (vars : Int) (Q : Option Addr) (mq dq : Nat) (q : List Int) (ph : Bool) (xss : List (List Int)) (A : Option Addr) (n c : Nat) (L : Option Addr) (cl : Nat) (Y : Option Addr) (cy gm : Nat) (D : DataW Unit) (t y : List Int) (V : Option Addr) (nv cv : Nat) (v : List Int) (z : Int) (S : Option Addr) (ns cs : Nat) (d : CdSt w0 wr h gs g vars Q mq dq q ph xss A n c L cl Y cy gm D t y V nv cv v z S ns cs)
    (C : Option Addr) (nc cc bc : Nat) (l : List Int) (hC : Own 3 wr bc C nc cc (l.map (Value.int .i64))) (hl : ∀ x ∈ l, -1000000 ≤ x ∧ x ≤ 1000000) (hnc : nc ≤ 1000000) (hn : n ≤ 1000000) (hns : ns ≤ 1000000) :
    Calls Tryz.prog 44 #[.pointer (some ⟨gs, 0, none⟩), .slice C nc cc] wr (RetLr w0 h gs g vars Q mq dq q ph (xss ++ [l]) n L cl Y cy gm t y V nv cv v z ns) := by
  obtain ⟨i0, hi0, hz0, hz1, hz2⟩ := info_parts int_info
  obtain ⟨ist, hist, hsz, hss, hsb⟩ := step_parts
  obtain ⟨ir, hir, hr0, hr1, hr2⟩ := info_parts row_info_
  have R0 := Lib.hid d.lr
  have HCO := Lib.hid hC
  have HLI : Hid (∀ x ∈ l, I64 x) := fun x hx => by have := hl x hx; unfold I64; omega
  have c6 := d.sb.cell 6
  have c3 := d.sb.cell 3
  have k0 := d.tr.tb.cell 0
  simp at c6 c3 k0
  have lt0 := d.sb.lt
  clear d hC hl
  go_enter Tryz.func44, Tryz.ntmps44
  go_wp2_with fail
  clear c6 c3 k0 lt0
  obtain ⟨wd, hwd⟩ : ∃ z : World, z = wr.drew := ⟨_, rfl⟩
  have hbd : Below wr.heap.size wr wd := by rw [hwd]; exact below_drewN _ 1
  have R1 := Lib.hid (R0.out.keep hbd)
  have HC1 := Lib.hid (HCO.out.keep hbd)
  clear hbd R0 HCO
  have hS : wd.cell? ⟨gs, 6, none⟩ = some (.slice S ns cs) := by have := R1.out.sb.cell 6; simpa using this
  have lt0 := R1.out.sb.lt
  refine wp_region_tail (fun w' => w'.cell? ⟨gs, 6, none⟩ = some (.slice S ns cs)) [12] (by kernel_rfl) ?_
  change wpAnyT _ _ _ _ _ _ _ _ _ wr.drew
  rw [← hwd]
  clear hwd
  refine take0 (i := 0) (oi := _) (v := ?_) rfl (by kernel_rfl) (by kernel_rfl) (by kernel_rfl) (fun _ _ _ h => h) rfl (Or.inl ⟨by rfl, ?_⟩) (fun _ => hS) ?_
  rotate_left
  · intro w0; go_simp; with_reducible rfl
  (try simp only [Act.put, List.setIfInBounds_toArray, List.set_cons_zero, List.set_cons_succ])
  refine take0 (i := 1) (oi := _) (v := ?_) rfl (by kernel_rfl) (by kernel_rfl) (by kernel_rfl) (fun _ _ _ h => h) rfl (Or.inl ⟨by rfl, ?_⟩) (fun _ => hS) ?_
  rotate_left
  · intro w0; go_simp; with_reducible rfl
  (try simp only [Act.put, List.setIfInBounds_toArray, List.set_cons_zero, List.set_cons_succ])
  refine take0 (i := 2) (oi := _) (v := ?_) rfl (by kernel_rfl) (by kernel_rfl) (by kernel_rfl) (fun _ _ _ h => h) rfl (Or.inl ⟨by rfl, ?_⟩) (fun _ => hS) ?_
  rotate_left
  · intro w0; go_simp; with_reducible rfl
  (try simp only [Act.put, List.setIfInBounds_toArray, List.set_cons_zero, List.set_cons_succ])
  refine take0 (i := 3) (oi := _) (v := ?_) rfl (by kernel_rfl) (by kernel_rfl) (by kernel_rfl) (fun _ _ _ h => h) rfl (Or.inl ⟨by rfl, ?_⟩) (fun _ => hS) ?_
  rotate_left
  · intro w0; go_simp; with_reducible rfl
  (try simp only [Act.put, List.setIfInBounds_toArray, List.set_cons_zero, List.set_cons_succ])
  refine takeS (i := 4) (oi := _) (v := ?_) rfl (by kernel_rfl) (by kernel_rfl) (by kernel_rfl) (fun _ _ _ h => h) rfl (by kernel_rfl) (by kernel_rfl) (Or.inl ⟨by rfl, ?_⟩) hS ?_
  rotate_left
  · intro w0 hSw; (try dsimp only at hSw); go_simp; with_reducible rfl
  (try simp only [Act.put, List.setIfInBounds_toArray, List.set_cons_zero, List.set_cons_succ])
  refine take0 (i := 5) (oi := _) (v := ?_) rfl (by kernel_rfl) (by kernel_rfl) (by kernel_rfl) (fun _ _ _ h => h) rfl (Or.inl ⟨by rfl, ?_⟩) (fun _ => hS) ?_
  rotate_left
  · intro w0; go_simp; with_reducible rfl
  (try simp only [Act.put, List.setIfInBounds_toArray, List.set_cons_zero, List.set_cons_succ])
  refine oneT (i := 6) (by kernel_rfl) rfl (by rfl) (fun Kq hK => ?_)
  go_simp
  refine (clone_ints _ _ _ l _ (HC1.out.ints HLI.out) hnc).mono ?_
  rintro e w2 ⟨C2, nc2, cc2, rfl, hO2, hb2⟩
  have R2 := Lib.hid (R1.out.keep hb2)
  have HC2 := Lib.hid (HC1.out.keep hb2)
  have hS2 : w2.cell? ⟨gs, 6, none⟩ = some (.slice S ns cs) := keepBox hb2 hS
  clear hO2 hb2 R1 HC1 hS lt0
  refine hK _ _ (fun _ => hS2) ?_
  clear hK
  (try simp only [Act.put, List.setIfInBounds_toArray, List.set_cons_zero, List.set_cons_succ])
  refine take0 (i := 7) (oi := _) (v := ?_) rfl (by kernel_rfl) (by kernel_rfl) (by kernel_rfl) (fun _ _ _ h => h) rfl (Or.inl ⟨by rfl, ?_⟩) (fun _ => hS2) ?_
  rotate_left
  · intro w0; go_simp; with_reducible rfl
  (try simp only [Act.put, List.setIfInBounds_toArray, List.set_cons_zero, List.set_cons_succ])
  refine oneT (i := 8) (by kernel_rfl) rfl (by rfl) (fun Kq hK => ?_)
  go_simp
  obtain ⟨w3, hw3⟩ : ∃ z : World, z = w2.alloc (.cells (cells9 (C2, nc2, cc2)).toArray 123) := ⟨_, rfl⟩
  have hb3 : Below w2.heap.size w2 w3 := by rw [hw3]; exact below_new _ _
  have KST : Hid (Blk w3 w2.heap.size 123 (cells9 (C2, nc2, cc2)).toArray) := by rw [hw3]; exact Blk.new _ _ _
  have R3 := Lib.hid (R2.out.keep hb3)
  have HC3 := Lib.hid (HC2.out.keep hb3)
  have hS3 : w3.cell? ⟨gs, 6, none⟩ = some (.slice S ns cs) := keepBox hb3 hS2
  have hsz3 : Hid (w0.heap.size ≤ w3.heap.size) := R3.out.bl.size
  change Kq _ (w2.alloc (.cells (cells9 (C2, nc2, cc2)).toArray 123))
  rw [← hw3]
  clear hw3 hb3 R2 HC2 hS2
  refine hK _ _ (fun _ => hS3) ?_
  clear hK
  (try simp only [Act.put, List.setIfInBounds_toArray, List.set_cons_zero, List.set_cons_succ])
  refine oneT (i := 9) (by kernel_rfl) rfl (by rfl) (fun Kq hK => ?_)
  obtain ⟨sxs, hsxs⟩ := R3.out.so
  have HSX := Lib.hid hsxs
  clear hsxs
  refine wp_append_step _ (.tmp 8) (.tmp 12) 44 rfl w0.heap.size 123 ist _ Tryz.underlying44 hist hsz hss hsb rfl S ns cs sxs rfl HSX.out w2.heap.size (cells9 (C2, nc2, cc2)) rfl rfl (fun j u hj => (KST.out.cell j).trans (by rw [List.getElem?_toArray]; exact hj)) (cells9_one_ _) (by simp only [maxLen]; omega) (by omega) hsz3.out ?_
  intro S4 cs4 w4 hO4 hG4
  obtain ⟨sb4, R5'⟩ := R3.out.step hO4 hG4
  have R5 := Lib.hid R5'
  have HC4 := Lib.hid (own_kT HC3.out hG4 (fun k hk => (HSX.out.base hk).2) (by decide))
  have e6 := sb4.cell 6
  have f6 := sb4.frozen 6
  have hT4 := Lib.hid (Typed.of_blk sb4)
  simp at e6
  have lt4 := sb4.lt
  have hS4 : w4.cell? ⟨gs, 6, none⟩ = some (.slice S ns cs) := e6
  clear hO4 hG4 sb4 R5' R3 HC3 KST HSX hsz3 hS3
  refine hK _ _ (fun _ => hS4) ?_
  clear hK
  (try simp only [Act.put, List.setIfInBounds_toArray, List.set_cons_zero, List.set_cons_succ])
  refine take0 (i := 10) (oi := _) (v := ?_) rfl (by kernel_rfl) (by kernel_rfl) (by kernel_rfl) (fun _ _ _ h => h) rfl (Or.inl ⟨by rfl, ?_⟩) (fun _ => hS4) ?_
  rotate_left
  · intro w0; go_simp; with_reducible rfl
  (try simp only [Act.put, List.setIfInBounds_toArray, List.set_cons_zero, List.set_cons_succ])
  refine take0 (i := 11) (oi := _) (v := ?_) rfl (by kernel_rfl) (by kernel_rfl) (by kernel_rfl) (fun _ _ _ h => h) rfl (Or.inl ⟨by rfl, ?_⟩) (fun _ => hS4) ?_
  rotate_left
  · intro w0; go_simp; with_reducible rfl
  (try simp only [Act.put, List.setIfInBounds_toArray, List.set_cons_zero, List.set_cons_succ])
  refine oneT (i := 12) (by kernel_rfl) rfl (by rfl) (fun Kq hK => ?_)
  go_simp
  obtain ⟨w5, hw5⟩ : ∃ z : World, z = w4.setCell ⟨gs, 6, none⟩ (.slice S4 (ns + 1) cs4) := ⟨_, rfl⟩
  have HC5 : Hid (Own 3 w5 bc C nc cc (l.map (Value.int .i64))) := by rw [hw5]; exact own_kT HC4.out (grown_setCell w4 ⟨gs, 6, none⟩ _) (fun k hk => by cases hk; exact hT4.out) (by decide)
  have R6 : Hid (LrSt w0 w5 h gs g vars Q mq dq q ph xss A n c L cl Y cy gm t y V nv cv v z S4 (ns + 1) cs4) := by rw [hw5]; exact R5.out
  rw [← hw5]
  refine hK _ _ (noT_no (by kernel_rfl)) ?_
  clear hK
  refine doneT (by kernel_rfl) ?_ _
  clear hw5 R5 HC4 hT4 e6 f6 lt4 hS4
  have c3 := R6.out.sb.cell 3
  have k0 := R6.out.tb.cell 0
  simp at c3 k0
  have lt5 := R6.out.sb.lt
  go_wp2_with fail
  clear c3 k0 lt5
  obtain ⟨w6, hwd⟩ : ∃ z : World, z = w5.drew := ⟨_, rfl⟩
  have hbd : Below w5.heap.size w5 w6 := by rw [hwd]; exact below_drewN _ 1
  have R7 := Lib.hid (R6.out.keep hbd)
  have HC7 := Lib.hid (HC5.out.keep hbd)
  clear hbd R6 HC5
  have hS : w6.cell? ⟨gs, 3, none⟩ = some (.pointer (some ⟨g, 0, none⟩)) ∧ w6.cell? ⟨g, 0, none⟩ = some (.slice A n c) := ⟨by have := R7.out.sb.cell 3; simpa using this, by have := R7.out.tb.cell 0; simpa using this⟩
  have lts := R7.out.sb.lt
  have ltg := R7.out.tb.lt
  have hAc := R7.out.cz.grid.bd
  have hAn := R7.out.cz.nil
  refine wp_region_tail (fun w' => w'.cell? ⟨gs, 3, none⟩ = some (.pointer (some ⟨g, 0, none⟩)) ∧ w'.cell? ⟨g, 0, none⟩ = some (.slice A n c)) [18] (by kernel_rfl) ?_
  change wpAnyT _ _ _ _ _ _ _ _ _ w5.drew
  rw [← hwd]
  clear hwd
  refine take0 (i := 0) (oi := _) (v := ?_) rfl (by kernel_rfl) (by kernel_rfl) (by kernel_rfl) (fun _ _ _ h => h) rfl (Or.inl ⟨by rfl, ?_⟩) (fun _ => hS) ?_
  rotate_left
  · intro w0; go_simp; with_reducible rfl
  (try simp only [Act.put, List.setIfInBounds_toArray, List.set_cons_zero, List.set_cons_succ])
  refine take0 (i := 1) (oi := _) (v := ?_) rfl (by kernel_rfl) (by kernel_rfl) (by kernel_rfl) (fun _ _ _ h => h) rfl (Or.inl ⟨by rfl, ?_⟩) (fun _ => hS) ?_
  rotate_left
  · intro w0; go_simp; with_reducible rfl
  (try simp only [Act.put, List.setIfInBounds_toArray, List.set_cons_zero, List.set_cons_succ])
  refine take0 (i := 2) (oi := _) (v := ?_) rfl (by kernel_rfl) (by kernel_rfl) (by kernel_rfl) (fun _ _ _ h => h) rfl (Or.inl ⟨by rfl, ?_⟩) (fun _ => hS) ?_
  rotate_left
  · intro w0; go_simp; with_reducible rfl
  (try simp only [Act.put, List.setIfInBounds_toArray, List.set_cons_zero, List.set_cons_succ])
  refine takeS (i := 3) (oi := _) (v := ?_) rfl (by kernel_rfl) (by kernel_rfl) (by kernel_rfl) (fun _ _ _ h => h) rfl (by kernel_rfl) (by kernel_rfl) (Or.inl ⟨by rfl, ?_⟩) hS ?_
  rotate_left
  · intro w0 hSw; (try dsimp only at hSw); go_simp; with_reducible rfl
  (try simp only [Act.put, List.setIfInBounds_toArray, List.set_cons_zero, List.set_cons_succ])
  refine take0 (i := 4) (oi := _) (v := ?_) rfl (by kernel_rfl) (by kernel_rfl) (by kernel_rfl) (fun _ _ _ h => h) rfl (Or.inl ⟨by rfl, ?_⟩) (fun _ => hS) ?_
  rotate_left
  · intro w0; go_simp; with_reducible rfl
  (try simp only [Act.put, List.setIfInBounds_toArray, List.set_cons_zero, List.set_cons_succ])
  refine take0 (i := 5) (oi := _) (v := ?_) rfl (by kernel_rfl) (by kernel_rfl) (by kernel_rfl) (fun _ _ _ h => h) rfl (Or.inl ⟨by rfl, ?_⟩) (fun _ => hS) ?_
  rotate_left
  · intro w0; go_simp; with_reducible rfl
  (try simp only [Act.put, List.setIfInBounds_toArray, List.set_cons_zero, List.set_cons_succ])
  refine take0 (i := 6) (oi := _) (v := ?_) rfl (by kernel_rfl) (by kernel_rfl) (by kernel_rfl) (fun _ _ _ h => h) rfl (Or.inl ⟨by rfl, ?_⟩) (fun _ => hS) ?_
  rotate_left
  · intro w0; go_simp; with_reducible rfl
  (try simp only [Act.put, List.setIfInBounds_toArray, List.set_cons_zero, List.set_cons_succ])
  refine takeS (i := 7) (oi := _) (v := ?_) rfl (by kernel_rfl) (by kernel_rfl) (by kernel_rfl) (fun _ _ _ h => h) rfl (by kernel_rfl) (by kernel_rfl) (Or.inl ⟨by rfl, ?_⟩) hS ?_
  rotate_left
  · intro w0 hSw; (try dsimp only at hSw); go_simp; with_reducible rfl
  (try simp only [Act.put, List.setIfInBounds_toArray, List.set_cons_zero, List.set_cons_succ])
  refine take0 (i := 8) (oi := _) (v := ?_) rfl (by kernel_rfl) (by kernel_rfl) (by kernel_rfl) (fun _ _ _ h => h) rfl (Or.inl ⟨by rfl, ?_⟩) (fun _ => hS) ?_
  rotate_left
  · intro w0; go_simp; with_reducible rfl
  (try simp only [Act.put, List.setIfInBounds_toArray, List.set_cons_zero, List.set_cons_succ])
  refine take0 (i := 9) (oi := _) (v := ?_) rfl (by kernel_rfl) (by kernel_rfl) (by kernel_rfl) (fun _ _ _ h => h) rfl (Or.inl ⟨by rfl, ?_⟩) (fun _ => hS) ?_
  rotate_left
  · intro w0; go_simp; with_reducible rfl
  (try simp only [Act.put, List.setIfInBounds_toArray, List.set_cons_zero, List.set_cons_succ])
  refine takeS (i := 10) (oi := _) (v := ?_) rfl (by kernel_rfl) (by kernel_rfl) (by kernel_rfl) (fun _ _ _ h => h) rfl (by kernel_rfl) (by kernel_rfl) (Or.inl ⟨by rfl, ?_⟩) hS ?_
  rotate_left
  · intro w0 hSw; (try dsimp only at hSw); go_simp; with_reducible rfl
  (try simp only [Act.put, List.setIfInBounds_toArray, List.set_cons_zero, List.set_cons_succ])
  refine take0 (i := 12) (oi := _) (v := ?_) rfl (by kernel_rfl) (by kernel_rfl) (by kernel_rfl) (fun _ _ _ h => h) rfl (Or.inl ⟨by rfl, ?_⟩) (fun _ => hS) ?_
  rotate_left
  · intro w0; go_simp; with_reducible rfl
  (try simp only [Act.put, List.setIfInBounds_toArray, List.set_cons_zero, List.set_cons_succ])
  refine oneT (i := 11) (by kernel_rfl) rfl (by rfl) (fun Kq hK => ?_)
  go_simp
  refine (clip_any A n c w6 hAc.1 hAc.2 hAn).mono ?_
  rintro e wb ⟨rfl, m_wb, hm_wb⟩
  have hb_wb : Below w6.heap.size w6 wb := by rw [hm_wb]; exact below_drewN _ _
  have hSb : wb.cell? ⟨gs, 3, none⟩ = some (.pointer (some ⟨g, 0, none⟩)) ∧ wb.cell? ⟨g, 0, none⟩ = some (.slice A n c) := ⟨keepBox hb_wb hS.1, keepBox hb_wb hS.2⟩
  clear hm_wb
  refine hK _ _ (fun _ => hSb) ?_
  clear hK
  (try simp only [Act.put, List.setIfInBounds_toArray, List.set_cons_zero, List.set_cons_succ])
  have HC8 := Lib.hid (HC7.out.keep hb_wb)
  refine oneT (i := 13) (by kernel_rfl) rfl (by rfl) (fun Kq hK => ?_)
  go_simp
  refine (clone_ints _ _ _ l _ (HC8.out.ints HLI.out) hnc).mono ?_
  rintro e wc ⟨C3, nc3, cc3, rfl, hO_wc, hb_wc⟩
  have hSc : wc.cell? ⟨gs, 3, none⟩ = some (.pointer (some ⟨g, 0, none⟩)) ∧ wc.cell? ⟨g, 0, none⟩ = some (.slice A n c) := ⟨keepBox hb_wc hSb.1, keepBox hb_wc hSb.2⟩
  refine hK _ _ (fun _ => hSc) ?_
  clear hK
  (try simp only [Act.put, List.setIfInBounds_toArray, List.set_cons_zero, List.set_cons_succ])
  have R9 := Lib.hid ((R7.out.keep hb_wb).keep hb_wc)
  have HO9 := Lib.hid hO_wc
  clear hO_wc hb_wb hb_wc R7 HC7 HC8 hS hSb lts ltg hAc hAn
  refine oneT (i := 14) (by kernel_rfl) rfl (by rfl) (fun Kq hK => ?_)
  go_simp
  obtain ⟨wa, hwa⟩ : ∃ z : World, z = (wc.alloc (.cells #[.slice C3 nc3 cc3] 22)) := ⟨_, rfl⟩
  have hba : Below wc.heap.size wc wa := by rw [hwa]; exact below_new _ _
  have HSS : Hid (Sl wa (some ⟨wc.heap.size, 0, none⟩) 1 1 [.slice C3 nc3 cc3]) := by rw [hwa]; exact sl_one wc 22 (.slice C3 nc3 cc3) rfl
  have Ra := Lib.hid (R9.out.keep hba)
  have HOa := Lib.hid (HO9.out.keep hba)
  have hSa : wa.cell? ⟨gs, 3, none⟩ = some (.pointer (some ⟨g, 0, none⟩)) ∧ wa.cell? ⟨g, 0, none⟩ = some (.slice A n c) := ⟨keepBox hba hSc.1, keepBox hba hSc.2⟩
  have hsza : Hid (w0.heap.size ≤ wa.heap.size) := Ra.out.bl.size
  rw [← hwa]
  clear hwa hba R9 HO9 hSc
  refine hK _ _ (fun _ => hSa) ?_
  clear hK
  (try simp only [Act.put, List.setIfInBounds_toArray, List.set_cons_zero, List.set_cons_succ])
  refine oneT (i := 15) (by kernel_rfl) rfl (by rfl) (fun Kq hK => ?_)
  obtain ⟨vs, hv1, hv2, hv3⟩ := Ra.out.cz.ex
  have HV1 : Hid (Sl wa A n n vs) := ⟨hv1.len, Nat.le_refl _, Nat.le_trans hv1.le hv1.cap, hv1.at_⟩
  have HV3 := Lib.hid hv3
  clear hv1 hv2 hv3
  refine wp_append_full _ (.tmp 27) (.tmp 30) 23 rfl w0.heap.size 22 ir _ 24 Tryz.underlying23 hir hr0 hr1 hr2 rfl A n vs rfl HV1.out ⟨wc.heap.size, 0, none⟩ 1 1 [.slice C3 nc3 cc3] rfl HSS.out (by omega) (by simp only [maxLen]; omega) (by omega) hsza.out ?_
  intro c8 w8 hO8 hb8
  have R8 := Lib.hid (Ra.out.keep hb8)
  have HZ8 : Hid (Clz w8 w0.heap.size (some ⟨wa.heap.size, 0, none⟩) (n + 1) c8 (xss ++ [l])) := Clz.of_own ⟨_, hO8, (HV3.out.keep hb8).snoc ((HOa.out.keep hb8).ints HLI.out) (Away.own (HOa.out.keep hb8))⟩
  have hS8 : w8.cell? ⟨gs, 3, none⟩ = some (.pointer (some ⟨g, 0, none⟩)) ∧ w8.cell? ⟨g, 0, none⟩ = some (.slice A n c) := ⟨keepBox hb8 hSa.1, keepBox hb8 hSa.2⟩
  have f0 := R8.out.tb.frozen 0
  have ltg8 := R8.out.tb.lt
  clear hO8 hb8 HV1 HV3 HSS Ra HOa hSa hsza
  refine hK _ _ (fun _ => hS8) ?_
  clear hK
  (try simp only [Act.put, List.setIfInBounds_toArray, List.set_cons_zero, List.set_cons_succ])
  refine take0 (i := 16) (oi := _) (v := ?_) rfl (by kernel_rfl) (by kernel_rfl) (by kernel_rfl) (fun _ _ _ h => h) rfl (Or.inl ⟨by rfl, ?_⟩) (fun _ => hS8) ?_
  rotate_left
  · intro w0; go_simp; with_reducible rfl
  (try simp only [Act.put, List.setIfInBounds_toArray, List.set_cons_zero, List.set_cons_succ])
  refine take0 (i := 17) (oi := _) (v := ?_) rfl (by kernel_rfl) (by kernel_rfl) (by kernel_rfl) (fun _ _ _ h => h) rfl (Or.inl ⟨by rfl, ?_⟩) (fun _ => hS8) ?_
  rotate_left
  · intro w0; go_simp; with_reducible rfl
  (try simp only [Act.put, List.setIfInBounds_toArray, List.set_cons_zero, List.set_cons_succ])
  refine oneT (i := 18) (by kernel_rfl) rfl (by rfl) (fun Kq hK => ?_)
  go_simp
  have RZ := Lib.hid (R8.out.setA HZ8.out)
  refine hK _ _ (noT_no (by kernel_rfl)) ?_
  clear hK
  refine doneT (by kernel_rfl) ?_ _
  clear f0 ltg8 hS8 R8 HZ8
  go_wp2_with fail
  go_end0
  exact ⟨rfl, _, c8, S4, cs4, RZ.out⟩
end Go.Proofs.YtlfgcblijfflfaaGreat

/- Contract of cdcl's back. (Printed by wip/tools/cdback.py.) -/
namespace Go.Proofs.YtlfgcblijfflfaaGreat
open Go.RowKit Go.Maps Go.WideMaps
set_option linter.unusedSimpArgs false

/-- A trail that was, with its levels. -/
structure OldT (W : World) (h g : Nat) (A : Option Addr) (n c : Nat) (L : Option Addr) (cl : Nat) (Y : Option Addr) (cy gm : Nat) (t y : List Int) (V : Option Addr) (nv cv : Nat) (v : List Int) : Prop where
  tb : Blk W g 93 #[.slice A n c, .slice L t.length cl, .slice Y y.length cy, .map (some gm)]
  ol : Own 3 W h L t.length cl (t.map (Value.int .i64))
  oy : Own 3 W h Y y.length cy (y.map (Value.int .i64))
  ov : Own 3 W h V nv cv (v.map (Value.int .i64))
section
variable {w0 w w' wr w2 : World} {h h2 gs g g2 : Nat} {vars : Int} {Q : Option Addr} {mq dq : Nat} {q : List Int} {ph : Bool} {xss : List (List Int)} {A : Option Addr} {n c : Nat} {L : Option Addr} {cl : Nat} {Y : Option Addr} {cy gm gm2 : Nat} {D : DataW Unit} {t y : List Int} {V : Option Addr} {nv cv : Nat} {v : List Int} {z : Int} {S : Option Addr} {ns cs : Nat}
theorem OldT.keep (o : OldT w h g A n c L cl Y cy gm t y V nv cv v) (hb : Below w.heap.size w w') : OldT w' h g A n c L cl Y cy gm t y V nv cv v := ⟨o.tb.keep hb, o.ol.keep hb, o.oy.keep hb, o.ov.keep hb⟩
theorem OldT.low (o : OldT (cutW w h2) h g A n c L cl Y cy gm t y V nv cv v) (hi : h2 ≤ w.heap.size) (hb : Below h2 w w') : OldT (cutW w' h2) h g A n c L cl Y cy gm t y V nv cv v := o.keep (cutW_keep hi hb)
theorem OldT.set_ {i : Nat} {u : Value} {cs0 : Array Value} (o : OldT (cutW w h2) h g A n c L cl Y cy gm t y V nv cv v) (hi : h2 ≤ w.heap.size) (hb : Blk w gs 81 cs0) : OldT (cutW (w.setCell ⟨gs, i, none⟩ u) h2) h g A n c L cl Y cy gm t y V nv cv v := by
  have hg := cutW_grown hi (grown_setCell w ⟨gs, i, none⟩ u)
  by_cases hgs : gs < h2
  · have hr : ∀ k, (some gs : Option Nat) = some k → Typed 81 (cutW w h2) k := fun k hk => by cases hk; exact Typed.of_blk (hb.cut hgs)
    exact ⟨blk_kT o.tb hg hr (by decide), own_kT o.ol hg hr (by decide), own_kT o.oy hg hr (by decide), own_kT o.ov hg hr (by decide)⟩
  · exact o.keep (cutW_keep hi ((Below.refl h2 w).setCell (p := ⟨gs, i, none⟩) (by show h2 ≤ gs; omega) u))
theorem LrSt.begin_ (r : LrSt w0 wr h gs g vars Q mq dq q ph xss A n c L cl Y cy gm t y V nv cv v z S ns cs) (st : TrSt wr w2 g2 A n c none 0 none 0 gm2 D [] []) :
    CdSt w0 ((w2.setCell ⟨gs, 3, none⟩ (.pointer (some ⟨g2, 0, none⟩))).setCell ⟨gs, 4, none⟩ (.slice none 0 0)) wr.heap.size gs g2 vars Q mq dq q ph xss A n c none 0 none 0 gm2 D [] [] none 0 0 [] z S ns cs ∧ OldT (cutW ((w2.setCell ⟨gs, 3, none⟩ (.pointer (some ⟨g2, 0, none⟩))).setCell ⟨gs, 4, none⟩ (.slice none 0 0)) wr.heap.size) h g A n c L cl Y cy gm t y V nv cv v := by
  have hb := st.bl
  have r2 := r.keep hb
  have hi2 : wr.heap.size ≤ w2.heap.size := hb.size
  have hgs := r.sb.lt
  have e1 := st.lo
  have e2 := st.lm
  have n1 : gs ≠ g2 := by omega
  have n2 : gs ≠ gm2 := by omega
  have sb2 := r2.sb
  have sb3 := sb2.set_ 3 (.pointer (some ⟨g2, 0, none⟩))
  have sb4 := sb3.set_ 4 (.slice none 0 0)
  have hi3 := Nat.le_trans hi2 (grown_setCell w2 ⟨gs, 3, none⟩ (.pointer (some ⟨g2, 0, none⟩))).size
  have hi4 := Nat.le_trans hi3 (grown_setCell (w2.setCell ⟨gs, 3, none⟩ (.pointer (some ⟨g2, 0, none⟩))) ⟨gs, 4, none⟩ (.slice none 0 0)).size
  have st2 : TrSt (cutW w2 wr.heap.size) w2 g2 A n c none 0 none 0 gm2 D [] [] := st.base_ (cutW_size hi2) (cutW_below hi2)
  have st3 := st2.setFar (i := 3) (u := .pointer (some ⟨g2, 0, none⟩)) hi2 sb2 n1 n2
  have st4 := st3.setFar (i := 4) (u := .slice none 0 0) hi3 sb3 n1 n2
  obtain ⟨k1, k2⟩ := cut_set (i := 3) (u := .pointer (some ⟨g2, 0, none⟩)) (low := w0.heap.size) hi2 sb2 r.glo
  obtain ⟨k3, k4⟩ := cut_set (i := 4) (u := .slice none 0 0) (low := w0.heap.size) hi3 sb3 r.glo
  have hc1 := cutW_top wr
  have hc2 := cutW_keep (Nat.le_refl _) hb
  obtain ⟨xs, hxs⟩ := r.so
  have o1 : OldT wr h g A n c L cl Y cy gm t y V nv cv v := ⟨r.tb, r.ol, r.oy, r.ov⟩
  refine ⟨⟨r.bl.size, hi4, (r2.bl.setCell (p := ⟨gs, 3, none⟩) r.glo _).setCell (p := ⟨gs, 4, none⟩) r.glo _, st4, k3 (k1 ((r.cz.keep hc1).keep hc2)), ?_, r.glo, Own.nil _ _ _, .inl rfl, .inl rfl, ⟨xs, k4 (k2 ((hxs.keep hc1).keep hc2))⟩, r.aq⟩, (((o1.keep hc1).keep hc2).set_ hi2 sb2).set_ hi3 sb3⟩
  simpa using sb4
end
/-- It went back. -/
def RetBk (w0 : World) (gs : Nat) (vars : Int) (Q : Option Addr) (mq dq : Nat) (q : List Int) (ph : Bool) (xss : List (List Int)) (A : Option Addr) (n c : Nat) (t y v : List Int) (z : Int) (S : Option Addr) (ns cs : Nat) (e : Ending) (w' : World) : Prop :=
  e = .returned (.tuple #[]) ∧ ∃ h g L cl Y cy gm D V nv cv, CdSt w0 w' h gs g vars Q mq dq q ph xss A n c L cl Y cy gm D t y V nv cv v z S ns cs

set_option maxHeartbeats 8000000 in
set_option maxRecDepth 100000 in
theorem back_any (w0 wr : World) (h gs g : Nat) (vars : Int) (Q : Option Addr) (mq dq : Nat) (q : List Int) (ph : Bool) (xss : List (List Int)) (A : Option Addr) (n c : Nat) (L : Option Addr) (cl : Nat) (Y : Option Addr) (cy gm : Nat) (t y : List Int) (V : Option Addr) (nv cv : Nat) (v : List Int) (z : Int) (S : Option Addr) (ns cs : Nat) (r : LrSt w0 wr h gs g vars Q mq dq q ph xss A n c L cl Y cy gm t y V nv cv v z S ns cs)
    (b : Int) (hb : I64 b) (hyl : y.length = t.length) (hvl : v.length = t.length) (htl : t.length ≤ 1000) (ht : ∀ x ∈ t, I64 x) (hy : ∀ x ∈ y, I64 x) (hv : ∀ x ∈ v, I64 x) (kk : Nat) (hk : Hid (keepF v b = kk)) :
    Calls Tryz.prog 45 #[.pointer (some ⟨gs, 0, none⟩), .int .i64 b] wr (RetBk w0 gs vars Q mq dq q ph xss A n c (t.take kk) (y.take kk) (v.take kk) b S ns cs) := by
  obtain ⟨i0, hi0, hz0, hz1, hz2⟩ := info_parts int_info
  have R := Lib.hid r
  have HT := Lib.hid ht
  have HYI := Lib.hid hy
  have HVI := Lib.hid hv
  have HYL := Lib.hid hyl
  have HVL := Lib.hid hvl
  have c3 := r.sb.cell 3
  have d0 := r.tb.cell 0
  simp at c3 d0
  have lts := r.sb.lt
  have ltg := r.tb.lt
  obtain ⟨b1, b2⟩ := hb
  clear r ht hy hv hyl hvl
  go_enter Tryz.func45, Tryz.ntmps45
  go_wp2_with fail
  refine (new_any A n c wr).mono ?_
  rintro e w2 ⟨g2, gm2, rfl, hst2⟩
  obtain ⟨hd3, ho3⟩ := R.out.begin_ hst2
  have HD3 := Lib.hid hd3
  have HO3 := Lib.hid ho3
  have R2 := Lib.hid (R.out.keep hst2.bl)
  have c3b := R2.out.sb.cell 3
  have c4 := R2.out.sb.cell 4
  have e1 := R2.out.tb.cell 1
  simp at c3b c4 e1
  have f3 := R2.out.sb.frozen 3
  have f4 := R2.out.sb.frozen 4
  have ltw := R2.out.sb.lt
  have ltv := R2.out.tb.lt
  have hne : gs ≠ g := fun e => by
    subst e
    have h1 := R2.out.sb
    have h2 := R2.out.tb
    unfold Blk at h1 h2
    rw [h1] at h2
    injection h2 with h2
    injection h2 with _ h2
    exact absurd h2 (by decide)
  have hne2 : g ≠ gs := fun e => hne e.symm
  clear hd3 ho3 hst2 c3 d0 lts ltg
  go_wp2_with fail
  obtain ⟨w3, hw3⟩ : ∃ z : World, z = ((w2.setCell ⟨gs, 3, none⟩ (.pointer (some ⟨g2, 0, none⟩))).setCell ⟨gs, 4, none⟩ (.slice none 0 0)) := ⟨_, rfl⟩
  rw [← hw3] at HD3 HO3 ⊢
  obtain ⟨h2, hh2⟩ : ∃ z : Nat, z = wr.heap.size := ⟨_, rfl⟩
  rw [← hh2] at HD3 HO3
  clear hw3 hh2 R2 R c3b c4 e1 f3 f4 ltw ltv hne hne2
  go_loopw [32] (fun s32 wz => ∃ (k : Nat) (L' : Option Addr) (cl' : Nat) (Y' : Option Addr) (cy' : Nat) (D' : DataW Unit) (V' : Option Addr) (nv' cv' : Nat), k ≤ t.length ∧ s32 = .int .i64 k ∧ Hid (CdSt w0 wz h2 gs g2 vars Q mq dq q ph xss A n c L' cl' Y' cy' gm2 D' (t.take k) (y.take k) V' nv' cv' (v.take k) z S ns cs) ∧ Hid (OldT (cutW wz h2) h g A n c L cl Y cy gm t y V nv cv v) ∧ Hid (∀ (i : Nat) (a : Int), i < k → v[i]? = some a → a ≤ b)) (fun i _ => t.length - (intOf i).toNat)
  case atStart => exact ⟨0, none, 0, none, 0, _, none, 0, 0, Nat.zero_le _, rfl, HD3, HO3, fun i a hi => by omega⟩
  case round =>
    clear HD3 HO3
    obtain ⟨k, L', cl', Y', cy', D', V', nv', cv', hk0, rfl, hD, hO, hlow⟩ := hrel
    have OW := Lib.hid (hO.out.keep (cutW_below hD.out.hi))
    have HIT := Lib.hid (OW.out.ol.ints HT.out)
    have HIY := Lib.hid (OW.out.oy.ints HYI.out)
    have HIV := Lib.hid (OW.out.ov.ints HVI.out)
    have hnv : t.length ≤ nv := by rw [← HIV.out.len, HVL.out]; exact Nat.le_refl _
    have hyn : t.length ≤ y.length := by rw [HYL.out]; exact Nat.le_refl _
    by_cases hkn : k < t.length
    · obtain ⟨bt, ot, l, hLe, hbt, hcl, l1, l2, hlk⟩ := HIT.out.round hkn
      obtain ⟨bv, ov, x, hVe, hbv, hcv, x1, x2, hvk⟩ := HIV.out.round (show k < nv by omega)
      obtain ⟨by_, oy, yk, hYe, hby, hcy, y1, y2, hyk⟩ := HIY.out.round (show k < y.length by omega)
      have u1 : (0 : Int) ≤ (k : Int) := by omega
      have u2 : (k : Int) < (t.length : Int) := by omega
      have u3 : (k : Int) < (nv : Int) := by omega
      have u4 : (k : Int) < (y.length : Int) := by omega
      have HLe : Hid (L = some ⟨bt, ot, none⟩) := hLe
      have HVe : Hid (V = some ⟨bv, ov, none⟩) := hVe
      have HYe : Hid (Y = some ⟨by_, oy, none⟩) := hYe
      subst hLe hVe hYe
      by_cases hbx : b < x
      · have dx : decide (b < x) = true := decide_eq_true hbx
        have hkk : k = kk := by
          rw [← hk.out]
          refine (keepF_eq (n := k) hlow.out (fun a ha => ?_) (by rw [HVL.out]; exact hk0)).symm
          rw [hvk.out] at ha; injection ha with ha; rw [← ha]; exact hbx
        subst hkk
        have c5 := hD.out.sb.cell 5
        simp at c5
        have f5 := hD.out.sb.frozen 5
        have ltw := hD.out.sb.lt
        have HF := Lib.hid (hD.out.setLev b)
        clear hlk hvk hyk
        go_wp2_with fail
        go_end0
        exact ⟨rfl, h2, g2, L', cl', Y', cy', gm2, D', V', nv', cv', HF.out⟩
      · have dx : decide (b < x) = false := decide_eq_false hbx
        have hlow2 : Hid (∀ (i : Nat) (a : Int), i < k + 1 → v[i]? = some a → a ≤ b) := fun i a hi ha => by
          by_cases e : i = k
          · subst e; rw [hvk.out] at ha; injection ha with ha; omega
          · exact hlow.out i a (by omega) ha
        have htk := Lib.hid (take_snoc_of hlk.out)
        have hyk2 := Lib.hid (take_snoc_of hyk.out)
        have hvk2 := Lib.hid (take_snoc_of hvk.out)
        clear hlow hlk hvk hyk
        go_wp2_with fail
        obtain ⟨wd, hwd⟩ : ∃ z : World, z = wr.drew := ⟨_, rfl⟩
        have hbd : Below wr.heap.size wr wd := by rw [hwd]; exact below_drewN _ 1
        have HD4 := Lib.hid (hD.out.keep hbd)
        have HO4 := Lib.hid (hO.out.low hD.out.hi (hbd.mono hD.out.hi))
        have hcv4 := keepBox hbd hcv
        have hS : wd.cell? ⟨gs, 3, none⟩ = some (.pointer (some ⟨g2, 0, none⟩)) ∧ wd.cell? ⟨g, 2, none⟩ = some (.slice (some ⟨by_, oy, none⟩) y.length cy) ∧ wd.cell? ⟨by_, oy + k, none⟩ = some (.int .i64 yk) := ⟨by have := HD4.out.sb.cell 3; simpa using this, by have := OW.out.tb.cell 2; simp at this; exact keepBox hbd this, keepBox hbd hcy⟩
        have z1 := (cell_lt hS.1).1
        have z2 := (cell_lt hS.2.1).1
        have z3 := (cell_lt hS.2.2).1
        clear hbd hD hO OW hcl hcv hcy HIT HIY HIV
        refine wp_region_tail (fun w' => w'.cell? ⟨gs, 3, none⟩ = some (.pointer (some ⟨g2, 0, none⟩)) ∧ w'.cell? ⟨g, 2, none⟩ = some (.slice (some ⟨by_, oy, none⟩) y.length cy) ∧ w'.cell? ⟨by_, oy + k, none⟩ = some (.int .i64 yk)) [] (by kernel_rfl) ?_
        change wpAnyT _ _ _ _ _ _ _ _ _ wr.drew
        rw [← hwd]
        clear hwd
        refine take0 (i := 0) (oi := _) (v := ?_) rfl (by kernel_rfl) (by kernel_rfl) (by kernel_rfl) (fun _ _ _ h => h) rfl (Or.inl ⟨by rfl, ?_⟩) (fun _ => hS) ?_
        rotate_left
        · intro w0; go_simp; with_reducible rfl
        (try simp only [Act.put, List.setIfInBounds_toArray, List.set_cons_zero, List.set_cons_succ])
        refine take0 (i := 1) (oi := _) (v := ?_) rfl (by kernel_rfl) (by kernel_rfl) (by kernel_rfl) (fun _ _ _ h => h) rfl (Or.inl ⟨by rfl, ?_⟩) (fun _ => hS) ?_
        rotate_left
        · intro w0; go_simp; with_reducible rfl
        (try simp only [Act.put, List.setIfInBounds_toArray, List.set_cons_zero, List.set_cons_succ])
        refine take0 (i := 2) (oi := _) (v := ?_) rfl (by kernel_rfl) (by kernel_rfl) (by kernel_rfl) (fun _ _ _ h => h) rfl (Or.inl ⟨by rfl, ?_⟩) (fun _ => hS) ?_
        rotate_left
        · intro w0; go_simp; with_reducible rfl
        (try simp only [Act.put, List.setIfInBounds_toArray, List.set_cons_zero, List.set_cons_succ])
        refine takeS (i := 3) (oi := _) (v := ?_) rfl (by kernel_rfl) (by kernel_rfl) (by kernel_rfl) (fun _ _ _ h => h) rfl (by kernel_rfl) (by kernel_rfl) (Or.inl ⟨by rfl, ?_⟩) hS ?_
        rotate_left
        · intro w0 hSw; (try dsimp only at hSw); go_simp; with_reducible rfl
        (try simp only [Act.put, List.setIfInBounds_toArray, List.set_cons_zero, List.set_cons_succ])
        refine take0 (i := 4) (oi := _) (v := ?_) rfl (by kernel_rfl) (by kernel_rfl) (by kernel_rfl) (fun _ _ _ h => h) rfl (Or.inl ⟨by rfl, ?_⟩) (fun _ => hS) ?_
        rotate_left
        · intro w0; go_simp; with_reducible rfl
        (try simp only [Act.put, List.setIfInBounds_toArray, List.set_cons_zero, List.set_cons_succ])
        refine take0 (i := 5) (oi := _) (v := ?_) rfl (by kernel_rfl) (by kernel_rfl) (by kernel_rfl) (fun _ _ _ h => h) rfl (Or.inl ⟨by rfl, ?_⟩) (fun _ => hS) ?_
        rotate_left
        · intro w0; go_simp; with_reducible rfl
        (try simp only [Act.put, List.setIfInBounds_toArray, List.set_cons_zero, List.set_cons_succ])
        refine take0 (i := 6) (oi := _) (v := ?_) rfl (by kernel_rfl) (by kernel_rfl) (by kernel_rfl) (fun _ _ _ h => h) rfl (Or.inl ⟨by rfl, ?_⟩) (fun _ => hS) ?_
        rotate_left
        · intro w0; go_simp; with_reducible rfl
        (try simp only [Act.put, List.setIfInBounds_toArray, List.set_cons_zero, List.set_cons_succ])
        refine take0 (i := 7) (oi := _) (v := ?_) rfl (by kernel_rfl) (by kernel_rfl) (by kernel_rfl) (fun _ _ _ h => h) rfl (Or.inl ⟨by rfl, ?_⟩) (fun _ => hS) ?_
        rotate_left
        · intro w0; go_simp; with_reducible rfl
        (try simp only [Act.put, List.setIfInBounds_toArray, List.set_cons_zero, List.set_cons_succ])
        refine takeS (i := 8) (oi := _) (v := ?_) rfl (by kernel_rfl) (by kernel_rfl) (by kernel_rfl) (fun _ _ _ h => h) rfl (by kernel_rfl) (by kernel_rfl) (Or.inl ⟨by rfl, ?_⟩) hS ?_
        rotate_left
        · intro w0 hSw; (try dsimp only at hSw); go_simp; with_reducible rfl
        (try simp only [Act.put, List.setIfInBounds_toArray, List.set_cons_zero, List.set_cons_succ])
        refine take0 (i := 9) (oi := _) (v := ?_) rfl (by kernel_rfl) (by kernel_rfl) (by kernel_rfl) (fun _ _ _ h => h) rfl (Or.inl ⟨by rfl, ?_⟩) (fun _ => hS) ?_
        rotate_left
        · intro w0; go_simp; with_reducible rfl
        (try simp only [Act.put, List.setIfInBounds_toArray, List.set_cons_zero, List.set_cons_succ])
        refine take0 (i := 10) (oi := _) (v := ?_) rfl (by kernel_rfl) (by kernel_rfl) (by kernel_rfl) (fun _ _ _ h => h) rfl (Or.inl ⟨by rfl, ?_⟩) (fun _ => hS) ?_
        rotate_left
        · intro w0; go_simp; with_reducible rfl
        (try simp only [Act.put, List.setIfInBounds_toArray, List.set_cons_zero, List.set_cons_succ])
        refine takeS (i := 11) (oi := _) (v := ?_) rfl (by kernel_rfl) (by kernel_rfl) (by kernel_rfl) (fun _ _ _ h => h) rfl (by kernel_rfl) (by kernel_rfl) (Or.inl ⟨by rfl, ?_⟩) hS ?_
        rotate_left
        · intro w0 hSw; (try dsimp only at hSw); go_simp; with_reducible rfl
        (try simp only [Act.put, List.setIfInBounds_toArray, List.set_cons_zero, List.set_cons_succ])
        refine oneT (i := 12) (by kernel_rfl) rfl (by rfl) (fun Kq hK => ?_)
        go_simp
        refine (add_any (cutW wd h2) wd g2 A n c L' cl' Y' cy' gm2 D' (t.take k) (y.take k) HD4.out.tr l yk ⟨l1, l2⟩ (by rw [List.length_take]; omega) (by rw [List.length_take]; omega)).mono ?_
        rintro e w5 ⟨rfl, L5, cl5, Y5, cy5, D5, hst5, hf5⟩
        have HL5 := Lib.hid (cut_low HD4.out.hi hst5.bl hf5.size)
        have HO5 := Lib.hid (HO4.out.low HD4.out.hi HL5.out)
        have HD5 := Lib.hid (HD4.out.frm hst5 hf5)
        have hS5 : w5.cell? ⟨gs, 3, none⟩ = some (.pointer (some ⟨g2, 0, none⟩)) ∧ w5.cell? ⟨g, 2, none⟩ = some (.slice (some ⟨by_, oy, none⟩) y.length cy) ∧ w5.cell? ⟨by_, oy + k, none⟩ = some (.int .i64 yk) := ⟨by have := HD5.out.sb.cell 3; simpa using this, by have := (HO5.out.keep (cutW_below HD5.out.hi)).tb.cell 2; simpa using this, by
          obtain ⟨bq, oq, yq, hYq, _, hcq, _, _, hyq⟩ := ((HO5.out.keep (cutW_below HD5.out.hi)).oy.ints HYI.out).round (show k < y.length by omega)
          cases hYq
          have h9 := hyk2.out
          rw [take_snoc_of hyq.out] at h9
          have h10 := List.append_cancel_left h9
          simp at h10
          rw [h10] at hcq
          exact hcq⟩
        have hcv5 : w5.cell? ⟨bv, ov + k, none⟩ = some (.int .i64 x) := by
          obtain ⟨bq, oq, yq, hYq, _, hcq, _, _, hyq⟩ := ((HO5.out.keep (cutW_below HD5.out.hi)).ov.ints HVI.out).round (show k < nv by omega)
          cases hYq
          have h9 := hvk2.out
          rw [take_snoc_of hyq.out] at h9
          have h10 := List.append_cancel_left h9
          simp at h10
          rw [h10] at hcq
          exact hcq
        clear hst5 hf5 HD4 HO4 hcv4 hS z1 z2 z3
        refine hK _ _ (fun _ => hS5) ?_
        clear hK
        (try simp only [Act.put, List.setIfInBounds_toArray, List.set_cons_zero, List.set_cons_succ])
        refine doneT (by kernel_rfl) ?_ _
        have HNV : Hid (nv' = k) := by have := HD5.out.vo.len; rw [List.length_map, List.length_take, HVL.out] at this; show _ = _; omega
        have hnv' : nv' ≤ 1000 := by rw [HNV.out]; omega
        have hwz := HD5.out.hi
        clear hS5
        go_wp2_with fail
        obtain ⟨wq, hwq⟩ : ∃ z : World, z = w5.drew := ⟨_, rfl⟩
        have hbq : Below w5.heap.size w5 wq := by rw [hwq]; exact below_drewN _ 1
        have hstq := Lib.hid (HD5.out.keep hbq)
        have HOQ := Lib.hid (HO5.out.low hwz (hbq.mono hwz))
        have hS : wq.cell? ⟨gs, 4, none⟩ = some (.slice V' nv' cv') ∧ wq.cell? ⟨bv, ov + k, none⟩ = some (.int .i64 x) := ⟨by have := hstq.out.sb.cell 4; simpa using this, keepBox hbq hcv5⟩
        have z1 := (cell_lt hS.1).1
        have z2 := (cell_lt hS.2).1
        have hwq2 := hstq.out.hi
        clear hbq HD5 HO5 hcv5 hwz HL5
        refine wp_region_tail (fun w' => w'.cell? ⟨gs, 4, none⟩ = some (.slice V' nv' cv') ∧ w'.cell? ⟨bv, ov + k, none⟩ = some (.int .i64 x)) [13] (by kernel_rfl) ?_
        change wpAnyT _ _ _ _ _ _ _ _ _ w5.drew
        rw [← hwq]
        clear hwq
        refine take0 (i := 0) (oi := _) (v := ?_) rfl (by kernel_rfl) (by kernel_rfl) (by kernel_rfl) (fun _ _ _ h => h) rfl (Or.inl ⟨by rfl, ?_⟩) (fun _ => hS) ?_
        rotate_left
        · intro w0; go_simp; with_reducible rfl
        (try simp only [Act.put, List.setIfInBounds_toArray, List.set_cons_zero, List.set_cons_succ])
        refine take0 (i := 1) (oi := _) (v := ?_) rfl (by kernel_rfl) (by kernel_rfl) (by kernel_rfl) (fun _ _ _ h => h) rfl (Or.inl ⟨by rfl, ?_⟩) (fun _ => hS) ?_
        rotate_left
        · intro w0; go_simp; with_reducible rfl
        (try simp only [Act.put, List.setIfInBounds_toArray, List.set_cons_zero, List.set_cons_succ])
        refine take0 (i := 2) (oi := _) (v := ?_) rfl (by kernel_rfl) (by kernel_rfl) (by kernel_rfl) (fun _ _ _ h => h) rfl (Or.inl ⟨by rfl, ?_⟩) (fun _ => hS) ?_
        rotate_left
        · intro w0; go_simp; with_reducible rfl
        (try simp only [Act.put, List.setIfInBounds_toArray, List.set_cons_zero, List.set_cons_succ])
        refine take0 (i := 3) (oi := _) (v := ?_) rfl (by kernel_rfl) (by kernel_rfl) (by kernel_rfl) (fun _ _ _ h => h) rfl (Or.inl ⟨by rfl, ?_⟩) (fun _ => hS) ?_
        rotate_left
        · intro w0; go_simp; with_reducible rfl
        (try simp only [Act.put, List.setIfInBounds_toArray, List.set_cons_zero, List.set_cons_succ])
        refine takeS (i := 4) (oi := _) (v := ?_) rfl (by kernel_rfl) (by kernel_rfl) (by kernel_rfl) (fun _ _ _ h => h) rfl (by kernel_rfl) (by kernel_rfl) (Or.inl ⟨by rfl, ?_⟩) hS ?_
        rotate_left
        · intro w0 hSw; (try dsimp only at hSw); go_simp; with_reducible rfl
        (try simp only [Act.put, List.setIfInBounds_toArray, List.set_cons_zero, List.set_cons_succ])
        refine take0 (i := 5) (oi := _) (v := ?_) rfl (by kernel_rfl) (by kernel_rfl) (by kernel_rfl) (fun _ _ _ h => h) rfl (Or.inl ⟨by rfl, ?_⟩) (fun _ => hS) ?_
        rotate_left
        · intro w0; go_simp; with_reducible rfl
        (try simp only [Act.put, List.setIfInBounds_toArray, List.set_cons_zero, List.set_cons_succ])
        refine take0 (i := 6) (oi := _) (v := ?_) rfl (by kernel_rfl) (by kernel_rfl) (by kernel_rfl) (fun _ _ _ h => h) rfl (Or.inl ⟨by rfl, ?_⟩) (fun _ => hS) ?_
        rotate_left
        · intro w0; go_simp; with_reducible rfl
        (try simp only [Act.put, List.setIfInBounds_toArray, List.set_cons_zero, List.set_cons_succ])
        refine take0 (i := 7) (oi := _) (v := ?_) rfl (by kernel_rfl) (by kernel_rfl) (by kernel_rfl) (fun _ _ _ h => h) rfl (Or.inl ⟨by rfl, ?_⟩) (fun _ => hS) ?_
        rotate_left
        · intro w0; go_simp; with_reducible rfl
        (try simp only [Act.put, List.setIfInBounds_toArray, List.set_cons_zero, List.set_cons_succ])
        refine takeS (i := 8) (oi := _) (v := ?_) rfl (by kernel_rfl) (by kernel_rfl) (by kernel_rfl) (fun _ _ _ h => h) rfl (by kernel_rfl) (by kernel_rfl) (Or.inl ⟨by rfl, ?_⟩) hS ?_
        rotate_left
        · intro w0 hSw; (try dsimp only at hSw); go_simp; with_reducible rfl
        (try simp only [Act.put, List.setIfInBounds_toArray, List.set_cons_zero, List.set_cons_succ])
        refine oneT (i := 9) (by kernel_rfl) rfl (by rfl) (fun Kq hK => ?_)
        go_simp
        obtain ⟨wa, hwa⟩ : ∃ z : World, z = wq.alloc (.cells #[.int .i64 x] 3) := ⟨_, rfl⟩
        have hba : Below wq.heap.size wq wa := by rw [hwa]; exact below_new _ _
        have HSL : Hid (Sl wa (some ⟨wq.heap.size, 0, none⟩) 1 1 [.int .i64 x]) := by rw [hwa]; exact sl_one wq 3 (.int .i64 x) rfl
        have hSa : wa.cell? ⟨gs, 4, none⟩ = some (.slice V' nv' cv') ∧ wa.cell? ⟨bv, ov + k, none⟩ = some (.int .i64 x) := ⟨keepBox hba hS.1, keepBox hba hS.2⟩
        have hsza : Hid (h2 ≤ wa.heap.size) := Nat.le_trans hwq2 hba.size
        have HBA := Lib.hid hba
        rw [← hwa]
        clear hwa hba
        refine hK _ _ (fun _ => hSa) ?_
        clear hK
        (try simp only [Act.put, List.setIfInBounds_toArray, List.set_cons_zero, List.set_cons_succ])
        refine oneT (i := 10) (by kernel_rfl) rfl (by rfl) (fun Kq hK => ?_)
        refine wp_append_sl _ (.tmp 60) (.tmp 65) 22 rfl h2 3 i0 _ 8 Tryz.underlying22 hi0 hz0 hz1 hz2 rfl V' nv' cv' _ rfl (hstq.out.vo.keep HBA.out) (some ⟨wq.heap.size, 0, none⟩) 1 1 [.int .i64 x] rfl HSL.out (by simp [Value.oneCell']) (by simp only [maxLen]; omega) (by omega) hsza.out ?_
        intro V6 cV6 w6 hO6 hG6 hA6
        obtain ⟨rb6, _⟩ := hstq.out.push1 HBA.out hG6
        have e1 := rb6.cell 4
        have f4 := rb6.frozen 4
        simp at e1
        have ltw := rb6.lt
        have hVlo : ∀ j, blockOf V' = some j → h2 ≤ j := fun j hj => by
          rcases hstq.out.vo.form with ⟨h1, _⟩ | ⟨g', cur, h1, hg', _⟩
          · rw [h1] at hj; cases hj
          · rw [h1] at hj; cases hj; exact hg'
        have hbl6 : Below h2 wq w6 := (HBA.out.mono hwq2).trans ⟨hG6.os, hG6.tape, hG6.output, hG6.size, fun j hj => hG6.block j (Nat.lt_of_lt_of_le hj hsza.out) (fun e => by have := hVlo j e.symm; omega)⟩
        have HO6 := Lib.hid (HOQ.out.low hwq2 hbl6)
        have hi6 : h2 ≤ w6.heap.size := Nat.le_trans hsza.out hG6.size
        have HD6 := Lib.hid (hstq.out.push HBA.out hO6 hG6 hA6)
        have HO7 := Lib.hid (HO6.out.set_ (i := 4) (u := .slice V6 (nv' + 1) cV6) hi6 rb6)
        have hS6 : w6.cell? ⟨gs, 4, none⟩ = some (.slice V' nv' cv') ∧ w6.cell? ⟨bv, ov + k, none⟩ = some (.int .i64 x) := ⟨e1, by
          obtain ⟨bq, oq, yq, hYq, _, hcq, _, _, hyq⟩ := ((HO6.out.keep (cutW_below hi6)).ov.ints HVI.out).round (show k < nv by omega)
          cases hYq
          have h9 := hvk2.out
          rw [take_snoc_of hyq.out] at h9
          have h10 := List.append_cancel_left h9
          simp at h10
          rw [h10] at hcq
          exact hcq⟩
        clear hO6 hG6 hA6 hbl6 hVlo HO6 HOQ hstq HBA hSa hS z1 z2 HSL rb6
        refine hK _ _ (fun _ => hS6) ?_
        clear hK
        (try simp only [Act.put, List.setIfInBounds_toArray, List.set_cons_zero, List.set_cons_succ])
        refine take0 (i := 11) (oi := _) (v := ?_) rfl (by kernel_rfl) (by kernel_rfl) (by kernel_rfl) (fun _ _ _ h => h) rfl (Or.inl ⟨by rfl, ?_⟩) (fun _ => hS6) ?_
        rotate_left
        · intro w0; go_simp; with_reducible rfl
        (try simp only [Act.put, List.setIfInBounds_toArray, List.set_cons_zero, List.set_cons_succ])
        refine take0 (i := 12) (oi := _) (v := ?_) rfl (by kernel_rfl) (by kernel_rfl) (by kernel_rfl) (fun _ _ _ h => h) rfl (Or.inl ⟨by rfl, ?_⟩) (fun _ => hS6) ?_
        rotate_left
        · intro w0; go_simp; with_reducible rfl
        (try simp only [Act.put, List.setIfInBounds_toArray, List.set_cons_zero, List.set_cons_succ])
        refine oneT (i := 13) (by kernel_rfl) rfl (by rfl) (fun Kq hK => ?_)
        go_simp
        refine hK _ _ (noT_no (by kernel_rfl)) ?_
        clear hK
        (try simp only [Act.put, List.setIfInBounds_toArray, List.set_cons_zero, List.set_cons_succ])
        refine doneT (by kernel_rfl) ?_ _
        clear hS6 e1 f4 ltw hi6
        rw [← htk.out, ← hyk2.out, ← hvk2.out] at HD6
        go_wp2_with fail
        go_roundw
        case rel => exact ⟨k + 1, L5, cl5, Y5, cy5, D5, V6, _, cV6, by omega, by go_num, HD6, HO7, hlow2⟩
        case measure => simp [intOf]; omega
    · obtain rfl : k = t.length := by omega
      have hkk : t.length = kk := by
        rw [← hk.out]
        exact (keepF_eq (n := t.length) hlow.out (fun a ha => by rw [List.getElem?_eq_none (by rw [HVL.out]; exact Nat.le_refl _)] at ha; cases ha) (by rw [HVL.out]; exact Nat.le_refl _)).symm
      have c5 := hD.out.sb.cell 5
      simp at c5
      have f5 := hD.out.sb.frozen 5
      have ltw := hD.out.sb.lt
      have HF := Lib.hid (hD.out.setLev b)
      rw [hkk] at HF
      go_wp2_with fail
      go_end0
      exact ⟨rfl, h2, g2, L', cl', Y', cy', gm2, D', V', nv', cv', HF.out⟩
end Go.Proofs.YtlfgcblijfflfaaGreat

/- Contracts of cdcl's Options (where all is in range) and no. (Printed by wip/tools/cdno.py.) -/
namespace Go.Proofs.YtlfgcblijfflfaaGreat
open Go.RowKit Go.Maps Go.WideMaps
set_option linter.unusedSimpArgs false

theorem optIn_any (x m : Int) (w : World) (r : Bool) (hr : Hid ((decide (0 ≤ x) && decide (x ≤ m)) = r)) : Calls Tryz.prog 72 #[.int .i64 x, .int .i64 m] w (RetQ (.bool r) w) := by
  by_cases h1 : 0 ≤ x
  · have d1 : decide (0 ≤ x) = true := decide_eq_true h1
    by_cases h2 : x ≤ m
    · have d2 : decide (x ≤ m) = true := decide_eq_true h2
      obtain rfl : true = r := by have := hr.out; rw [d1, d2] at this; exact this
      go_enter Tryz.func72, Tryz.ntmps72
      go_wp2_with fail
      go_ret
      exact RetQ.of0 (by first | rfl | simp [h1, h2])
    · have d2 : decide (x ≤ m) = false := decide_eq_false h2
      obtain rfl : false = r := by have := hr.out; rw [d1, d2] at this; exact this
      go_enter Tryz.func72, Tryz.ntmps72
      go_wp2_with fail
      go_ret
      exact RetQ.of0 (by first | rfl | simp [h1, h2])
  · have d1 : decide (0 ≤ x) = false := decide_eq_false h1
    obtain rfl : false = r := by have := hr.out; rw [d1] at this; exact this
    go_enter Tryz.func72, Tryz.ntmps72
    go_wp2_with fail
    go_ret
    exact RetQ.of0 (by first | rfl | simp [h1])

set_option maxHeartbeats 2000000 in
theorem options_any (s r k p f : Int) (w : World) (hs : 0 ≤ s ∧ s ≤ 1000) (hr : 0 ≤ r ∧ r ≤ 1000000) (hk : 0 ≤ k ∧ k ≤ 1000000) (hp : 0 ≤ p ∧ p ≤ 2) (hf : 0 ≤ f ∧ f ≤ 2000) :
    Calls Tryz.prog 39 #[.agg #[.int .i64 s, .int .i64 r, .int .i64 k, .int .i64 p], .int .i64 f] w (RetV (.agg #[.int .i64 0, .int .i64 0]) w) := by
  have h1 : Hid ((decide (0 ≤ s) && decide (s ≤ 1000)) = true) := by simp [Hid]; exact hs
  have h2 : Hid ((decide (0 ≤ r) && decide (r ≤ 1000000)) = true) := by simp [Hid]; exact hr
  have h3 : Hid ((decide (0 ≤ k) && decide (k ≤ 1000000)) = true) := by simp [Hid]; exact hk
  have h4 : Hid ((decide (0 ≤ p) && decide (p ≤ 2)) = true) := by simp [Hid]; exact hp
  have h5 : Hid ((decide (0 ≤ f) && decide (f ≤ 2000)) = true) := by simp [Hid]; exact hf
  clear hs hr hk hp hf
  go_enter Tryz.func39, Tryz.ntmps39
  go_wp2_with fail
  obtain ⟨W1, hW1⟩ : ∃ z : World, z = (w.alloc (.cells #[.int .i64 s, .int .i64 r, .int .i64 k, .int .i64 p] 50)).alloc (.cells #[.int .i64 0, .int .i64 0] 28) := ⟨_, rfl⟩
  have KO1 : Hid (Blk W1 w.heap.size 50 #[.int .i64 s, .int .i64 r, .int .i64 k, .int .i64 p]) := by rw [hW1]; exact (Blk.new _ _ _).alloc _
  have KF1 : Hid (Blk W1 (w.heap.size + 1) 28 #[.int .i64 0, .int .i64 0]) := by rw [hW1]; have := Blk.new (w.alloc (.cells #[.int .i64 s, .int .i64 r, .int .i64 k, .int .i64 p] 50)) 28 #[.int .i64 0, .int .i64 0]; simpa [Hid] using this
  have B1 : Hid (Below w.heap.size w W1) := by rw [hW1]; exact below_alloc (below_new _ _) _
  rw [← hW1]
  clear hW1
  refine (optIn_any s 1000 W1 true h1).mono ?_
  rintro e W2 ⟨rfl, m1, hm1⟩
  have hb1 : Below W1.heap.size W1 W2 := by rw [hm1]; exact below_drewN _ _
  have KO2 := Lib.hid (KO1.out.keep hb1)
  have KF2 := Lib.hid (KF1.out.keep hb1)
  have B2 := Lib.hid (below_next B1.out hb1)
  clear hm1 hb1 KO1 KF1 B1
  have c0 := KO2.out.cell 0
  have c1 := KO2.out.cell 1
  have c2 := KO2.out.cell 2
  have c3 := KO2.out.cell 3
  simp at c0 c1 c2 c3
  have lto := KO2.out.lt
  go_wp2_with fail
  refine (optIn_any r 1000000 W2 true h2).mono ?_
  rintro e W3 ⟨rfl, m2, hm2⟩
  have hb2 : Below W2.heap.size W2 W3 := by rw [hm2]; exact below_drewN _ _
  have KO3 := Lib.hid (KO2.out.keep hb2)
  have KF3 := Lib.hid (KF2.out.keep hb2)
  have B3 := Lib.hid (below_next B2.out hb2)
  clear hm2 hb2 KO2 KF2 B2
  clear c0 c1 c2 c3 lto
  have c0 := KO3.out.cell 0
  have c1 := KO3.out.cell 1
  have c2 := KO3.out.cell 2
  have c3 := KO3.out.cell 3
  simp at c0 c1 c2 c3
  have lto := KO3.out.lt
  go_wp2_with fail
  refine (optIn_any k 1000000 W3 true h3).mono ?_
  rintro e W4 ⟨rfl, m3, hm3⟩
  have hb3 : Below W3.heap.size W3 W4 := by rw [hm3]; exact below_drewN _ _
  have KO4 := Lib.hid (KO3.out.keep hb3)
  have KF4 := Lib.hid (KF3.out.keep hb3)
  have B4 := Lib.hid (below_next B3.out hb3)
  clear hm3 hb3 KO3 KF3 B3
  clear c0 c1 c2 c3 lto
  have c0 := KO4.out.cell 0
  have c1 := KO4.out.cell 1
  have c2 := KO4.out.cell 2
  have c3 := KO4.out.cell 3
  simp at c0 c1 c2 c3
  have lto := KO4.out.lt
  go_wp2_with fail
  refine (optIn_any p 2 W4 true h4).mono ?_
  rintro e W5 ⟨rfl, m4, hm4⟩
  have hb4 : Below W4.heap.size W4 W5 := by rw [hm4]; exact below_drewN _ _
  have KO5 := Lib.hid (KO4.out.keep hb4)
  have KF5 := Lib.hid (KF4.out.keep hb4)
  have B5 := Lib.hid (below_next B4.out hb4)
  clear hm4 hb4 KO4 KF4 B4
  clear c0 c1 c2 c3 lto
  have c0 := KO5.out.cell 0
  have c1 := KO5.out.cell 1
  have c2 := KO5.out.cell 2
  have c3 := KO5.out.cell 3
  simp at c0 c1 c2 c3
  have lto := KO5.out.lt
  go_wp2_with fail
  refine (optIn_any f 2000 W5 true h5).mono ?_
  rintro e W6 ⟨rfl, m5, hm5⟩
  have hb5 : Below W5.heap.size W5 W6 := by rw [hm5]; exact below_drewN _ _
  have KO6 := Lib.hid (KO5.out.keep hb5)
  have KF6 := Lib.hid (KF5.out.keep hb5)
  have B6 := Lib.hid (below_next B5.out hb5)
  clear hm5 hb5 KO5 KF5 B5
  clear c0 c1 c2 c3 lto
  have c0 := KO6.out.cell 0
  have c1 := KO6.out.cell 1
  have c2 := KO6.out.cell 2
  have c3 := KO6.out.cell 3
  simp at c0 c1 c2 c3
  have lto := KO6.out.lt
  have d0 := KF6.out.cell 0
  have d1 := KF6.out.cell 1
  simp at d0 d1
  have g0 := KF6.out.frozen 0
  have g1 := KF6.out.frozen 1
  have ltf := KF6.out.lt
  go_wp2_with fail
  obtain ⟨wf, hwf⟩ : ∃ z : World, z = (W6.setCell ⟨w.heap.size + 1, 0, none⟩ (.int .i64 0)).setCell ⟨w.heap.size + 1, 1, none⟩ (.int .i64 0) := ⟨_, rfl⟩
  have KZ : Blk wf (w.heap.size + 1) 28 #[.int .i64 0, .int .i64 0] := by rw [hwf]; have := (KF6.out.set_ 0 (.int .i64 0)).set_ 1 (.int .i64 0); simpa using this
  have HBZ : Hid (Below w.heap.size w wf) := by rw [hwf]; exact (B6.out.setCell (p := ⟨w.heap.size + 1, 0, none⟩) (by simp) _).setCell (p := ⟨w.heap.size + 1, 1, none⟩) (by simp) _
  have z0 := KZ.cell 0
  have z1 := KZ.cell 1
  simp at z0 z1
  rw [← hwf]
  exact bodyPost_ret (v := .agg #[.int .i64 0, .int .i64 0]) (by simp [results, Tryz.results39, go_sem, z0, z1]) rfl ⟨rfl, HBZ.out⟩

theorem negF_bd {l : List Int} (h : ∀ x ∈ l, -1000000 ≤ x ∧ x ≤ 1000000) : ∀ x ∈ negF l, I64 x := fun x hx => by
  obtain ⟨y, hy, rfl⟩ := List.mem_map.1 hx
  have := h y hy
  unfold I64
  omega
/-- No model. -/
def RetNo (w0 : World) (K : Option Addr) (nk ck : Nat) (used : Int) (e : Ending) (w' : World) : Prop :=
  ∃ S ns cs, e = .returned (.agg #[.int .i64 2, .slice none 0 0, .slice S ns cs, .slice K nk ck, .int .i64 used]) ∧ Below w0.heap.size w0 w'

set_option maxHeartbeats 8000000 in
set_option maxRecDepth 100000 in
theorem no_any (w0 wr : World) (h gs g : Nat) (vars : Int) (Q : Option Addr) (mq dq : Nat) (q : List Int) (ph : Bool) (xss : List (List Int)) (A : Option Addr) (n c : Nat) (L : Option Addr) (cl : Nat) (Y : Option Addr) (cy gm : Nat) (t y : List Int) (V : Option Addr) (nv cv : Nat) (v : List Int) (z : Int) (S : Option Addr) (ns cs : Nat) (r : LrSt w0 wr h gs g vars Q mq dq q ph xss A n c L cl Y cy gm t y V nv cv v z S ns cs) (K : Option Addr) (nk ck : Nat) (kl : List Int) (hK0 : Ints wr K nk ck kl) (hkl : ∀ x ∈ kl, -1000000 ≤ x ∧ x ≤ 1000000) (hnk : nk ≤ 1000000) (used : Int) (hns : ns ≤ 1000000) :
    Calls Tryz.prog 42 #[.pointer (some ⟨gs, 0, none⟩), .slice K nk ck, .int .i64 used] wr (RetNo w0 K nk ck used) := by
  obtain ⟨ist, hist, hsz, hss, hsb⟩ := step_parts
  have R0 := Lib.hid r
  have hw0 : Hid (w0.heap.size ≤ wr.heap.size) := r.bl.size
  have HK := Lib.hid hK0
  have HB := Lib.hid hkl
  have HKI := Lib.hid (negF_bd hkl)
  clear r hK0 hkl
  go_enter Tryz.func42, Tryz.ntmps42
  go_wp2_with fail
  obtain ⟨wo, hwo⟩ : ∃ z : World, z = wr.alloc (.cells #[.int .i64 0, .slice none 0 0, .slice none 0 0, .slice none 0 0, .int .i64 0] 46) := ⟨_, rfl⟩
  have hbo : Below wr.heap.size wr wo := by rw [hwo]; exact below_new _ _
  have KA0 : Hid (Blk wo wr.heap.size 46 #[.int .i64 0, .slice none 0 0, .slice none 0 0, .slice none 0 0, .int .i64 0]) := by rw [hwo]; exact Blk.new _ _ _
  (try rw [← hwo])
  obtain ⟨wd, hwd⟩ : ∃ z : World, z = wo.drew := ⟨_, rfl⟩
  have hbd : Below wo.heap.size wo wd := by rw [hwd]; exact below_drewN _ 1
  have R1 := Lib.hid ((R0.out.keep hbo).keep hbd)
  have HK1 := Lib.hid ((HK.out.keep hbo).keep hbd)
  have KA := Lib.hid (KA0.out.keep hbd)
  clear hbd hbo hwo KA0
  have hS : wd.cell? ⟨gs, 6, none⟩ = some (.slice S ns cs) := by have := R1.out.sb.cell 6; simpa using this
  have lt0 := R1.out.sb.lt
  refine wp_region_tail (fun w' => w'.cell? ⟨gs, 6, none⟩ = some (.slice S ns cs)) [12] (by kernel_rfl) ?_
  change wpAnyT _ _ _ _ _ _ _ _ _ wo.drew
  rw [← hwd]
  clear hwd
  refine take0 (i := 0) (oi := _) (v := ?_) rfl (by kernel_rfl) (by kernel_rfl) (by kernel_rfl) (fun _ _ _ h => h) rfl (Or.inl ⟨by rfl, ?_⟩) (fun _ => hS) ?_
  rotate_left
  · intro w0; go_simp; with_reducible rfl
  (try simp only [Act.put, List.setIfInBounds_toArray, List.set_cons_zero, List.set_cons_succ])
  refine take0 (i := 1) (oi := _) (v := ?_) rfl (by kernel_rfl) (by kernel_rfl) (by kernel_rfl) (fun _ _ _ h => h) rfl (Or.inl ⟨by rfl, ?_⟩) (fun _ => hS) ?_
  rotate_left
  · intro w0; go_simp; with_reducible rfl
  (try simp only [Act.put, List.setIfInBounds_toArray, List.set_cons_zero, List.set_cons_succ])
  refine take0 (i := 2) (oi := _) (v := ?_) rfl (by kernel_rfl) (by kernel_rfl) (by kernel_rfl) (fun _ _ _ h => h) rfl (Or.inl ⟨by rfl, ?_⟩) (fun _ => hS) ?_
  rotate_left
  · intro w0; go_simp; with_reducible rfl
  (try simp only [Act.put, List.setIfInBounds_toArray, List.set_cons_zero, List.set_cons_succ])
  refine take0 (i := 3) (oi := _) (v := ?_) rfl (by kernel_rfl) (by kernel_rfl) (by kernel_rfl) (fun _ _ _ h => h) rfl (Or.inl ⟨by rfl, ?_⟩) (fun _ => hS) ?_
  rotate_left
  · intro w0; go_simp; with_reducible rfl
  (try simp only [Act.put, List.setIfInBounds_toArray, List.set_cons_zero, List.set_cons_succ])
  refine takeS (i := 4) (oi := _) (v := ?_) rfl (by kernel_rfl) (by kernel_rfl) (by kernel_rfl) (fun _ _ _ h => h) rfl (by kernel_rfl) (by kernel_rfl) (Or.inl ⟨by rfl, ?_⟩) hS ?_
  rotate_left
  · intro w0 hSw; (try dsimp only at hSw); go_simp; with_reducible rfl
  (try simp only [Act.put, List.setIfInBounds_toArray, List.set_cons_zero, List.set_cons_succ])
  refine take0 (i := 5) (oi := _) (v := ?_) rfl (by kernel_rfl) (by kernel_rfl) (by kernel_rfl) (fun _ _ _ h => h) rfl (Or.inl ⟨by rfl, ?_⟩) (fun _ => hS) ?_
  rotate_left
  · intro w0; go_simp; with_reducible rfl
  (try simp only [Act.put, List.setIfInBounds_toArray, List.set_cons_zero, List.set_cons_succ])
  refine oneT (i := 6) (by kernel_rfl) rfl (by rfl) (fun Kq hK => ?_)
  go_simp
  refine (negated_any K nk ck kl _ HK1.out HB.out hnk).mono ?_
  rintro e w2 ⟨C2, nc2, cc2, rfl, hO2, hb2⟩
  have R2 := Lib.hid (R1.out.keep hb2)
  have KA2 := Lib.hid (KA.out.keep hb2)
  have hS2 : w2.cell? ⟨gs, 6, none⟩ = some (.slice S ns cs) := keepBox hb2 hS
  clear hO2 hb2 R1 HK1 KA hS lt0
  refine hK _ _ (fun _ => hS2) ?_
  clear hK
  (try simp only [Act.put, List.setIfInBounds_toArray, List.set_cons_zero, List.set_cons_succ])
  refine take0 (i := 7) (oi := _) (v := ?_) rfl (by kernel_rfl) (by kernel_rfl) (by kernel_rfl) (fun _ _ _ h => h) rfl (Or.inl ⟨by rfl, ?_⟩) (fun _ => hS2) ?_
  rotate_left
  · intro w0; go_simp; with_reducible rfl
  (try simp only [Act.put, List.setIfInBounds_toArray, List.set_cons_zero, List.set_cons_succ])
  refine oneT (i := 8) (by kernel_rfl) rfl (by rfl) (fun Kq hK => ?_)
  go_simp
  obtain ⟨w3, hw3⟩ : ∃ z : World, z = w2.alloc (.cells (cells9 (C2, nc2, cc2)).toArray 123) := ⟨_, rfl⟩
  have hb3 : Below w2.heap.size w2 w3 := by rw [hw3]; exact below_new _ _
  have KST : Hid (Blk w3 w2.heap.size 123 (cells9 (C2, nc2, cc2)).toArray) := by rw [hw3]; exact Blk.new _ _ _
  have R3 := Lib.hid (R2.out.keep hb3)
  have KA3 := Lib.hid (KA2.out.keep hb3)
  have hS3 : w3.cell? ⟨gs, 6, none⟩ = some (.slice S ns cs) := keepBox hb3 hS2
  have hsz3 : Hid (w0.heap.size ≤ w3.heap.size) := R3.out.bl.size
  change Kq _ (w2.alloc (.cells (cells9 (C2, nc2, cc2)).toArray 123))
  rw [← hw3]
  clear hw3 hb3 R2 KA2 hS2
  refine hK _ _ (fun _ => hS3) ?_
  clear hK
  (try simp only [Act.put, List.setIfInBounds_toArray, List.set_cons_zero, List.set_cons_succ])
  refine oneT (i := 9) (by kernel_rfl) rfl (by rfl) (fun Kq hK => ?_)
  obtain ⟨sxs, hsxs⟩ := R3.out.so
  have HSX := Lib.hid hsxs
  clear hsxs
  refine wp_append_step _ (.tmp 11) (.tmp 15) 44 rfl w0.heap.size 123 ist _ Tryz.underlying44 hist hsz hss hsb rfl S ns cs sxs rfl HSX.out w2.heap.size (cells9 (C2, nc2, cc2)) rfl rfl (fun j u hj => (KST.out.cell j).trans (by rw [List.getElem?_toArray]; exact hj)) (cells9_one_ _) (by simp only [maxLen]; omega) (by omega) hsz3.out ?_
  intro S4 cs4 w4 hO4 hG4
  obtain ⟨sb4, R5'⟩ := R3.out.step hO4 hG4
  have R5 := Lib.hid R5'
  have hT4 := Lib.hid (Typed.of_blk sb4)
  have KA4 := Lib.hid (blk_kT KA3.out hG4 (fun k hk => (HSX.out.base hk).2) (by decide))
  have KA5 : Hid (Blk (w4.setCell ⟨gs, 6, none⟩ (.slice S4 (ns + 1) cs4)) wr.heap.size 46 #[.int .i64 0, .slice none 0 0, .slice none 0 0, .slice none 0 0, .int .i64 0]) := blk_kT KA4.out (grown_setCell w4 ⟨gs, 6, none⟩ _) (fun k hk => by cases hk; exact hT4.out) (by decide)
  have e6 := sb4.cell 6
  have f6 := sb4.frozen 6
  simp at e6
  have lt4 := sb4.lt
  have hS4 : w4.cell? ⟨gs, 6, none⟩ = some (.slice S ns cs) := e6
  clear hO4 hG4 sb4 R5' R3 KA3 KA4 KST HSX hsz3 hS3 hT4
  refine hK _ _ (fun _ => hS4) ?_
  clear hK
  (try simp only [Act.put, List.setIfInBounds_toArray, List.set_cons_zero, List.set_cons_succ])
  refine take0 (i := 10) (oi := _) (v := ?_) rfl (by kernel_rfl) (by kernel_rfl) (by kernel_rfl) (fun _ _ _ h => h) rfl (Or.inl ⟨by rfl, ?_⟩) (fun _ => hS4) ?_
  rotate_left
  · intro w0; go_simp; with_reducible rfl
  (try simp only [Act.put, List.setIfInBounds_toArray, List.set_cons_zero, List.set_cons_succ])
  refine take0 (i := 11) (oi := _) (v := ?_) rfl (by kernel_rfl) (by kernel_rfl) (by kernel_rfl) (fun _ _ _ h => h) rfl (Or.inl ⟨by rfl, ?_⟩) (fun _ => hS4) ?_
  rotate_left
  · intro w0; go_simp; with_reducible rfl
  (try simp only [Act.put, List.setIfInBounds_toArray, List.set_cons_zero, List.set_cons_succ])
  refine oneT (i := 12) (by kernel_rfl) rfl (by rfl) (fun Kq hK => ?_)
  go_simp
  obtain ⟨w5, hw5⟩ : ∃ z : World, z = w4.setCell ⟨gs, 6, none⟩ (.slice S4 (ns + 1) cs4) := ⟨_, rfl⟩
  rw [← hw5] at R5 KA5 ⊢
  refine hK _ _ (noT_no (by kernel_rfl)) ?_
  clear hK
  refine doneT (by kernel_rfl) ?_ _
  clear hw5 e6 f6 lt4 hS4
  have c6 := R5.out.sb.cell 6
  simp at c6
  have lts := R5.out.sb.lt
  have a0 := KA5.out.cell 0
  have a1 := KA5.out.cell 1
  have a2 := KA5.out.cell 2
  have a3 := KA5.out.cell 3
  have a4 := KA5.out.cell 4
  simp at a0 a1 a2 a3 a4
  have g0 := KA5.out.frozen 0
  have g1 := KA5.out.frozen 1
  have g2 := KA5.out.frozen 2
  have g3 := KA5.out.frozen 3
  have g4 := KA5.out.frozen 4
  have lta := KA5.out.lt
  go_wp2_with fail
  obtain ⟨wf, hwf⟩ : ∃ z : World, z = ((((w5.setCell ⟨wr.heap.size, 0, none⟩ (.int .i64 2)).setCell ⟨wr.heap.size, 1, none⟩ (.slice none 0 0)).setCell ⟨wr.heap.size, 2, none⟩ (.slice S4 (ns + 1) cs4)).setCell ⟨wr.heap.size, 3, none⟩ (.slice K nk ck)).setCell ⟨wr.heap.size, 4, none⟩ (.int .i64 used) := ⟨_, rfl⟩
  have KZ : Hid (Blk wf wr.heap.size 46 #[.int .i64 2, .slice none 0 0, .slice S4 (ns + 1) cs4, .slice K nk ck, .int .i64 used]) := by
    rw [hwf]
    have := ((((KA5.out.set_ 0 (.int .i64 2)).set_ 1 (.slice none 0 0)).set_ 2 (.slice S4 (ns + 1) cs4)).set_ 3 (.slice K nk ck)).set_ 4 (.int .i64 used)
    simpa [Hid] using this
  have z0 := KZ.out.cell 0
  have z1 := KZ.out.cell 1
  have z2 := KZ.out.cell 2
  have z3 := KZ.out.cell 3
  have z4 := KZ.out.cell 4
  simp at z0 z1 z2 z3 z4
  have HBZ : Hid (Below w0.heap.size w0 wf) := by
    rw [hwf]
    exact ((((R5.out.bl.setCell (p := ⟨wr.heap.size, 0, none⟩) hw0.out _).setCell (p := ⟨wr.heap.size, 1, none⟩) hw0.out _).setCell (p := ⟨wr.heap.size, 2, none⟩) hw0.out _).setCell (p := ⟨wr.heap.size, 3, none⟩) hw0.out _).setCell (p := ⟨wr.heap.size, 4, none⟩) hw0.out _
  rw [← hwf]
  exact bodyPost_ret (v := .agg #[.int .i64 2, .slice none 0 0, .slice S4 (ns + 1) cs4, .slice K nk ck, .int .i64 used]) (by simp [results, Tryz.results42, go_sem, z0, z1, z2, z3, z4]) rfl ⟨S4, ns + 1, cs4, rfl, HBZ.out⟩
end Go.Proofs.YtlfgcblijfflfaaGreat

/- Contract of cdcl.Do: what it answers. (Printed by wip/tools/cddo.py.) -/
namespace Go.Proofs.YtlfgcblijfflfaaGreat
open Go.RowKit Go.Maps Go.WideMaps
set_option linter.unusedSimpArgs false

def RetCore (w : World) (e : Ending) (w' : World) : Prop :=
  ∃ K nk ck kl, e = .returned (.slice K nk ck) ∧ Ints w' K nk ck kl ∧ (∀ x ∈ kl, -1000000 ≤ x ∧ x ≤ 1000000) ∧ nk ≤ 1000000 ∧ Below w.heap.size w w'
/-- The contract of core, at asked literals q (nothing, where q is empty). -/
def CoreOk (q : List Int) : Prop := ∀ (w0 wr : World) (h gs g : Nat) (vars : Int) (Q : Option Addr) (mq dq : Nat) (ph : Bool) (xss ls : List (List Int)) (A : Option Addr) (n c : Nat) (L : Option Addr) (cl : Nat) (Y : Option Addr) (cy gm : Nat) (D : DataW Unit) (t y : List Int) (V : Option Addr) (nv cv : Nat) (v : List Int) (z : Nat) (S : Option Addr) (ns cs : Nat) (l : Int),
  CdSt w0 wr h gs g vars Q mq dq q ph (xss ++ ls) A n c L cl Y cy gm D t y V nv cv v z S ns cs → Srch vars xss ls q t y v z → 0 ≤ vars → vars ≤ 1000 → l ∈ q → -l ∈ t →
  Calls Tryz.prog 47 #[.pointer (some ⟨gs, 0, none⟩), .int .i64 l] wr (RetCore wr)
theorem core_none : CoreOk [] := fun _ _ _ _ _ _ _ _ _ _ _ _ _ _ _ _ _ _ _ _ _ _ _ _ _ _ _ _ _ _ _ l _ _ _ _ hl _ => by simp at hl

/-- What a search answers: 1: an assignment that holds; 2: there is none; 3: out of fuel. -/
structure Answ (vars : Int) (xss : List (List Int)) (q : List Int) (fuel : Nat) (w' : World) (st : Int) (hb : Option Addr) (hn hc : Nat) : Prop where
  one : st = 1 ∨ st = 2 ∨ st = 3
  yes : st = 1 → ∃ bs, Bools w' hb hn hc bs ∧ (hn : Int) = vars ∧ allB xss bs = true ∧ ∀ l ∈ q, litB bs l = true
  no : st = 2 → ∀ m : List Bool, allB xss m = true → (∀ l ∈ q, litB m l = true) → False
  out : st = 3 → fuel ≤ 3 ^ vars.toNat
def RetDo (vars : Int) (xss : List (List Int)) (q : List Int) (fuel : Nat) (w : World) (e : Ending) (w' : World) : Prop :=
  ∃ st hb hn hc S ns cs K nk ck used, e = .returned (.tuple #[.agg #[.int .i64 st, .slice hb hn hc, .slice S ns cs, .slice K nk ck, .int .i64 used], .agg #[.int .i64 0, .int .i64 0]]) ∧ Below w.heap.size w w' ∧ Answ vars xss q fuel w' st hb hn hc

theorem hldF_snoc : ∀ (t : List Int) (l : Int) (a : List Bool), hldF (t ++ [l]) a = (hldF t a).set (l.natAbs - 1) (decide (0 < l))
  | [], _, _ => rfl
  | x :: r, l, a => by rw [List.cons_append, hldF, hldF_snoc r l, hldF]
theorem bool_info_ : (Tryz.prog.info? 4).map (fun i => (i.zero, i.size, i.bytes)) = some (some (.bool false), 1, 1) := by kernel_rfl
theorem made_own (w : World) (n base : Nat) (hb : base ≤ w.heap.size) (hn : n ≤ maxLen) : Own 4 (w.alloc (.cells (madeCells #[.bool false] n) 4)) base (some ⟨w.heap.size, 0, none⟩) n n ((List.replicate n false).map Value.bool) := by
  have hs := size_madeCells #[Value.bool false] n
  have hl : (madeCells #[Value.bool false] n).toList = (List.replicate n false).map Value.bool := by
    apply List.ext_getElem?
    intro i
    rw [Array.getElem?_toList]
    by_cases hi : i < n
    · simp [madeCells, hi, Nat.mod_one]
    · rw [Array.getElem?_eq_none (by rw [hs]; omega), List.getElem?_eq_none (by simp; omega)]
  refine ⟨by simp, .inr ⟨w.heap.size, n, madeCells #[.bool false] n, rfl, hb, heap_alloc_new w _, Nat.le_refl _, hn, by rw [hs, Nat.mul_one], ?_⟩⟩
  rw [hl, Nat.mul_one]
  exact List.take_of_length_le (by simp)
theorem bool_parts_ : ∃ i, Tryz.prog.info? 4 = some i ∧ i.zero = some (.bool false) ∧ i.size = 1 ∧ i.bytes = 1 := by
  have h := bool_info_
  rw [Option.map_eq_some_iff] at h
  obtain ⟨i, h1, h2⟩ := h
  simp only [Prod.mk.injEq] at h2
  exact ⟨i, h1, h2.1, h2.2.1, h2.2.2⟩
theorem fin_own {e : TypeId} {wr : World} {base b2 b3 n c : Nat} {A : Option Addr} {xs : List Value} (h : Own e wr base A n c xs) (h2 : blockOf A ≠ some b2) (h3 : blockOf A ≠ some b3) (v0 v1 v2 v3 v4 : Value) :
    Own e (((((((wr.setCell ⟨b2, 0, none⟩ v0).setCell ⟨b2, 1, none⟩ v1).setCell ⟨b2, 2, none⟩ v2).setCell ⟨b2, 3, none⟩ v3).setCell ⟨b2, 4, none⟩ v4).setCell ⟨b3, 0, none⟩ (.int .i64 0)).setCell ⟨b3, 1, none⟩ (.int .i64 0)) base A n c xs :=
  ((((((h.kept (grown_setCell _ ⟨b2, 0, none⟩ v0) (.inr h2)).kept (grown_setCell _ ⟨b2, 1, none⟩ v1) (.inr h2)).kept (grown_setCell _ ⟨b2, 2, none⟩ v2) (.inr h2)).kept (grown_setCell _ ⟨b2, 3, none⟩ v3) (.inr h2)).kept (grown_setCell _ ⟨b2, 4, none⟩ v4) (.inr h2)).kept (grown_setCell _ ⟨b3, 0, none⟩ (.int .i64 0)) (.inr h3)).kept (grown_setCell _ ⟨b3, 1, none⟩ (.int .i64 0)) (.inr h3)
theorem Sl_nil (w : World) : Sl w none 0 0 [] := ⟨rfl, Nat.le_refl _, Nat.zero_le _, fun h => by omega⟩
/-- The answer is stored. -/
theorem fin_do {w wr : World} {B b2 b3 : Nat} (K3 : Blk wr b2 46 #[.int .i64 0, .slice none 0 0, .slice none 0 0, .slice none 0 0, .int .i64 0]) (K4 : Blk wr b3 28 #[.int .i64 0, .int .i64 0]) (hne : b2 ≠ b3) (hb : Below B w wr) (h2 : B ≤ b2) (h3 : B ≤ b3) (v0 v1 v2 v3 v4 : Value) :
    Blk (((((((wr.setCell ⟨b2, 0, none⟩ v0).setCell ⟨b2, 1, none⟩ v1).setCell ⟨b2, 2, none⟩ v2).setCell ⟨b2, 3, none⟩ v3).setCell ⟨b2, 4, none⟩ v4).setCell ⟨b3, 0, none⟩ (.int .i64 0)).setCell ⟨b3, 1, none⟩ (.int .i64 0)) b2 46 #[v0, v1, v2, v3, v4] ∧
    Blk (((((((wr.setCell ⟨b2, 0, none⟩ v0).setCell ⟨b2, 1, none⟩ v1).setCell ⟨b2, 2, none⟩ v2).setCell ⟨b2, 3, none⟩ v3).setCell ⟨b2, 4, none⟩ v4).setCell ⟨b3, 0, none⟩ (.int .i64 0)).setCell ⟨b3, 1, none⟩ (.int .i64 0)) b3 28 #[.int .i64 0, .int .i64 0] ∧
    Below B w (((((((wr.setCell ⟨b2, 0, none⟩ v0).setCell ⟨b2, 1, none⟩ v1).setCell ⟨b2, 2, none⟩ v2).setCell ⟨b2, 3, none⟩ v3).setCell ⟨b2, 4, none⟩ v4).setCell ⟨b3, 0, none⟩ (.int .i64 0)).setCell ⟨b3, 1, none⟩ (.int .i64 0)) := by
  refine ⟨?_, ?_, ?_⟩
  · have := (((((((K3.set_ 0 v0).set_ 1 v1).set_ 2 v2).set_ 3 v3).set_ 4 v4).far (p := ⟨b3, 0, none⟩) hne (.int .i64 0)).far (p := ⟨b3, 1, none⟩) hne (.int .i64 0))
    simpa using this
  · have hne' : b3 ≠ b2 := fun e => hne e.symm
    have := (((((((K4.far (p := ⟨b2, 0, none⟩) hne' v0).far (p := ⟨b2, 1, none⟩) hne' v1).far (p := ⟨b2, 2, none⟩) hne' v2).far (p := ⟨b2, 3, none⟩) hne' v3).far (p := ⟨b2, 4, none⟩) hne' v4).set_ 0 (.int .i64 0)).set_ 1 (.int .i64 0))
    simpa using this
  · exact ((((((hb.setCell (p := ⟨b2, 0, none⟩) h2 _).setCell (p := ⟨b2, 1, none⟩) h2 _).setCell (p := ⟨b2, 2, none⟩) h2 _).setCell (p := ⟨b2, 3, none⟩) h2 _).setCell (p := ⟨b2, 4, none⟩) h2 _).setCell (p := ⟨b3, 0, none⟩) h3 _).setCell (p := ⟨b3, 1, none⟩) h3 _
theorem Clz.mono {w : World} {low low' n c : Nat} {A : Option Addr} {xss : List (List Int)} (h : Clz w low A n c xss) (hl : low ≤ low') : Clz w low' A n c xss := by
  obtain ⟨vs, h1, h2, h3⟩ := h.ex
  exact ⟨⟨vs, h1, fun a ha => (h2 a ha).imp (fun e => Nat.lt_of_lt_of_le e hl) id, h3.mono hl⟩, h.nil⟩
theorem Srch.lev_le {vars : Int} {cs0 ls : List (List Int)} {q t y v : List Int} {z : Nat} (h : Srch vars cs0 ls q t y v z) : z ≤ t.length := by
  have h1 := length_le_of_sub ((List.range z).map fun k : Nat => (k : Int) + 1) v ?_ ?_
  · rw [List.length_map, List.length_range, h.lev.len, h.hist.1] at h1; exact h1
  · unfold List.Nodup
    rw [List.pairwise_map]
    exact List.nodup_range.imp fun hne e => hne (by omega)
  · intro x hx
    obtain ⟨k, hk, rfl⟩ := List.mem_map.1 hx
    have := List.mem_range.1 hk
    obtain ⟨i, _, hi⟩ := h.beg (k + 1) (by omega) (by omega)
    exact List.mem_of_getElem? (by rw [hi]; congr 1)
/-- A search that begins. -/
theorem CdSt.start {w0 w1 : World} {vars : Int} {Q : Option Addr} {mq dq : Nat} {q : List Int} {ph : Bool} {xss : List (List Int)} {A : Option Addr} {n c g gm : Nat} {D : DataW Unit} (hz : Clz w0 w0.heap.size A n c xss) (hq : Ints w0 Q mq dq q) (st : TrSt w0 w1 g A n c none 0 none 0 gm D [] []) :
    CdSt w0 (w1.alloc (.cells #[.int .i64 vars, .slice Q mq dq, .bool ph, .pointer (some ⟨g, 0, none⟩), .slice none 0 0, .int .i64 0, .slice none 0 0] 81)) w0.heap.size w1.heap.size g vars Q mq dq q ph xss A n c none 0 none 0 gm D [] [] none 0 0 [] 0 none 0 0 := by
  have hb : Below w1.heap.size w1 (w1.alloc (.cells #[.int .i64 vars, .slice Q mq dq, .bool ph, .pointer (some ⟨g, 0, none⟩), .slice none 0 0, .int .i64 0, .slice none 0 0] 81)) := below_new _ _
  have hbl := below_next st.bl hb
  have hi := hbl.size
  exact ⟨Nat.le_refl _, hi, hbl, (st.keep hb).base_ (cutW_size hi) (cutW_below hi), (hz.keep (cutW_top w0)).keep (cutW_keep (Nat.le_refl _) hbl), Blk.new _ _ _, st.bl.size, Own.nil _ _ _, .inl rfl, .inl rfl, ⟨[], World.ownsRow_nil _ _ _ _⟩, hq⟩

set_option maxHeartbeats 16000000 in
set_option maxRecDepth 100000 in
theorem cdcl_any (A0 Q : Option Addr) (n0 c0 mq dq : Nat) (xss : List (List Int)) (q : List Int) (vars : Int) (w : World) (h0 : Grid w A0 n0 c0 xss) (hA : A0 = none → c0 = 0) (hA2 : ∀ a, A0 = some a → a.block < w.heap.size) (hq0 : Ints w Q mq dq q) (hr : besideR vars xss q = (0, 0))
    (so ro ko po : Int) (hs1 : 0 ≤ so ∧ so ≤ 1000) (hs2 : 0 ≤ ro ∧ ro ≤ 1000000) (hs3 : 0 ≤ ko ∧ ko ≤ 1000000) (hs4 : 0 ≤ po ∧ po ≤ 2) (fuel : Nat) (hf : fuel ≤ 2000) (HCO : CoreOk q) :
    Calls Tryz.prog 15 #[.agg #[.int .i64 vars, .slice A0 n0 c0], .slice Q mq dq, .agg #[.int .i64 so, .int .i64 ro, .int .i64 ko, .int .i64 po], .int .i64 fuel] w (RetDo vars xss q fuel w) := by
  obtain ⟨_, hck, hlq⟩ := besideR_ok (vars := vars) (xss := xss) (l := q) (by rw [hr])
  obtain ⟨_, v0, v1, hn400, hrows⟩ := checkC_ok hck
  obtain ⟨vN, rfl⟩ : ∃ vN : Nat, vars = (vN : Int) := ⟨vars.toNat, by omega⟩
  have HC : Hid (∀ x ∈ xss, Lits vN x) := fun x hx => (hrows x hx).2
  have HQL : Hid (Lits vN q) := hlq
  have hn0 : n0 ≤ 400 := by rw [← h0.len]; exact hn400
  have HR := Lib.hid hr
  have HZ0 : Hid (xss.length ≤ 400) := hn400
  have vI : I64 (vN : Int) := by unfold I64; omega
  have HS1 := Lib.hid hs1
  have HS2 := Lib.hid hs2
  have HS3 := Lib.hid hs3
  have HS4 := Lib.hid hs4
  have hfu : Hid (0 ≤ (fuel : Int) ∧ (fuel : Int) ≤ 2000) := ⟨by omega, by omega⟩
  obtain ⟨W1, hW1⟩ : ∃ z : World, z = (((w.alloc (.cells #[.int .i64 (vN : Int), .slice A0 n0 c0] 25)).alloc (.cells #[.int .i64 so, .int .i64 ro, .int .i64 ko, .int .i64 po] 50)).alloc (.cells #[.int .i64 0, .slice none 0 0, .slice none 0 0, .slice none 0 0, .int .i64 0] 46)).alloc (.cells #[.int .i64 0, .int .i64 0] 28) := ⟨_, rfl⟩
  have B1 : Hid (Below w.heap.size w W1) := by rw [hW1]; exact below_alloc (below_alloc (below_alloc (below_new _ _) _) _) _
  have J1 : Hid (Blk W1 w.heap.size 25 #[.int .i64 (vN : Int), .slice A0 n0 c0]) := by rw [hW1]; exact (((Blk.new _ _ _).alloc _).alloc _).alloc _
  have J2 : Hid (Blk W1 (w.heap.size + 1) 50 #[.int .i64 so, .int .i64 ro, .int .i64 ko, .int .i64 po]) := by rw [hW1]; have := ((Blk.new (w.alloc (.cells #[.int .i64 (vN : Int), .slice A0 n0 c0] 25)) 50 #[.int .i64 so, .int .i64 ro, .int .i64 ko, .int .i64 po]).alloc (.cells #[.int .i64 0, .slice none 0 0, .slice none 0 0, .slice none 0 0, .int .i64 0] 46)).alloc (.cells #[.int .i64 0, .int .i64 0] 28); simpa [Hid] using this
  have J3 : Hid (Blk W1 (w.heap.size + 1 + 1) 46 #[.int .i64 0, .slice none 0 0, .slice none 0 0, .slice none 0 0, .int .i64 0]) := by rw [hW1]; have := (Blk.new ((w.alloc (.cells #[.int .i64 (vN : Int), .slice A0 n0 c0] 25)).alloc (.cells #[.int .i64 so, .int .i64 ro, .int .i64 ko, .int .i64 po] 50)) 46 #[.int .i64 0, .slice none 0 0, .slice none 0 0, .slice none 0 0, .int .i64 0]).alloc (.cells #[.int .i64 0, .int .i64 0] 28); simpa [Hid] using this
  have J4 : Hid (Blk W1 (w.heap.size + 1 + 1 + 1) 28 #[.int .i64 0, .int .i64 0]) := by rw [hW1]; have := Blk.new (((w.alloc (.cells #[.int .i64 (vN : Int), .slice A0 n0 c0] 25)).alloc (.cells #[.int .i64 so, .int .i64 ro, .int .i64 ko, .int .i64 po] 50)).alloc (.cells #[.int .i64 0, .slice none 0 0, .slice none 0 0, .slice none 0 0, .int .i64 0] 46)) 28 #[.int .i64 0, .int .i64 0]; simpa [Hid] using this
  have HZ1 := Lib.hid ((Clz.of_grid h0 hA hA2).keep B1.out)
  have HG1 := Lib.hid (h0.keep B1.out)
  have HI1 := Lib.hid (hq0.keep B1.out)
  clear hrows hck hlq h0 hA hA2 hq0 hr hs1 hs2 hs3 hs4 hn400
  go_enter Tryz.func15, Tryz.ntmps15
  go_wp2_with fail
  rw [← hW1]
  clear hW1
  have HZ := HZ1
  have HG := HG1
  have HI := HI1
  clear HZ1 HG1 HI1
  refine (both_any _ _ _ _ _ _ xss q vN W1 HG.out vI HI.out 0 0 HR.out).mono ?_
  rintro e w1 ⟨rfl, hb1⟩
  have B2 := Lib.hid (below_next B1.out hb1)
  have J1b := Lib.hid (J1.out.keep hb1)
  have J2b := Lib.hid (J2.out.keep hb1)
  have J3b := Lib.hid (J3.out.keep hb1)
  have J4b := Lib.hid (J4.out.keep hb1)
  have HZb := Lib.hid (HZ.out.keep hb1)
  have HGb := Lib.hid (HG.out.keep hb1)
  have HIb := Lib.hid (HI.out.keep hb1)
  have o0 := J2b.out.cell 0
  have o1 := J2b.out.cell 1
  have o2 := J2b.out.cell 2
  have o3 := J2b.out.cell 3
  simp at o0 o1 o2 o3
  have zo := J2b.out.lt
  clear hb1 B1 J1 J2 J3 J4 HZ HG HI
  go_wp2_with fail
  obtain ⟨W2, hW2⟩ : ∃ z : World, z = w1.alloc (.cells #[.int .i64 0, .int .i64 0] 28) := ⟨_, rfl⟩
  have hb2 : Below w1.heap.size w1 W2 := by rw [hW2]; exact below_new _ _
  have B3 := Lib.hid (below_next B2.out hb2)
  have J1c := Lib.hid (J1b.out.keep hb2)
  have J2c := Lib.hid (J2b.out.keep hb2)
  have J3c := Lib.hid (J3b.out.keep hb2)
  have J4c := Lib.hid (J4b.out.keep hb2)
  have HZc := Lib.hid (HZb.out.keep hb2)
  have HGc := Lib.hid (HGb.out.keep hb2)
  have HIc := Lib.hid (HIb.out.keep hb2)
  rw [← hW2]
  clear hW2 hb2 B2 J1b J2b J3b J4b HZb HGb HIb o0 o1 o2 o3 zo
  refine (options_any so ro ko po fuel W2 HS1.out HS2.out HS3.out HS4.out hfu.out).mono ?_
  rintro e w3 ⟨rfl, hb3⟩
  have B4 := Lib.hid (below_next B3.out hb3)
  have J1d := Lib.hid (J1c.out.keep hb3)
  have J2d := Lib.hid (J2c.out.keep hb3)
  have J3d := Lib.hid (J3c.out.keep hb3)
  have J4d := Lib.hid (J4c.out.keep hb3)
  have HZd := Lib.hid (HZc.out.keep hb3)
  have HGd := Lib.hid (HGc.out.keep hb3)
  have HId := Lib.hid (HIc.out.keep hb3)
  have o0 := J1d.out.cell 0
  have o1 := J1d.out.cell 1
  simp at o0 o1
  have zo := J1d.out.lt
  have p0 := J2d.out.cell 0
  have p1 := J2d.out.cell 1
  have p2 := J2d.out.cell 2
  have p3 := J2d.out.cell 3
  simp at p0 p1 p2 p3
  have zp := J2d.out.lt
  clear hb3 B3 J1c J2c J3c J4c HZc HGc HIc
  go_wp2_with fail
  obtain ⟨w0, hw0⟩ : ∃ z : World, z = (w3.alloc (.cells #[.int .i64 0, .int .i64 0] 28)).drew := ⟨_, rfl⟩
  have hb4 : Below w3.heap.size w3 w0 := by rw [hw0]; exact below_next (below_new _ _) (below_drewN _ 1)
  have B5 := Lib.hid (below_next B4.out hb4)
  have J1e := Lib.hid (J1d.out.keep hb4)
  have J2e := Lib.hid (J2d.out.keep hb4)
  have J3e := Lib.hid (J3d.out.keep hb4)
  have J4e := Lib.hid (J4d.out.keep hb4)
  have HZe := Lib.hid (HZd.out.keep hb4)
  have HGe := Lib.hid (HGd.out.keep hb4)
  have HIe := Lib.hid (HId.out.keep hb4)
  clear hb4 B4 J1d J2d J3d J4d HZd HGd HId o0 o1 zo p0 p1 p2 p3 zp
  have hS : w0.cell? ⟨w.heap.size, 0, none⟩ = some (.int .i64 (vN : Int)) ∧ w0.cell? ⟨w.heap.size, 1, none⟩ = some (.slice A0 n0 c0) ∧ w0.cell? ⟨w.heap.size + 1, 3, none⟩ = some (.int .i64 po) := ⟨by have := J1e.out.cell 0; simpa using this, by have := J1e.out.cell 1; simpa using this, by have := J2e.out.cell 3; simpa using this⟩
  have zc := (cell_lt hS.1).1
  have zo := (cell_lt hS.2.2).1
  refine wp_region_tail (fun w' => w'.cell? ⟨w.heap.size, 0, none⟩ = some (.int .i64 (vN : Int)) ∧ w'.cell? ⟨w.heap.size, 1, none⟩ = some (.slice A0 n0 c0) ∧ w'.cell? ⟨w.heap.size + 1, 3, none⟩ = some (.int .i64 po)) [] (by kernel_rfl) ?_
  change wpAnyT _ _ _ _ _ _ _ _ _ (w3.alloc (.cells #[.int .i64 0, .int .i64 0] 28)).drew
  rw [← hw0]
  clear hw0
  refine take0 (i := 0) (oi := _) (v := ?_) rfl (by kernel_rfl) (by kernel_rfl) (by kernel_rfl) (fun _ _ _ h => h) rfl (Or.inl ⟨by rfl, ?_⟩) (fun _ => hS) ?_
  rotate_left
  · intro w0; go_simp; with_reducible rfl
  (try simp only [Act.put, List.setIfInBounds_toArray, List.set_cons_zero, List.set_cons_succ])
  refine takeS (i := 1) (oi := _) (v := ?_) rfl (by kernel_rfl) (by kernel_rfl) (by kernel_rfl) (fun _ _ _ h => h) rfl (by kernel_rfl) (by kernel_rfl) (Or.inl ⟨by rfl, ?_⟩) hS ?_
  rotate_left
  · intro w0 hSw; (try dsimp only at hSw); go_simp; with_reducible rfl
  (try simp only [Act.put, List.setIfInBounds_toArray, List.set_cons_zero, List.set_cons_succ])
  refine take0 (i := 2) (oi := _) (v := ?_) rfl (by kernel_rfl) (by kernel_rfl) (by kernel_rfl) (fun _ _ _ h => h) rfl (Or.inl ⟨by rfl, ?_⟩) (fun _ => hS) ?_
  rotate_left
  · intro w0; go_simp; with_reducible rfl
  (try simp only [Act.put, List.setIfInBounds_toArray, List.set_cons_zero, List.set_cons_succ])
  refine take0 (i := 3) (oi := _) (v := ?_) rfl (by kernel_rfl) (by kernel_rfl) (by kernel_rfl) (fun _ _ _ h => h) rfl (Or.inl ⟨by rfl, ?_⟩) (fun _ => hS) ?_
  rotate_left
  · intro w0; go_simp; with_reducible rfl
  (try simp only [Act.put, List.setIfInBounds_toArray, List.set_cons_zero, List.set_cons_succ])
  refine takeS (i := 4) (oi := _) (v := ?_) rfl (by kernel_rfl) (by kernel_rfl) (by kernel_rfl) (fun _ _ _ h => h) rfl (by kernel_rfl) (by kernel_rfl) (Or.inl ⟨by rfl, ?_⟩) hS ?_
  rotate_left
  · intro w0 hSw; (try dsimp only at hSw); go_simp; with_reducible rfl
  (try simp only [Act.put, List.setIfInBounds_toArray, List.set_cons_zero, List.set_cons_succ])
  refine take0 (i := 5) (oi := _) (v := ?_) rfl (by kernel_rfl) (by kernel_rfl) (by kernel_rfl) (fun _ _ _ h => h) rfl (Or.inl ⟨by rfl, ?_⟩) (fun _ => hS) ?_
  rotate_left
  · intro w0; go_simp; with_reducible rfl
  (try simp only [Act.put, List.setIfInBounds_toArray, List.set_cons_zero, List.set_cons_succ])
  refine take0 (i := 6) (oi := _) (v := ?_) rfl (by kernel_rfl) (by kernel_rfl) (by kernel_rfl) (fun _ _ _ h => h) rfl (Or.inl ⟨by rfl, ?_⟩) (fun _ => hS) ?_
  rotate_left
  · intro w0; go_simp; with_reducible rfl
  (try simp only [Act.put, List.setIfInBounds_toArray, List.set_cons_zero, List.set_cons_succ])
  refine takeS (i := 7) (oi := _) (v := ?_) rfl (by kernel_rfl) (by kernel_rfl) (by kernel_rfl) (fun _ _ _ h => h) rfl (by kernel_rfl) (by kernel_rfl) (Or.inl ⟨by rfl, ?_⟩) hS ?_
  rotate_left
  · intro w0 hSw; (try dsimp only at hSw); go_simp; with_reducible rfl
  (try simp only [Act.put, List.setIfInBounds_toArray, List.set_cons_zero, List.set_cons_succ])
  refine oneT (i := 8) (by kernel_rfl) rfl (by rfl) (fun Kq hK => ?_)
  go_simp
  refine (new_any A0 n0 c0 w0).mono ?_
  rintro e w4 ⟨g, gm, rfl, hst⟩
  have hb5 := hst.bl
  have hS4 : w4.cell? ⟨w.heap.size, 0, none⟩ = some (.int .i64 (vN : Int)) ∧ w4.cell? ⟨w.heap.size, 1, none⟩ = some (.slice A0 n0 c0) ∧ w4.cell? ⟨w.heap.size + 1, 3, none⟩ = some (.int .i64 po) := ⟨keepBox hb5 hS.1, keepBox hb5 hS.2.1, keepBox hb5 hS.2.2⟩
  have HD0 : Hid (CdSt w0 (w4.alloc (.cells #[.int .i64 (vN : Int), .slice Q mq dq, .bool (po == 1), .pointer (some ⟨g, 0, none⟩), .slice none 0 0, .int .i64 0, .slice none 0 0] 81)) w0.heap.size w4.heap.size g vN Q mq dq q (po == 1) xss A0 n0 c0 none 0 none 0 gm (.map []) [] [] none 0 0 [] 0 none 0 0) := CdSt.start (Clz.mono HZe.out B5.out.size) HIe.out hst
  clear hb5 hst hS
  refine hK _ _ (fun _ => hS4) ?_
  clear hK
  (try simp only [Act.put, List.setIfInBounds_toArray, List.set_cons_zero, List.set_cons_succ])
  refine take0 (i := 9) (oi := _) (v := ?_) rfl (by kernel_rfl) (by kernel_rfl) (by kernel_rfl) (fun _ _ _ h => h) rfl (Or.inl ⟨by rfl, ?_⟩) (fun _ => hS4) ?_
  rotate_left
  · intro w0; go_simp; with_reducible rfl
  (try simp only [Act.put, List.setIfInBounds_toArray, List.set_cons_zero, List.set_cons_succ])
  refine oneT (i := 10) (by kernel_rfl) rfl (by rfl) (fun Kq hK => ?_)
  go_simp
  obtain ⟨w5, hw5⟩ : ∃ z : World, z = w4.alloc (.cells #[.int .i64 (vN : Int), .slice Q mq dq, .bool (po == 1), .pointer (some ⟨g, 0, none⟩), .slice none 0 0, .int .i64 0, .slice none 0 0] 81) := ⟨_, rfl⟩
  have hb6 : Below w4.heap.size w4 w5 := by rw [hw5]; exact below_new _ _
  rw [← hw5] at HD0 ⊢
  clear hw5
  obtain ⟨gs, hgs⟩ : ∃ z : Nat, w4.heap.size = z := ⟨_, rfl⟩
  rw [hgs] at HD0 ⊢
  have hS5 : w5.cell? ⟨w.heap.size, 0, none⟩ = some (.int .i64 (vN : Int)) ∧ w5.cell? ⟨w.heap.size, 1, none⟩ = some (.slice A0 n0 c0) ∧ w5.cell? ⟨w.heap.size + 1, 3, none⟩ = some (.int .i64 po) := ⟨keepBox hb6 hS4.1, keepBox hb6 hS4.2.1, keepBox hb6 hS4.2.2⟩
  clear hb6 hS4 hgs
  refine hK _ _ (fun _ => hS5) ?_
  clear hK
  (try simp only [Act.put, List.setIfInBounds_toArray, List.set_cons_zero, List.set_cons_succ])
  refine take0 (i := 11) (oi := _) (v := ?_) rfl (by kernel_rfl) (by kernel_rfl) (by kernel_rfl) (fun _ _ _ h => h) rfl (Or.inl ⟨by rfl, ?_⟩) (fun _ => hS5) ?_
  rotate_left
  · intro w0; go_simp; with_reducible rfl
  (try simp only [Act.put, List.setIfInBounds_toArray, List.set_cons_zero, List.set_cons_succ])
  refine doneT (by kernel_rfl) ?_ _
  clear hS5 zc zo
  obtain ⟨ph, hph⟩ : ∃ z : Bool, (po == 1) = z := ⟨_, rfl⟩
  rw [hph] at HD0
  clear hph
  have HSR : Hid (Srch vN xss [] q [] [] [] 0) := srch_start q HC.out
  have hM0 : Hid ((fuel - 0) * (vN + 2) + (vN + 1 - ([] : List Int).length) ≤ fuel * (vN + 2) + vN + 1) := by simp only [Hid, List.length_nil, Nat.sub_zero]; rw [Nat.add_assoc]; exact Nat.le_refl _
  have HJ1 := Lib.hid J1e.out
  clear HZe HGe HIe J2e
  go_wp2_with fail
  go_loopg [13] (fuel * (vN + 2) + vN + 1) (fun f s13 wr => ∃ (h g : Nat) (ls : List (List Int)) (A : Option Addr) (n c : Nat) (L : Option Addr) (cl : Nat) (Y : Option Addr) (cy gm : Nat) (D : DataW Unit) (t y : List Int) (V : Option Addr) (nv cv : Nat) (v : List Int) (z : Nat) (S : Option Addr) (ns cs : Nat) (used : Nat), s13 = .int .i64 used ∧ Hid (CdSt w0 wr h gs g vN Q mq dq q ph (xss ++ ls) A n c L cl Y cy gm D t y V nv cv v z S ns cs) ∧ Hid (Srch vN xss ls q t y v z) ∧ used ≤ fuel ∧ Hid (used = ls.length) ∧ Hid (ns = ls.length) ∧ Hid ((fuel - used) * (vN + 2) + (vN + 1 - t.length) ≤ f))
  case atStart => exact ⟨_, _, [], A0, n0, c0, none, 0, none, 0, gm, _, [], [], none, 0, 0, [], 0, none, 0, 0, 0, rfl, by rw [List.append_nil]; exact HD0, HSR, Nat.zero_le _, rfl, rfl, hM0⟩
  case round =>
    clear HD0 HSR hM0
    obtain ⟨h, g, ls, A, n, c, L, cl, Y, cy, gm, D, t, y, V, nv, cv, v, z, S, ns, cs, used, rfl, hD, hS, hu, hul, hnl, hM⟩ := hrel
    have htl : t.length ≤ vN := by have := hS.out.lits.len_le v0; omega
    obtain ⟨t', y', a, hrun⟩ : ∃ t' y' a, Hid (runF (xss ++ ls) ((vN : Int).toNat + 1) t y = (t', y', a)) := ⟨_, _, _, rfl⟩
    obtain ⟨hS1, hful, hbad, hat⟩ := hS.out.run v0 hrun.out
    have HHI : Hid (y.length = t.length) := hS.out.hist.1
    have HCL : Hid (∀ x ∈ xss ++ ls, Lits vN x) := hS.out.cls
    have HLT : Hid (Lits vN t) := hS.out.lits
    obtain ⟨v', hv'⟩ : ∃ v', Hid (v ++ List.replicate (t'.length - v.length) (z : Int) = v') := ⟨_, rfl⟩
    rw [hv'.out] at hS1
    have HS1' := Lib.hid hS1
    have HFU := Lib.hid hful
    have HBA := Lib.hid hbad
    have hnN : Hid (n ≤ 4000) := by
      have h1 := hD.out.cz.len
      rw [List.length_append] at h1
      have h2 := HZ0.out
      have h3 := hul.out
      show _ ≤ _; omega
    clear hS1 hful hbad
    go_wp2_with fail
    refine (propagate_any w0 wr h gs g vN Q mq dq q ph (xss ++ ls) A n c L cl Y cy gm D t y V nv cv v z S ns cs hD.out v0 (by omega) HCL.out HLT.out HHI.out ((vN : Int).toNat + 1) (by omega) t' y' a hrun).mono ?_
    rintro e w6 ⟨rfl, L1, cl1, Y1, cy1, D1, V1, nv1, cv1, hd1⟩
    rw [hv'.out] at hd1
    have HD1 := Lib.hid hd1
    have hzl : Hid (z ≤ vN ∧ t'.length ≤ vN) := by
      have h1 := HS1'.out.lev_le
      have h2 := HS1'.out.lits.len_le v0
      exact ⟨by omega, by omega⟩
    have hzl2 := hzl.out
    have HYL : Hid (y'.length = t'.length) := HS1'.out.hist.1
    have HVL : Hid (v'.length = t'.length) := HS1'.out.lev.len.trans HS1'.out.hist.1
    have HB6 : Hid (Below w.heap.size w w6) := B5.out.trans (HD1.out.bl.mono B5.out.size)
    have M3 := Lib.hid (J3e.out.keep HD1.out.bl)
    have M4 := Lib.hid (J4e.out.keep HD1.out.bl)
    have HT64 : Hid (∀ x ∈ t', I64 x) := fun x hx => by have := HS1'.out.lits.1 x hx; unfold I64; omega
    have HV64 : Hid (∀ x ∈ v', I64 x) := fun x hx => by
      obtain ⟨i, hi, e1⟩ := List.getElem_of_mem hx
      have := HS1'.out.lev.low i x (by rw [List.getElem?_eq_getElem hi, e1])
      unfold I64; omega
    have HY64 : Hid (∀ x ∈ y', I64 x) := fun x hx => by
      obtain ⟨i, hi, e1⟩ := List.getElem_of_mem hx
      have hx1 : y'[i]? = some x := by rw [List.getElem?_eq_getElem hi, e1]
      by_cases h0 : 0 ≤ x
      · have hit : i < t'.length := by rw [← HYL.out]; exact hi
        obtain ⟨cc, c1, _⟩ := HS1'.out.hist.2 i x _ hx1 (List.getElem?_eq_getElem hit) h0
        have h5 := (List.getElem?_eq_some_iff.1 c1).1
        have h6 := hD.out.cz.len
        have h7 := hnN.out
        unfold I64; omega
      · have := (HS1'.out.lev.new i x hx1 (by omega)).1
        unfold I64; omega
    have HTT : Hid (t.length ≤ t'.length) := by
      have h1 := runF_ok v0 HCL.out ((vN : Int).toNat + 1) t y HLT.out (by omega)
      rw [hrun.out] at h1
      obtain ⟨u, hu'⟩ := h1.ext
      simp only at hu'
      rw [hu', List.length_append]
      exact Nat.le_add_right _ _
    clear hd1 hD hS hrun hv' HHI HLT
    by_cases ha : 0 ≤ a
    · have dge : decide (0 ≤ a) = true := decide_eq_true ha
      obtain ⟨cB, hcB1, hcB2⟩ := HBA.out ha
      obtain ⟨aN, haN⟩ : ∃ k : Nat, a = (k : Int) := ⟨a.toNat, by omega⟩
      subst haN
      rw [Int.toNat_natCast] at hcB1
      have HCB := Lib.hid (And.intro hcB1 hcB2)
      clear hcB1 hcB2 HBA HFU
      by_cases huf : used = fuel
      · subst huf
        have duf : ((used : Int) == (used : Int)) = true := by simp
        have a0 := M3.out.cell 0
        have a1 := M3.out.cell 1
        have a2 := M3.out.cell 2
        have a3 := M3.out.cell 3
        have a4 := M3.out.cell 4
        simp at a0 a1 a2 a3 a4
        have g0 := M3.out.frozen 0
        have g1 := M3.out.frozen 1
        have g2 := M3.out.frozen 2
        have g3 := M3.out.frozen 3
        have g4 := M3.out.frozen 4
        have d0 := M4.out.cell 0
        have d1 := M4.out.cell 1
        simp at d0 d1
        have e0 := M4.out.frozen 0
        have e1 := M4.out.frozen 1
        have lt3 := M3.out.lt
        have lt4 := M4.out.lt
        go_wp2_with fail
        obtain ⟨f3, f4, f5⟩ := fin_do M3.out M4.out (by omega) HB6.out (by omega) (by omega) (.int .i64 3) (.slice none 0 0) (.slice none 0 0) (.slice none 0 0) (.int .i64 used)
        obtain ⟨wf, hwf⟩ : ∃ z : World, z = (((((((w6.setCell ⟨w.heap.size + 1 + 1, 0, none⟩ (.int .i64 3)).setCell ⟨w.heap.size + 1 + 1, 1, none⟩ (.slice none 0 0)).setCell ⟨w.heap.size + 1 + 1, 2, none⟩ (.slice none 0 0)).setCell ⟨w.heap.size + 1 + 1, 3, none⟩ (.slice none 0 0)).setCell ⟨w.heap.size + 1 + 1, 4, none⟩ (.int .i64 used)).setCell ⟨w.heap.size + 1 + 1 + 1, 0, none⟩ (.int .i64 0)).setCell ⟨w.heap.size + 1 + 1 + 1, 1, none⟩ (.int .i64 0)) := ⟨_, rfl⟩
        rw [← hwf] at f3 f4 f5 ⊢
        have z0 := f3.cell 0
        have z1 := f3.cell 1
        have z2 := f3.cell 2
        have z3 := f3.cell 3
        have z4 := f3.cell 4
        have y0 := f4.cell 0
        have y1 := f4.cell 1
        simp at z0 z1 z2 z3 z4 y0 y1
        exact bodyPost_ret (v := .tuple #[.agg #[.int .i64 3, .slice none 0 0, .slice none 0 0, .slice none 0 0, .int .i64 used], .agg #[.int .i64 0, .int .i64 0]]) (by simp [results, Tryz.results15, go_sem, z0, z1, z2, z3, z4, y0, y1]) rfl ⟨_, _, _, _, _, _, _, _, _, _, _, rfl, f5, ⟨.inr (.inr rfl), fun h => by omega, fun h => by omega, fun _ => by have := HS1'.out.bound; rw [hul.out]; exact this⟩⟩
      have duf : ((used : Int) == (fuel : Int)) = false := by rw [beq_eq_false_iff_ne]; omega
      have c5 := HD1.out.sb.cell 5
      simp at c5
      have lts := HD1.out.sb.lt
      by_cases hz0 : z = 0
      · subst hz0
        have HIN : Hid (Ints w6 none 0 0 []) := ⟨Sl_nil w6, by simp⟩
        have HNO : Hid (∀ m : List Bool, allB xss m = true → False) := fun m hm => HS1'.out.no (a := (aN : Int)) (by omega) (by rw [Int.toNat_natCast]; exact HCB.out.1) HCB.out.2 hm
        go_wp2_with fail
        refine (no_any w0 w6 h gs g vN Q mq dq q ph (xss ++ ls) A n c L1 cl1 Y1 cy1 gm t' y' V1 nv1 cv1 v' _ S ns cs HD1.out.lr none 0 0 [] HIN.out (by simp) (by omega) _ (by rw [hnl.out, ← hul.out]; omega)).mono ?_
        rintro e w7 ⟨S7, ns7, cs7, rfl, hb7⟩
        have HB7 : Hid (Below w.heap.size w w7) := B5.out.trans (hb7.mono B5.out.size)
        have N3 := Lib.hid (J3e.out.keep hb7)
        have N4 := Lib.hid (J4e.out.keep hb7)
        clear hb7 c5 lts M3 M4 HD1
        have a0 := N3.out.cell 0
        have a1 := N3.out.cell 1
        have a2 := N3.out.cell 2
        have a3 := N3.out.cell 3
        have a4 := N3.out.cell 4
        simp at a0 a1 a2 a3 a4
        have g0 := N3.out.frozen 0
        have g1 := N3.out.frozen 1
        have g2 := N3.out.frozen 2
        have g3 := N3.out.frozen 3
        have g4 := N3.out.frozen 4
        have d0 := N4.out.cell 0
        have d1 := N4.out.cell 1
        simp at d0 d1
        have e0 := N4.out.frozen 0
        have e1 := N4.out.frozen 1
        have lt3 := N3.out.lt
        have lt4 := N4.out.lt
        go_wp2_with fail
        obtain ⟨f3, f4, f5⟩ := fin_do N3.out N4.out (by omega) HB7.out (by omega) (by omega) (.int .i64 2) (.slice none 0 0) (.slice S7 ns7 cs7) (.slice none 0 0) (.int .i64 ((used : Int) + 1))
        obtain ⟨wf, hwf⟩ : ∃ z : World, z = (((((((w7.setCell ⟨w.heap.size + 1 + 1, 0, none⟩ (.int .i64 2)).setCell ⟨w.heap.size + 1 + 1, 1, none⟩ (.slice none 0 0)).setCell ⟨w.heap.size + 1 + 1, 2, none⟩ (.slice S7 ns7 cs7)).setCell ⟨w.heap.size + 1 + 1, 3, none⟩ (.slice none 0 0)).setCell ⟨w.heap.size + 1 + 1, 4, none⟩ (.int .i64 ((used : Int) + 1))).setCell ⟨w.heap.size + 1 + 1 + 1, 0, none⟩ (.int .i64 0)).setCell ⟨w.heap.size + 1 + 1 + 1, 1, none⟩ (.int .i64 0)) := ⟨_, rfl⟩
        rw [← hwf] at f3 f4 f5 ⊢
        have z0 := f3.cell 0
        have z1 := f3.cell 1
        have z2 := f3.cell 2
        have z3 := f3.cell 3
        have z4 := f3.cell 4
        have y0 := f4.cell 0
        have y1 := f4.cell 1
        simp at z0 z1 z2 z3 z4 y0 y1
        exact bodyPost_ret (v := .tuple #[.agg #[.int .i64 2, .slice none 0 0, .slice S7 ns7 cs7, .slice none 0 0, .int .i64 ((used : Int) + 1)], .agg #[.int .i64 0, .int .i64 0]]) (by simp [results, Tryz.results15, go_sem, z0, z1, z2, z3, z4, y0, y1]) rfl ⟨_, _, _, _, _, _, _, _, _, _, _, rfl, f5, ⟨.inr (.inl rfl), fun h => by omega, fun _ m hm _ => HNO.out m hm, fun h => by omega⟩⟩
      have dz0 : ((z : Int) == 0) = false := by rw [beq_eq_false_iff_ne]; omega
      have HLK := Lib.hid (HD1.out.look HT64.out HY64.out HV64.out HVL.out HYL.out)
      have HTO := Lib.hid (HS1'.out.told (a := (aN : Int)) (.inr (by omega)) (fun _ => ⟨cB, by rw [Int.toNat_natCast]; exact HCB.out.1, HCB.out.2⟩))
      obtain ⟨d, hd⟩ : ∃ d, Hid (lrnF (xss ++ ls) t' y' v' z ((xss ++ ls).getD aN []) = d) := ⟨_, rfl⟩
      obtain ⟨bk, hbk⟩ : ∃ bk, Hid (bckF t' v' z d 0 = bk) := ⟨_, rfl⟩
      have hgd : (xss ++ ls).getD aN [] = cB := by rw [List.getD_eq_getElem?_getD, HCB.out.1]; rfl
      obtain ⟨hS2, hbk0, hbkz⟩ := HS1'.out.learn (a := (aN : Int)) (by omega) (by omega) (by rw [Int.toNat_natCast]; exact HCB.out.1) HCB.out.2 (by rw [← hgd]; exact hd.out) hbk.out
      have HS2 := Lib.hid hS2
      obtain ⟨bkN, hbkN⟩ : ∃ k : Nat, bk = (k : Int) := ⟨bk.toNat, by omega⟩
      subst hbkN
      rw [Int.toNat_natCast] at HS2
      have HDL : Hid (Lits vN d) := by have h9 := HS2.out.cls d (by simp); exact h9
      obtain ⟨kk, hkk⟩ : ∃ kk, Hid (keepF v' (bkN : Int) = kk) := ⟨_, rfl⟩
      rw [hkk.out] at HS2
      clear hS2 hgd
      go_wp2_with fail
      refine (analysed_any w6 gs A n c (xss ++ ls) t' y' v' z aN vN HLK.out v0 (by omega) HTO.out HCL.out (by omega) (by omega) d hd _ hbk).mono ?_
      rintro e w7 ⟨C, nc, cc, rfl, hC, hb7⟩
      have HD2 := Lib.hid (HD1.out.keep hb7)
      have HC7 := Lib.hid hC
      have hncl : nc ≤ vN := by have h1 := hC.len; rw [List.length_map] at h1; have h2 := HDL.out.len_le v0; omega
      clear hC hb7 HLK HTO HD1 c5 lts hd hbk M3 M4
      go_wp2_with fail
      refine (learn_any w0 w7 h gs g vN Q mq dq q ph (xss ++ ls) A n c L1 cl1 Y1 cy1 gm D1 t' y' V1 nv1 cv1 v' z S ns cs HD2.out C nc cc _ d HC7.out (fun x hx => by have := HDL.out.1 x hx; omega) (by omega) (by have := hnN.out; omega) (by rw [hnl.out, ← hul.out]; omega)).mono ?_
      rintro e w8 ⟨rfl, A8, c8, S8, cs8, hl8⟩
      have HL8 := Lib.hid hl8
      clear hl8 HC7 HD2
      go_wp2_with fail
      refine (back_any w0 w8 h gs g vN Q mq dq q ph ((xss ++ ls) ++ [d]) A8 (n + 1) c8 L1 cl1 Y1 cy1 gm t' y' V1 nv1 cv1 v' z S8 (ns + 1) cs8 HL8.out (bkN : Int) (by unfold I64; omega) HYL.out HVL.out (by omega) HT64.out HY64.out HV64.out kk hkk).mono ?_
      rintro e w9 ⟨rfl, h9, g9, L9, cl9, Y9, cy9, gm9, D9, V9, nv9, cv9, hd9⟩
      rw [List.append_assoc] at hd9
      have HD9 := Lib.hid hd9
      clear hd9 HL8
      have hM1 : Hid ((fuel - (used + 1)) * (vN + 2) + (vN + 1 - (t'.take kk).length) ≤ gk - 1 ∧ 0 < gk) := by
        have h1 := hM.out
        rw [show fuel - used = (fuel - (used + 1)) + 1 by omega, Nat.succ_mul] at h1
        generalize (fuel - (used + 1)) * (vN + 2) = X at h1 ⊢
        exact ⟨by omega, by omega⟩
      have hul2 : Hid (used + 1 = (ls ++ [d]).length) := by rw [List.length_append, ← hul.out]; rfl
      have hnl2 : Hid (ns + 1 = (ls ++ [d]).length) := by rw [List.length_append, ← hnl.out]; rfl
      go_wp2_with fail
      go_roundg (gk - 1)
      case measure => have := hM1.out.2; omega
      case rel => exact ⟨h9, g9, ls ++ [d], A8, n + 1, c8, L9, cl9, Y9, cy9, gm9, D9, t'.take kk, y'.take kk, V9, nv9, cv9, v'.take kk, bkN, S8, ns + 1, cs8, used + 1, by go_num, HD9, HS2, by omega, hul2, hnl2, hM1.out.1⟩
    · have dge : decide (0 ≤ a) = false := decide_eq_false ha
      have HFF := Lib.hid (HFU.out (by omega))
      clear HBA HFU
      go_wp2_with fail
      refine (decide_any w0 w6 h gs g vN Q mq dq q ph (xss ++ ls) A n c L1 cl1 Y1 cy1 gm D1 t' y' V1 nv1 cv1 v' z S ns cs HD1.out v0 (by omega) HQL.out HS1'.out.lits HYL.out HVL.out (by omega)).mono ?_
      rintro e w7 (⟨l, rfl, hlq, hln, hl0, L2, cl2, Y2, cy2, D2, V2, nv2, cv2, hd2⟩ | ⟨rfl, hqa, hva, L2, cl2, Y2, cy2, D2, V2, nv2, cv2, hd2⟩ | ⟨x, rfl, hch, L2, cl2, Y2, cy2, D2, V2, nv2, cv2, hd2⟩)
      · have HD2 := Lib.hid hd2
        have dl0 : (l != 0) = true := by rw [bne_iff_ne]; exact hl0
        have HNO : Hid (∀ m : List Bool, allB xss m = true → (∀ x ∈ q, litB m x = true) → False) := fun m hm hq => HS1'.out.core hlq hln hl0 hm hq
        have HLQ := Lib.hid hlq
        have HLN := Lib.hid hln
        clear hd2 HD1 M3 M4 hlq hln
        go_wp2_with fail
        refine (HCO w0 w7 h gs g vN Q mq dq ph xss ls A n c L2 cl2 Y2 cy2 gm D2 t' y' V2 nv2 cv2 v' z S ns cs l HD2.out HS1'.out v0 (by omega) HLQ.out HLN.out).mono ?_
        rintro e w8 ⟨K, nk, ck, kl, rfl, hK, hkl, hnk, hb8⟩
        have HD3 := Lib.hid (HD2.out.keep hb8)
        have HK := Lib.hid hK
        have HKL := Lib.hid hkl
        clear hK hkl hb8 HD2
        go_wp2_with fail
        refine (no_any w0 w8 h gs g vN Q mq dq q ph (xss ++ ls) A n c L2 cl2 Y2 cy2 gm t' y' V2 nv2 cv2 v' _ S ns cs HD3.out.lr K nk ck kl HK.out HKL.out hnk _ (by rw [hnl.out, ← hul.out]; omega)).mono ?_
        rintro e w9 ⟨S7, ns7, cs7, rfl, hb7⟩
        have HB7 : Hid (Below w.heap.size w w9) := B5.out.trans (hb7.mono B5.out.size)
        have N3 := Lib.hid (J3e.out.keep hb7)
        have N4 := Lib.hid (J4e.out.keep hb7)
        clear hb7 HD3 HK
        have a0 := N3.out.cell 0
        have a1 := N3.out.cell 1
        have a2 := N3.out.cell 2
        have a3 := N3.out.cell 3
        have a4 := N3.out.cell 4
        simp at a0 a1 a2 a3 a4
        have g0 := N3.out.frozen 0
        have g1 := N3.out.frozen 1
        have g2 := N3.out.frozen 2
        have g3 := N3.out.frozen 3
        have g4 := N3.out.frozen 4
        have d0 := N4.out.cell 0
        have d1 := N4.out.cell 1
        simp at d0 d1
        have e0 := N4.out.frozen 0
        have e1 := N4.out.frozen 1
        have lt3 := N3.out.lt
        have lt4 := N4.out.lt
        go_wp2_with fail
        obtain ⟨f3, f4, f5⟩ := fin_do N3.out N4.out (by omega) HB7.out (by omega) (by omega) (.int .i64 2) (.slice none 0 0) (.slice S7 ns7 cs7) (.slice K nk ck) (.int .i64 (used : Int))
        obtain ⟨wf, hwf⟩ : ∃ z : World, z = (((((((w9.setCell ⟨w.heap.size + 1 + 1, 0, none⟩ (.int .i64 2)).setCell ⟨w.heap.size + 1 + 1, 1, none⟩ (.slice none 0 0)).setCell ⟨w.heap.size + 1 + 1, 2, none⟩ (.slice S7 ns7 cs7)).setCell ⟨w.heap.size + 1 + 1, 3, none⟩ (.slice K nk ck)).setCell ⟨w.heap.size + 1 + 1, 4, none⟩ (.int .i64 (used : Int))).setCell ⟨w.heap.size + 1 + 1 + 1, 0, none⟩ (.int .i64 0)).setCell ⟨w.heap.size + 1 + 1 + 1, 1, none⟩ (.int .i64 0)) := ⟨_, rfl⟩
        rw [← hwf] at f3 f4 f5 ⊢
        have z0 := f3.cell 0
        have z1 := f3.cell 1
        have z2 := f3.cell 2
        have z3 := f3.cell 3
        have z4 := f3.cell 4
        have y0 := f4.cell 0
        have y1 := f4.cell 1
        simp at z0 z1 z2 z3 z4 y0 y1
        exact bodyPost_ret (v := .tuple #[.agg #[.int .i64 2, .slice none 0 0, .slice S7 ns7 cs7, .slice K nk ck, .int .i64 (used : Int)], .agg #[.int .i64 0, .int .i64 0]]) (by simp [results, Tryz.results15, go_sem, z0, z1, z2, z3, z4, y0, y1]) rfl ⟨_, _, _, _, _, _, _, _, _, _, _, rfl, f5, ⟨.inr (.inl rfl), fun h => by omega, fun _ m hm hq => HNO.out m hm hq, fun h => by omega⟩⟩
      · have HD2 := Lib.hid hd2
        have HQA := Lib.hid hqa
        have HVA := Lib.hid hva
        obtain ⟨bs, hbs⟩ : ∃ bs, Hid (hldF t' (List.replicate vN false) = bs) := ⟨_, rfl⟩
        obtain ⟨y1_, y2_⟩ := HS1'.out.yes v0 HFF.out HVA.out HQA.out
        rw [Int.toNat_natCast, hbs.out] at y1_ y2_
        have HY1 := Lib.hid y1_
        have HY2 := Lib.hid y2_
        have N1 := Lib.hid (HJ1.out.keep HD2.out.bl)
        have c0b := N1.out.cell 0
        simp at c0b
        have ltc := N1.out.lt
        have c3 := HD2.out.sb.cell 3
        have d1 := HD2.out.tr.tb.cell 1
        simp at c3 d1
        have lts := HD2.out.sb.lt
        have ltg := HD2.out.tr.tb.lt
        obtain ⟨iB, hiB, hBz, hBs, hBb⟩ := bool_parts_
        have hmk : (Instr.makeSlice 33 (.int .i64 (vN : Int)) (.int .i64 (vN : Int))).run Tryz.prog w7 = .ok (.slice (some ⟨w7.heap.size, 0, none⟩) vN vN) (w7.alloc (.cells (madeCells #[.bool false] vN) 4)) := run_make_row _ _ iB (.bool false) Tryz.underlying33 hiB hBz hBs rfl .i64 .i64 vN (by rw [hBb]; omega) (by omega) w7
        clear y1_ y2_ hqa hva hd2 HD1 M3 M4
        obtain ⟨wm, hwm⟩ : ∃ z : World, z = w7.alloc (.cells (madeCells #[.bool false] vN) 4) := ⟨_, rfl⟩
        have hbm : Below w7.heap.size w7 wm := by rw [hwm]; exact below_new _ _
        have HO0 : Hid (Own 4 wm w7.heap.size (some ⟨w7.heap.size, 0, none⟩) vN vN ((List.replicate vN false).map Value.bool)) := by rw [hwm]; exact made_own w7 vN w7.heap.size (Nat.le_refl _) (by simp only [maxLen]; omega)
        have HBM := Lib.hid hbm
        have c3 := keepBox hbm c3
        have d1 := keepBox hbm d1
        have lts := (cell_lt c3).1
        have ltg := (cell_lt d1).1
        rw [← hwm] at hmk
        obtain ⟨gb, hgb⟩ : ∃ z : Nat, w7.heap.size = z := ⟨_, rfl⟩
        rw [hgb] at hmk HO0
        have HGB := Lib.hid hgb
        clear hwm hbm hgb
        go_wp2_with fail
        clear hmk c0b ltc c3 d1 lts ltg
        go_loopw [108] (fun s wr => ∃ (k : Nat), k ≤ t'.length ∧ s = .int .i64 k ∧ Hid (Own 4 wr gb (some ⟨gb, 0, none⟩) vN vN ((hldF (t'.take k) (List.replicate vN false)).map Value.bool)) ∧ Hid (Below gb w7 wr)) (fun i _ => t'.length - (intOf i).toNat)
        case atStart => exact ⟨0, Nat.zero_le _, rfl, HO0, by rw [← HGB.out]; exact HBM.out⟩
        case round =>
          clear HO0 HBM
          obtain ⟨k, hk, rfl, hO, hBB⟩ := hrel
          have hbb : Below w7.heap.size w7 wr := by rw [HGB.out]; exact hBB.out
          have HDR := Lib.hid (HD2.out.keep hbb)
          have IT : Ints wr L2 t'.length cl2 t' := by
            have := HDR.out.tr.lits.ints HT64.out
            exact this
          by_cases hkn : k < t'.length
          · obtain ⟨bt, ot, l, hLe, hbt, hcl, l1, l2, hlk⟩ := IT.round hkn
            have hlb := HS1'.out.lits.1 l (List.mem_of_getElem? hlk.out)
            obtain ⟨p, hp⟩ : ∃ p : Nat, l.natAbs = p + 1 := ⟨l.natAbs - 1, by omega⟩
            have hpn : p < vN := by omega
            obtain ⟨_, ub, hge, _, hgl, hcb, hfb, _⟩ := hO.out.at_ hpn
            cases hge
            have HNX : Hid (hldF (t'.take (k + 1)) (List.replicate vN false) = (hldF (t'.take k) (List.replicate vN false)).set p (decide (0 < l))) := by
              show _ = _
              rw [take_snoc_of hlk.out, hldF_snoc, hp]
              rfl
            have HP := Lib.hid hp
            have LE : Hid (L2 = some ⟨bt, ot, none⟩) := hLe
            have u1 : (0 : Int) ≤ (k : Int) := by omega
            have u2 : (k : Int) < (t'.length : Int) := by omega
            have u3 : (0 : Int) ≤ (p : Int) := by omega
            have u4 : (p : Int) < (vN : Int) := by omega
            subst hLe
            clear hlk IT hp
            go_wp2_with fail
            refine (var_any l wr (by omega) (by omega)).mono ?_
            rintro e wv ⟨rfl, mv, hmv⟩
            have hbv : Below wr.heap.size wr wv := by rw [hmv]; exact below_drewN _ _
            have hcb2 := keepBox hbv hcb
            have hOv := Lib.hid (hO.out.keep hbv)
            have hBv : Hid (Below gb w7 wv) := hBB.out.trans (hbv.mono (by omega))
            obtain ⟨_, ub2, hge2, _, hgl2, hcb3, hfb2, _⟩ := hOv.out.at_ hpn
            cases hge2
            have ej : ((l.natAbs : Nat) : Int) - 1 = (p : Int) := by have := HP.out; omega
            clear hmv hbv hcb hfb hO hBB hbb hgl hcb2 HDR
            go_wp2_with fail
            go_roundw
            case rel =>
              refine ⟨k + 1, by omega, by go_num, ?_, ?_⟩
              · have h7 := hOv.out.set_ p (.bool (decide (0 < l)))
                rw [HNX.out, List.map_set]
                exact h7
              · exact hBv.out.setCell (p := ⟨gb, p, none⟩) (Nat.le_refl _) _
            case measure => simp [intOf]; omega
          · obtain rfl : k = t'.length := by omega
            have HOW : Hid (Own 4 wr gb (some ⟨gb, 0, none⟩) vN vN (bs.map Value.bool)) := by have := hO.out; rw [List.take_of_length_le (Nat.le_refl _), hbs.out] at this; exact this
            have P3 := Lib.hid (J3e.out.keep HDR.out.bl)
            have P4 := Lib.hid (J4e.out.keep HDR.out.bl)
            have HBR : Hid (Below w.heap.size w wr) := B5.out.trans (HDR.out.bl.mono B5.out.size)
            have hge4 : w.heap.size + 1 + 1 + 1 < gb := by rw [← HGB.out]; have h1 := (J4e.out.keep HD2.out.bl).lt; omega
            clear IT hO hBB hbb HDR
            have a0 := P3.out.cell 0
            have a1 := P3.out.cell 1
            have a2 := P3.out.cell 2
            have a3 := P3.out.cell 3
            have a4 := P3.out.cell 4
            simp at a0 a1 a2 a3 a4
            have g0 := P3.out.frozen 0
            have g1 := P3.out.frozen 1
            have g2 := P3.out.frozen 2
            have g3 := P3.out.frozen 3
            have g4 := P3.out.frozen 4
            have d0 := P4.out.cell 0
            have d1 := P4.out.cell 1
            simp at d0 d1
            have e0 := P4.out.frozen 0
            have e1 := P4.out.frozen 1
            have lt3 := P3.out.lt
            have lt4 := P4.out.lt
            go_wp2_with fail
            obtain ⟨f3, f4, f5⟩ := fin_do P3.out P4.out (by omega) HBR.out (by omega) (by omega) (.int .i64 1) (.slice (some ⟨gb, 0, none⟩) vN vN) (.slice none 0 0) (.slice none 0 0) (.int .i64 (used : Int))
            have f6 := fin_own (b2 := w.heap.size + 1 + 1) (b3 := w.heap.size + 1 + 1 + 1) HOW.out (by simp only [blockOf, ne_eq, Option.some.injEq]; omega) (by simp only [blockOf, ne_eq, Option.some.injEq]; omega) (.int .i64 1) (.slice (some ⟨gb, 0, none⟩) vN vN) (.slice none 0 0) (.slice none 0 0) (.int .i64 (used : Int))
            obtain ⟨wf, hwf⟩ : ∃ z : World, z = (((((((wr.setCell ⟨w.heap.size + 1 + 1, 0, none⟩ (.int .i64 1)).setCell ⟨w.heap.size + 1 + 1, 1, none⟩ (.slice (some ⟨gb, 0, none⟩) vN vN)).setCell ⟨w.heap.size + 1 + 1, 2, none⟩ (.slice none 0 0)).setCell ⟨w.heap.size + 1 + 1, 3, none⟩ (.slice none 0 0)).setCell ⟨w.heap.size + 1 + 1, 4, none⟩ (.int .i64 (used : Int))).setCell ⟨w.heap.size + 1 + 1 + 1, 0, none⟩ (.int .i64 0)).setCell ⟨w.heap.size + 1 + 1 + 1, 1, none⟩ (.int .i64 0)) := ⟨_, rfl⟩
            rw [← hwf] at f3 f4 f5 f6 ⊢
            have z0 := f3.cell 0
            have z1 := f3.cell 1
            have z2 := f3.cell 2
            have z3 := f3.cell 3
            have z4 := f3.cell 4
            have y0 := f4.cell 0
            have y1 := f4.cell 1
            simp at z0 z1 z2 z3 z4 y0 y1
            exact bodyPost_ret (v := .tuple #[.agg #[.int .i64 1, .slice (some ⟨gb, 0, none⟩) vN vN, .slice none 0 0, .slice none 0 0, .int .i64 (used : Int)], .agg #[.int .i64 0, .int .i64 0]]) (by simp [results, Tryz.results15, go_sem, z0, z1, z2, z3, z4, y0, y1]) rfl ⟨_, _, _, _, _, _, _, _, _, _, _, rfl, f5, ⟨.inl rfl, fun _ => ⟨bs, f6.sl, rfl, HY1.out, HY2.out⟩, fun h => by omega, fun h => by omega⟩⟩
      · have e1 : ((z + 1 : Nat) : Int) = (z : Int) + 1 := by omega
        rw [← e1] at hd2
        have HD2 := Lib.hid hd2
        have HS2 := Lib.hid (HS1'.out.decide HFF.out ⟨hch.ne, hch.bd⟩ hch.no.1 hch.no.2 hch.qs)
        rw [← e1] at HS2
        have hM1 : Hid ((fuel - used) * (vN + 2) + (vN + 1 - (t' ++ [x]).length) ≤ gk - 1 ∧ 0 < gk) := by
          have h1 := hM.out
          have h2 := HTT.out
          rw [List.length_append, List.length_singleton]
          generalize (fuel - used) * (vN + 2) = X at h1 ⊢
          exact ⟨by omega, by omega⟩
        clear hd2 e1 HD1 M3 M4
        go_wp2_with fail
        go_roundg (gk - 1)
        case measure => have := hM1.out.2; omega
        case rel => exact ⟨h, g, ls, A, n, c, L2, cl2, Y2, cy2, gm, D2, t' ++ [x], y' ++ [-1], V2, nv2, cv2, _, z + 1, S, ns, cs, used, rfl, HD2, HS2, hu, hul, hnl, hM1.out.1⟩

end Go.Proofs.YtlfgcblijfflfaaGreat
