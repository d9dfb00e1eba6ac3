/- Contracts of slices.Equal at ints, slices.CompareFunc with cnf.Order, the closures of cnf.Normal; of slices.SortFunc at rows. -/
import Derived.Test.YtlfgcblijfflfaaGreatSorted
import Derived.Test.YtlfgcblijfflfaaGreatCloneR
namespace Go.Proofs.YtlfgcblijfflfaaGreat
open Go.RowKit Go.Sort

set_option maxHeartbeats 400000 in
theorem equal_ints (A B : Option Addr) (n c m d : Nat) (xs ys : List Int) (w : World) (h : Ints w A n c xs) (h' : Ints w B m d ys) (r : Bool) (hr : Hid (sameB xs ys = r)) :
    Calls Tryz.prog 65 #[.slice A n c, .slice B m d] w (RetQ (.bool r) w) := by
  have hbd := h.bd
  have hbd' := h'.bd
  have hl := Lib.hid h.len
  have hl' := Lib.hid h'.len
  by_cases hnm : n = m
  · subst hnm
    have hr' : Hid (sameF xs ys = r) := by rw [sameF_eq _ _ (by rw [hl.out, hl'.out])]; exact hr
    have d1 : ((n : Int) != (n : Int)) = false := by simp
    go_enter Tryz.func65, Tryz.ntmps65
    go_wp2_with fail
    go_loopw [13] (fun i wr => ∃ k : Nat, k ≤ n ∧ i = .int .i64 k ∧ Hid (sameF (xs.drop k) (ys.drop k) = r) ∧ Hid (∃ m, wr = w.drewN m)) (fun i _ => n - (intOf i).toNat)
    case atStart => exact ⟨0, Nat.zero_le _, rfl, hr'.out, ⟨0, rfl⟩⟩
    case round =>
      obtain ⟨k, hk, rfl, hn, hB⟩ := hrel
      have hx : Ints wr A n c xs := by obtain ⟨m, rfl⟩ := hB.out; exact h.drewN m
      have hx' : Ints wr B n d ys := by obtain ⟨m, rfl⟩ := hB.out; exact h'.drewN m
      by_cases hlt : k < n
      · obtain ⟨b, off, x, rfl, hb, hcell, _, _, hy⟩ := hx.round hlt
        obtain ⟨b', off', y, rfl, hb', hcell', _, _, hy'⟩ := hx'.round hlt
        have hn2 : Hid ((if x != y then false else sameF (xs.drop (k + 1)) (ys.drop (k + 1))) = r) := by
          have := hn.out
          rw [drop_cons_of hy.out, drop_cons_of hy'.out, sameF] at this
          exact this
        have z4 : (k : Int) < (n : Int) := by omega
        have z5 : (0 : Int) ≤ (k : Int) := by omega
        cases hxy : (x != y)
        · go_wp2_with fail
          go_quiet (fail)
          go_wp2_with fail
          go_roundw
          case rel => exact ⟨k + 1, by omega, by go_num, by have := hn2.out; rw [hxy] at this; exact this, by obtain ⟨m, rfl⟩ := hB.out; exact ⟨_, World.drewN_drewN _ _ _⟩⟩
          case measure => simp [intOf]; omega
        · have : false = r := by rw [← hn2.out, hxy]; rfl
          subst this
          go_wp2_with fail
          go_quiet (fail)
          go_wp2_with fail
          go_ret
          obtain ⟨m2, rfl⟩ := hB.out
          rw [World.drewN_drewN]
          exact RetQ.of _ rfl
      · have : true = r := by
          rw [← hn.out, List.drop_of_length_le (by have := hl.out; omega)]; rfl
        subst this
        go_wp2_with fail
        go_ret
        obtain ⟨m2, rfl⟩ := hB.out
        exact RetQ.of _ rfl
  · have : false = r := by
      rw [← hr.out]
      symm
      rw [Bool.eq_false_iff]
      intro e
      have := sameB_iff.1 e
      rw [this, hl'.out] at hl
      exact hnm hl.out.symm
    subst this
    have d1 : ((n : Int) != (m : Int)) = true := by simp; omega
    go_enter Tryz.func65, Tryz.ntmps65
    go_wp2_with fail
    go_ret
    exact RetQ.of0 rfl
theorem normal2_any (A B : Option Addr) (n c m d : Nat) (xs ys : List Int) (w : World) (h : Ints w A n c xs) (h' : Ints w B m d ys) (r : Bool) (hr : Hid (sameB xs ys = r)) :
    Calls Tryz.prog 64 #[.slice A n c, .slice B m d] w (RetQ (.bool r) w) := by
  go_enter Tryz.func64, Tryz.ntmps64
  go_wp2_with fail
  refine (equal_ints _ _ _ _ _ _ xs ys w h h' r hr).mono ?_
  rintro e w1 ⟨rfl, m1, rfl⟩
  go_wp2_with fail
  go_ret
  exact RetQ.of _ rfl
theorem enters_n2 : ∀ args w, (callFunc 64 args).run Tryz.prog w = .ok (.enter 64 args) w := enters_of Tryz.func64 (by kernel_rfl) rfl

/-- How two clauses compare. -/
def rowCmp : List Int → List Int → Int
  | [], [] => 0
  | [], _ :: _ => -1
  | _ :: _, [] => 1
  | a :: l, b :: m => if ordF a b != 0 then ordF a b else rowCmp l m
theorem rowCmp_lt : ∀ {l m : List Int}, rowCmp l m < 0 ↔ befB l m = true
  | [], [] => by simp [rowCmp, befB]
  | [], _ :: _ => by simp [rowCmp, befB]
  | _ :: _, [] => by simp [rowCmp, befB]
  | a :: l, b :: m => by
    rw [rowCmp, befB]
    by_cases e : a = b
    · subst e
      have : ordF a a = 0 := ordF_zero.2 rfl
      rw [if_pos rfl, this]
      simpa using rowCmp_lt (l := l) (m := m)
    · have : ordF a b ≠ 0 := fun h => e (ordF_zero.1 h)
      rw [if_neg e, if_pos (by simpa using this)]
      exact ordF_lt

set_option maxHeartbeats 1000000 in
theorem compare_rows (A B : Option Addr) (n c m d : Nat) (xs ys : List Int) (w : World) (h : Ints w A n c xs) (h' : Ints w B m d ys) (hs : ∀ x ∈ xs, -1000000 ≤ x ∧ x ≤ 1000000) (hs' : ∀ x ∈ ys, -1000000 ≤ x ∧ x ≤ 1000000) (r : Int) (hr : Hid (rowCmp xs ys = r)) :
    Calls Tryz.prog 60 #[.slice A n c, .slice B m d, .func (.func 61) #[] #[]] w (RetG (.int .i64 r) w) := by
  have hbd := h.bd
  have hbd' := h'.bd
  have hl := Lib.hid h.len
  have hl' := Lib.hid h'.len
  have eo := enters_order
  have HX := Lib.hid h
  have HY := Lib.hid h'
  have HS := Lib.hid hs
  have HS' := Lib.hid hs'
  clear h h' hs hs'
  go_enter Tryz.func60, Tryz.ntmps60
  go_wp2_with fail
  go_loopw [13] (fun i wr => ∃ k : Nat, k ≤ n ∧ k ≤ m ∧ i = .int .i64 k ∧ Hid (∃ q os, wr = Sort.grow (w.drewN q) os) ∧ Hid (rowCmp (xs.drop k) (ys.drop k) = r)) (fun i _ => n - (intOf i).toNat)
  case atStart => exact ⟨0, Nat.zero_le _, Nat.zero_le _, rfl, ⟨0, #[], by show w = Sort.grow w #[]; simp [Sort.grow]⟩, hr⟩
  case round =>
    obtain ⟨k, hk, hkm, rfl, hB, hgo⟩ := hrel
    have hbl : Below w.heap.size w wr := by obtain ⟨q, os, rfl⟩ := hB.out; exact below_grow w q os
    by_cases hlt : k < n
    · obtain ⟨b, off, x, rfl, hb, hcell, x1, x2, hxk⟩ := (HX.out.keep hbl).round hlt
      have hxb := HS.out x (List.mem_of_getElem? hxk.out)
      by_cases hltm : k < m
      · obtain ⟨b', off', y, rfl, hb', hcell', y1, y2, hyk⟩ := (HY.out.keep hbl).round hltm
        have hyb := HS'.out y (List.mem_of_getElem? hyk.out)
        obtain ⟨o, ho⟩ : ∃ o, Hid (ordF x y = o) := ⟨_, rfl⟩
        have hgo2 : Hid ((if o != 0 then o else rowCmp (xs.drop (k + 1)) (ys.drop (k + 1))) = r) := by have := hgo.out; rw [drop_cons_of hxk.out, drop_cons_of hyk.out, rowCmp, ho.out] at this; exact this
        have dm : ¬ (m : Int) ≤ (k : Int) := by omega
        have dm2 : ¬ m ≤ k := by omega
        have z1 : (0 : Int) ≤ (k : Int) := by omega
        have z2 : (k : Int) < (m : Int) := by omega
        clear hgo hbl
        go_wp2_with fail
        refine (order_any x y wr hxb hyb).mono ?_
        rw [ho.out]
        rintro e w1 ⟨rfl, q1, os1, hw1⟩
        have HB1 : Hid (∃ q os, w1 = Sort.grow (w.drewN q) os) := by
          have h1 : RetG (.bool true) w (.returned (.bool true)) wr := ⟨rfl, hB.out⟩
          have h2 : RetG (.bool true) wr (.returned (.bool true)) w1 := ⟨rfl, q1, os1, hw1⟩
          exact (h1.trans h2).2
        clear hw1
        by_cases h0 : o = 0
        · subst h0
          go_wp2_with fail
          go_roundw
          case rel => exact ⟨k + 1, by omega, by omega, by go_num, HB1, by have := hgo2.out; simpa [Hid] using this⟩
          case measure => simp [intOf]; omega
        · have d0 : (o != 0) = true := by simpa using h0
          have : o = r := by have := hgo2.out; rw [d0] at this; simpa using this
          subst this
          go_wp2_with fail
          go_ret
          exact ⟨rfl, HB1.out⟩
      · have : 1 = r := by rw [← hgo.out, drop_cons_of hxk.out, List.drop_of_length_le (show ys.length ≤ k by have := hl'.out; omega)]; rfl
        subst this
        have dm : (m : Int) ≤ (k : Int) := by omega
        have dm2 : m ≤ k := by omega
        clear hbl
        go_wp2_with fail
        go_ret
        exact ⟨rfl, hB.out⟩
    · obtain rfl : k = n := by omega
      by_cases hlm : k < m
      · have : -1 = r := by
          rw [← hgo.out, List.drop_of_length_le (by have := hl.out; omega)]
          cases hd : ys.drop k with
          | nil => have := congrArg List.length hd; rw [List.length_drop, hl'.out] at this; simp at this; omega
          | cons z t => rfl
        subst this
        clear hbl
        go_wp2_with fail
        go_ret
        exact ⟨rfl, hB.out⟩
      · have : 0 = r := by rw [← hgo.out, List.drop_of_length_le (by have := hl.out; omega), List.drop_of_length_le (by have := hl'.out; omega)]; rfl
        subst this
        clear hbl
        go_wp2_with fail
        go_ret
        exact ⟨rfl, hB.out⟩
theorem normal1_any (A B : Option Addr) (n c m d : Nat) (xs ys : List Int) (w : World) (h : Ints w A n c xs) (h' : Ints w B m d ys) (hs : ∀ x ∈ xs, -1000000 ≤ x ∧ x ≤ 1000000) (hs' : ∀ x ∈ ys, -1000000 ≤ x ∧ x ≤ 1000000) :
    Calls Tryz.prog 59 #[.slice A n c, .slice B m d] w (RetG (.int .i64 (rowCmp xs ys)) w) := by
  obtain ⟨r, hr⟩ : ∃ r, Hid (rowCmp xs ys = r) := ⟨_, rfl⟩
  rw [hr.out]
  go_enter Tryz.func59, Tryz.ntmps59
  go_wp2_with fail
  refine (compare_rows _ _ _ _ _ _ xs ys w h h' hs hs' r hr).mono ?_
  rintro e w1 ⟨rfl, q, os, rfl⟩
  go_wp2_with fail
  go_ret
  exact ⟨rfl, q, os, rfl⟩
theorem enters_n1 : ∀ args w, (callFunc 59 args).run Tryz.prog w = .ok (.enter 59 args) w := enters_of Tryz.func59 (by kernel_rfl) rfl

/-- A row that lies apart from the block g. -/
structure RowV (w : World) (low g : Nat) where
  A : Option Addr
  n : Nat
  c : Nat
  xs : List Int
  hi : Ints w A n c xs
  ha : Away 3 w low A n
  hb : ∀ x ∈ xs, -1000000 ≤ x ∧ x ≤ 1000000
  hne : 0 < n → blockOf A = none ∨ blockOf A ≠ some g
instance (w : World) (low g : Nat) : Inhabited (RowV w low g) := ⟨⟨none, 0, 0, [], ints_nil w, fun h => by omega, by simp, fun h => by omega⟩⟩
def RowV.enc {w : World} {low g : Nat} (r : RowV w low g) : Value := .slice r.A r.n r.c
def rvCmp {w : World} {low g : Nat} (x y : RowV w low g) : Int := rowCmp x.xs y.xs
theorem rv_lt {w : World} {low g : Nat} (x y : RowV w low g) : ltOf rvCmp x y = befB x.xs y.xs := by
  unfold ltOf rvCmp
  cases h : befB x.xs y.xs
  · rw [decide_eq_false_iff_not]
    intro h1
    rw [rowCmp_lt.1 h1] at h
    cases h
  · exact decide_eq_true (rowCmp_lt.2 h)
theorem rv_swo {w : World} {low g : Nat} : SWO (ltOf (rvCmp (w := w) (low := low) (g := g))) where
  irrefl x := by rw [rv_lt, befB_irrefl]
  trans x y z h1 h2 := by rw [rv_lt] at *; exact befB_trans h1 h2
  ntrans x y z h1 h2 := by rw [rv_lt] at *; exact befB_ntrans h1 h2
theorem rv_lays (w : World) (low g size : Nat) : CmpLays1 Tryz.prog 59 #[] (RowV.enc (w := w) (low := low) (g := g)) rvCmp g 0 size w := fun m os dk _ x y => by
  have hg := sortWorld_grown RowV.enc w g m dk os
  exact normal1_any x.A y.A x.n x.c y.n y.c x.xs y.xs (sortWorld RowV.enc w g 0 m dk os) (x.hi.kept0 hg x.hne) (y.hi.kept0 hg y.hne) x.hb y.hb
/-- The rows of a slice as such rows. -/
theorem rows_list {Q : Value → List Int → Prop} : ∀ (vs : List Value) (xss : List (List Int)), vs.length = xss.length → (∀ (k : Nat) (v : Value) (x : List Int), vs[k]? = some v → xss[k]? = some x → Q v x) → ∃ L : List { p : Value × List Int // Q p.1 p.2 }, L.map (fun p => p.1.1) = vs ∧ L.map (fun p => p.1.2) = xss
  | [], [], _, _ => ⟨[], rfl, rfl⟩
  | [], _ :: _, h, _ => by simp at h
  | _ :: _, [], h, _ => by simp at h
  | v :: vs, x :: xss, h, hQ => by
    obtain ⟨L, h1, h2⟩ := rows_list vs xss (by simpa using h) (fun k v x hv hx => hQ (k + 1) v x (by simpa using hv) (by simpa using hx))
    exact ⟨⟨(v, x), hQ 0 v x rfl rfl⟩ :: L, by simp [h1], by simp [h2]⟩

/-- The rows are in order then. -/
theorem sort_rows (base low g n c : Nat) (xss : List (List Int)) (w : World) (h : OwnP 22 3 w base low (some ⟨g, 0, none⟩) n c xss) (hlow : low ≤ base) (hs : ∀ xs ∈ xss, ∀ x ∈ xs, -1000000 ≤ x ∧ x ≤ 1000000) (hn : n ≤ 1000000) :
    Calls Tryz.prog 62 #[.slice (some ⟨g, 0, none⟩) n c, .func (.func 59) #[] #[]] w fun e w' => e = .returned (.tuple #[]) ∧ w.grownBy w' (some g) ∧
      ∃ yss : List (List Int), yss.Perm xss ∧ yss.Pairwise (fun a b => befB b a = false) ∧ OwnP 22 3 w' base low (some ⟨g, 0, none⟩) n c yss := by
  obtain ⟨vs, ho, hr⟩ := h
  have hT : Typed 22 w g := Typed.of_own ho
  have hg : base ≤ g := by
    rcases ho.form with ⟨h0, _⟩ | ⟨g', cur, h0, hg, _⟩
    · cases h0
    · cases h0; exact hg
  obtain ⟨L, hL1, hL2⟩ := rows_list (Q := fun v x => ∃ r : RowV w low g, r.enc = v ∧ r.xs = x) vs xss hr.1 (fun k v x hv hx => by
    obtain ⟨A', n', c', xs, e1, hx', hi, ha⟩ := hr.2 k v hv
    rw [hx] at hx'
    cases hx'
    exact ⟨⟨A', n', c', x, hi, ha, hs x (List.mem_of_getElem? hx), fun hp => (ha hp).ne (Nat.le_trans hlow hg) hT row_ne⟩, e1.symm, rfl⟩)
  obtain ⟨D, hD1, hD2⟩ : ∃ D : List (RowV w low g), D.map RowV.enc = vs ∧ D.map RowV.xs = xss := by
    refine ⟨L.map (fun p => p.2.choose), ?_, ?_⟩
    · rw [List.map_map, ← hL1]
      exact List.map_congr_left fun p _ => p.2.choose_spec.1
    · rw [List.map_map, ← hL2]
      exact List.map_congr_left fun p _ => p.2.choose_spec.2
  have hsz : D.toArray.size = n := by have h1 := ho.len; rw [← hD1, List.length_map] at h1; simpa using h1
  have hH := holds_own ho RowV.enc D.toArray (by simpa using hD1)
  have hlt : g < w.heap.size := by obtain ⟨cur, fz, hh⟩ := hT; exact heap_lt hh
  have hcon := Tryz.slices_SortFunc_f62 RowV.enc (fun _ => rfl) rvCmp rv_swo 59 #[] g 0 c D.toArray w enters_n1 (rv_lays w low g _) hH hlt (by omega)
  rw [hsz] at hcon
  refine hcon.mono ?_
  rintro e w' ⟨rfl, d', m, os, hp, hss, rfl⟩
  obtain ⟨p1, p2⟩ := permIn_list hsz hp
  have p3 := sortedIn_list p1 hss
  have hgr := sortWorld_grown RowV.enc w g m d' os
  refine ⟨rfl, hgr, d'.toList.map RowV.xs, ?_, ?_, d'.toList.map RowV.enc, own_sorted (m := m) ho RowV.enc d' p1 os, by simp, fun k v hv => ?_⟩
  · have := p2.map RowV.xs
    rw [show D.toArray.toList = D from rfl, hD2] at this
    exact this
  · rw [List.pairwise_map]
    exact p3.imp fun hh => by rw [← rv_lt]; exact hh
  · rw [List.getElem?_map, Option.map_eq_some_iff] at hv
    obtain ⟨r, hr', rfl⟩ := hv
    exact ⟨r.A, r.n, r.c, r.xs, rfl, by rw [List.getElem?_map, hr']; rfl, r.hi.kept0 hgr r.hne, fun hp => (r.ha hp).kept hgr (r.hne hp)⟩
end Go.Proofs.YtlfgcblijfflfaaGreat
