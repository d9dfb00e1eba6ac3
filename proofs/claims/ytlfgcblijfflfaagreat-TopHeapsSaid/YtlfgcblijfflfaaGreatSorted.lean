/- Contract of cnf.Sorted. -/
import Derived.Test.YtlfgcblijfflfaaGreatShelf
import Derived.Test.YtlfgcblijfflfaaGreatRowSort
import Derived.Test.YtlfgcblijfflfaaGreatOrder
import Derived.Test.YtlfgcblijfflfaaGreatClone
namespace Go.Proofs.YtlfgcblijfflfaaGreat
open Go.RowKit Go.Sort

/-- A small int. -/
structure Sm where
  val : Int
  h : -1000000 ≤ val ∧ val ≤ 1000000
instance : Inhabited Sm := ⟨⟨0, by omega⟩⟩
def Sm.enc (x : Sm) : Value := .int .i64 x.val
def smCmp (x y : Sm) : Int := ordF x.val y.val
theorem sm_lt (x y : Sm) : ltOf smCmp x y = aheadB x.val y.val := by
  unfold ltOf smCmp
  cases h : aheadB x.val y.val
  · rw [decide_eq_false_iff_not]
    intro h1
    rw [ordF_lt.1 h1] at h
    cases h
  · exact decide_eq_true (ordF_lt.2 h)
theorem sm_swo : SWO (ltOf smCmp) where
  irrefl x := by rw [sm_lt, aheadB_false]; omega
  trans x y z h1 h2 := by rw [sm_lt, aheadB_iff] at *; omega
  ntrans x y z h1 h2 := by rw [sm_lt, aheadB_false] at *; omega
theorem sm_lays (blk off size : Nat) (w : World) : CmpLays1 Tryz.prog 61 #[] Sm.enc smCmp blk off size w := fun m os dk _ x y => by
  have := order_any x.val y.val (sortWorld Sm.enc w blk off m dk os) x.h y.h
  exact this
/-- The ints of a list as small ones. -/
def smOf : (xs : List Int) → (∀ x ∈ xs, -1000000 ≤ x ∧ x ≤ 1000000) → List Sm
  | [], _ => []
  | x :: t, h => ⟨x, h x (by simp)⟩ :: smOf t (fun y hy => h y (by simp [hy]))
theorem smOf_val : ∀ (xs : List Int) (h : ∀ x ∈ xs, -1000000 ≤ x ∧ x ≤ 1000000), (smOf xs h).map Sm.val = xs
  | [], _ => rfl
  | x :: t, h => by rw [smOf, List.map_cons, smOf_val]
theorem smOf_enc (l : List Sm) : l.map Sm.enc = (l.map Sm.val).map (Value.int .i64) := by rw [List.map_map]; rfl
theorem enters_order : ∀ args w, (callFunc 61 args).run Tryz.prog w = .ok (.enter 61 args) w := enters_of Tryz.func61 (by kernel_rfl) rfl

/-- The row holds the literals in order then. -/
theorem sort_ints (base g n c : Nat) (xs : List Int) (w : World) (h : Own 3 w base (some ⟨g, 0, none⟩) n c (xs.map (Value.int .i64))) (hs : ∀ x ∈ xs, -1000000 ≤ x ∧ x ≤ 1000000) (hn : n ≤ 1000000) :
    Calls Tryz.prog 87 #[.slice (some ⟨g, 0, none⟩) n c, .func (.func 61) #[] #[]] w fun e w' => e = .returned (.tuple #[]) ∧ Own 3 w' base (some ⟨g, 0, none⟩) n c ((sortF xs).map (Value.int .i64)) ∧ w.grownBy w' (some g) := by
  have hsz : (smOf xs hs).toArray.size = n := by
    have h1 := h.len
    have h2 := smOf_val xs hs
    rw [List.length_map] at h1
    have h3 := congrArg List.length h2
    rw [List.length_map] at h3
    simp
    omega
  have hd : (smOf xs hs).toArray.toList.map Sm.enc = xs.map (Value.int .i64) := by rw [smOf_enc]; simp [smOf_val]
  have hH := holds_own h Sm.enc (smOf xs hs).toArray hd
  have hlt : g < w.heap.size := by
    rcases h.form with ⟨h0, _⟩ | ⟨g', cur, h0, _, hh, _⟩
    · cases h0
    · cases h0; exact heap_lt hh
  have hcon := Tryz.slices_SortFunc_f87 Sm.enc (fun _ => rfl) smCmp sm_swo 61 #[] g 0 c (smOf xs hs).toArray w enters_order (sm_lays g 0 _ w) hH hlt (by omega)
  rw [hsz] at hcon
  refine hcon.mono ?_
  rintro e w' ⟨rfl, d', m, os, hp, hss, rfl⟩
  obtain ⟨p1, p2⟩ := permIn_list hsz hp
  have p3 := sortedIn_list p1 hss
  refine ⟨rfl, ?_, sortWorld_grown _ _ _ _ _ _⟩
  have := own_sorted (m := m) h Sm.enc d' p1 os
  have e1 : d'.toList.map Sm.val = sortF xs := by
    refine sorted_eq ?_ (sortF_sorted xs) ?_
    · unfold SortedL
      rw [List.pairwise_map]
      exact p3.imp fun hh => by rw [← sm_lt]; exact hh
    · have := p2.map Sm.val
      simp only [smOf_val] at this
      exact this.trans (sortF_perm xs).symm
  rw [smOf_enc, e1] at this
  exact this

set_option maxHeartbeats 1000000 in
theorem sorted_any (A : Option Addr) (n c : Nat) (xs : List Int) (w : World) (h : Ints w A n c xs) (hs : ∀ x ∈ xs, -1000000 ≤ x ∧ x ≤ 1000000) (hn : n ≤ 1000000) : Calls Tryz.prog 58 #[.slice A n c] w (RetInts (sortF xs) w) := by
  have hlen := Lib.hid h.len
  have HS := Lib.hid hs
  clear hs
  go_enter Tryz.func58, Tryz.ntmps58
  go_wp2_with fail
  refine (clone_ints _ _ _ xs w h hn).mono ?_
  rintro e w1 ⟨A1, n1, c1, rfl, hown, hb1⟩
  have HO := Lib.hid hown
  have HB := Lib.hid hb1
  have hn1 : n1 ≤ 1000000 := by have h1 := hown.len; rw [List.length_map, hlen.out] at h1; omega
  rcases hown.form with ⟨rfl, rfl, rfl, hx⟩ | ⟨g, cur, rfl, hg, _⟩
  · have hx0 : xs = [] := by simpa using hx
    subst hx0
    clear hown hb1 hx
    go_wp2_with fail
    refine (Tryz.slices_SortFunc_none_f87 (α := Sm) none 0 _ w1).mono ?_
    rintro e w2 ⟨rfl, rfl⟩
    go_wp2_with fail
    go_ret
    exact ⟨none, 0, 0, rfl, HO.out, HB.out⟩
  · clear hown hb1
    go_wp2_with fail
    refine (sort_ints w.heap.size g n1 c1 xs w1 HO.out HS.out hn1).mono ?_
    rintro e w2 ⟨rfl, hown2, hg2⟩
    have HO2 := Lib.hid hown2
    have HB2 := Lib.hid (below_grown HB.out HO.out (Nat.le_refl _) hg2)
    clear hown2 hg2
    go_wp2_with fail
    go_ret
    exact ⟨some ⟨g, 0, none⟩, n1, c1, rfl, HO2.out, HB2.out⟩
end Go.Proofs.YtlfgcblijfflfaaGreat
