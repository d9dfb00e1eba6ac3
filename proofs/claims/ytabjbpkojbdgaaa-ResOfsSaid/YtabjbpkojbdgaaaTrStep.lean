/- Contract of the step of res's translation. (Printed by wip/tools/trstep.py.) -/
import Derived.Test.YtabjbpkojbdgaaaTransl
import Derived.Test.YtabjbpkojbdgaaaCloneR
namespace Go.Proofs.Ytabjbpkojbdgaaa
open Go.RowKit Go.Maps Go.WideMaps
set_option linter.unusedSimpArgs false

def RetStp (w : World) (gx : Nat) (known : List (List Int)) (nums : List Int) (nx : Int) (out : List R3) (e : Ending) (w' : World) : Prop :=
  e = .returned (.tuple #[]) ∧ ∃ K nk ck N cn O no co, TrG w w' gx #[.slice K nk ck, .slice N nk cn, .int .i64 nx, .slice O no co] K nk ck N nk cn O no co known nums out

set_option maxHeartbeats 16000000 in
set_option maxRecDepth 100000 in
theorem step_any (w v : World) (gx : Nat) (K : Option Addr) (nk ck : Nat) (N : Option Addr) (cn : Nat) (O : Option Addr) (no co : Nat) (known : List (List Int)) (nums : List Int) (nx : Int) (out : List R3)
    (h : TrG w v gx #[.slice K nk ck, .slice N nk cn, .int .i64 nx, .slice O no co] K nk ck N nk cn O no co known nums out) (B : Option Addr) (m d : Nat) (x : List Int) (hx : Ints v B m d x) (vars : Int) (v0 : 0 ≤ vars) (v1 : vars ≤ 1000) (hxl : Lits vars x) (hk : ∀ c ∈ known, Lits vars c)
    (hn : ∀ q ∈ nums, 0 ≤ q ∧ q < nx) (hnx : nx ≤ 1000000) (hnk : nk ≤ 1000000) (hno : no ≤ 1000000) (known' : List (List Int)) (nums' : List Int) (nx' : Int) (out' : List R3) (hs : Hid (stpF vars known nums nx out x = (known', nums', nx', out'))) :
    Calls Try.prog 66 #[.pointer (some ⟨gx, 0, none⟩), .slice B m d] v (RetStp w gx known' nums' nx' out') := by
  have hHT := h
  have HT := Lib.hid hHT
  have HX := Lib.hid hx
  have HXL := Lib.hid hxl
  have HK := Lib.hid hk
  have HN := Lib.hid hn
  have v6 : vars ≤ 1000000 := by omega
  have HXB : Hid (∀ z ∈ x, -1000000 ≤ z ∧ z ≤ 1000000) := fun z hz => by have := hxl.1 z hz; omega
  have hmm : m ≤ 1000000 := by have := hxl.len_le v0; rw [hx.len] at this; omega
  have hkn : Hid (known.length = nk) := h.ko.p.len
  have hnn : Hid (nums.length = nk) := by have := h.no_.len; rw [List.length_map] at this; exact this
  have HNI : Hid (∀ q ∈ nums, I64 q) := fun q hq => by have := hn q hq; unfold I64; omega
  have hck : nk ≤ ck ∧ ck ≤ 9223372036854775807 := h.ko.p.grid.bd
  have hcn : nk ≤ cn ∧ cn ≤ 9223372036854775807 := (h.no_.ints HNI.out).bd
  obtain ⟨t, y, a, hta⟩ : ∃ t y a, Hid (askF vars known (negF x) = (t, y, a)) := ⟨_, _, _, rfl⟩
  have HHT : Hid (Lits vars t ∧ y.length = t.length ∧ ((∀ k ∈ y, -1 ≤ k ∧ k < known.length)) ∧ (0 ≤ a → a < known.length) ∧ (a = -1 ∨ 0 ≤ a)) := by
    have ok := runF_ok v0 hk (vars.toNat + 1) (negF x) ((negF x).map fun _ => -1) hxl.neg (by omega)
    have h9 := hta.out
    unfold askF at h9
    rw [h9] at ok
    exact ⟨ok.lits, ok.same (by simp), ok.why (fun k hk => by rw [List.mem_map] at hk; obtain ⟨_, _, rfl⟩ := hk; omega), ok.bad, ok.at_⟩
  have hbW := below_drewN v 1
  have hS0 : v.drew.cell? ⟨gx, 0, none⟩ = some (.slice K nk ck) := by
    have := (h.tb.keep hbW).cell 0
    simpa using this
  have hlt : gx < v.heap.size := h.tb.lt
  clear h hx hxl hk hn hHT
  go_enter Try.func66, Try.ntmps66
  go_wp2_with fail
  obtain ⟨wd, hwd⟩ : ∃ wd : World, wd = v.drew := ⟨_, rfl⟩
  have hbd : Below v.heap.size v wd := by rw [hwd]; exact hbW
  have hS : wd.cell? ⟨gx, 0, none⟩ = some (.slice K nk ck) := by rw [hwd]; exact hS0
  have HTd := Lib.hid (HT.out.keep hbd)
  have HXd := Lib.hid (HX.out.keep hbd)
  clear hbW hS0 HT HX hbd
  refine wp_region_tail (fun w' => w'.cell? ⟨gx, 0, none⟩ = some (.slice K nk ck)) [] (by kernel_rfl) ?_
  change wpAnyT _ _ _ _ _ _ _ _ _ v.drew
  rw [← hwd]
  clear hwd
  refine take0 (i := 0) (oi := _) (v := ?_) rfl (by kernel_rfl) (by kernel_rfl) (by kernel_rfl) (fun _ _ _ h => h) rfl (Or.inl ⟨by rfl, ?_⟩) (fun _ => hS) ?_
  rotate_left
  · intro w0; go_simp; with_reducible rfl
  (try simp only [Act.put, List.setIfInBounds_toArray, List.set_cons_zero, List.set_cons_succ])
  refine take0 (i := 1) (oi := _) (v := ?_) rfl (by kernel_rfl) (by kernel_rfl) (by kernel_rfl) (fun _ _ _ h => h) rfl (Or.inl ⟨by rfl, ?_⟩) (fun _ => hS) ?_
  rotate_left
  · intro w0; go_simp; with_reducible rfl
  (try simp only [Act.put, List.setIfInBounds_toArray, List.set_cons_zero, List.set_cons_succ])
  refine take0 (i := 2) (oi := _) (v := ?_) rfl (by kernel_rfl) (by kernel_rfl) (by kernel_rfl) (fun _ _ _ h => h) rfl (Or.inl ⟨by rfl, ?_⟩) (fun _ => hS) ?_
  rotate_left
  · intro w0; go_simp; with_reducible rfl
  (try simp only [Act.put, List.setIfInBounds_toArray, List.set_cons_zero, List.set_cons_succ])
  refine takeS (i := 3) (oi := _) (v := ?_) rfl (by kernel_rfl) (by kernel_rfl) (by kernel_rfl) (fun _ _ _ h => h) rfl (by kernel_rfl) (by kernel_rfl) (Or.inl ⟨by rfl, ?_⟩) hS ?_
  rotate_left
  · intro w0 hSw; (try dsimp only at hSw); go_simp; with_reducible rfl
  (try simp only [Act.put, List.setIfInBounds_toArray, List.set_cons_zero, List.set_cons_succ])
  refine take0 (i := 4) (oi := _) (v := ?_) rfl (by kernel_rfl) (by kernel_rfl) (by kernel_rfl) (fun _ _ _ h => h) rfl (Or.inl ⟨by rfl, ?_⟩) (fun _ => hS) ?_
  rotate_left
  · intro w0; go_simp; with_reducible rfl
  (try simp only [Act.put, List.setIfInBounds_toArray, List.set_cons_zero, List.set_cons_succ])
  refine oneT (i := 5) (by kernel_rfl) rfl (by rfl) (fun Kq hK => ?_)
  go_simp
  refine (negated_any B m d x wd HXd.out HXB.out hmm).mono ?_
  rintro e w1 ⟨N1, nn1, cn1, rfl, hN1, hb1⟩
  have HN1 := Lib.hid (hN1.ints (negF_i64 v6 HXL.out))
  have HT1 := Lib.hid (HTd.out.keep hb1)
  have hS1 := keepBox hb1 hS
  clear hN1 hb1 HTd HXd hS
  refine hK _ _ (fun _ => hS1) ?_
  clear hK
  (try simp only [Act.put, List.setIfInBounds_toArray, List.set_cons_zero, List.set_cons_succ])
  refine oneT (i := 6) (by kernel_rfl) rfl (by rfl) (fun Kq hK => ?_)
  go_simp
  refine (assume_any _ _ _ _ _ _ known (negF x) vars w1 HT1.out.ko.p.grid HN1.out v0 v6 HK.out HXL.out.neg t y a hta).mono ?_
  rintro e w2 ⟨g, gm, L, cl, Y, cy, D, rfl, hTS⟩
  have HT2 := Lib.hid (HT1.out.keep hTS.bl)
  have HTR : Hid (Tri w2 w1.heap.size g K nk ck L cl Y cy gm t y) := ⟨hTS.tb, hTS.lits, hTS.why, hTS.bl.size⟩
  have hS2 := keepBox hTS.bl hS1
  have hBL2 : Hid (w1.heap.size ≤ w2.heap.size) := hTS.bl.size
  have hw12 : gx < w1.heap.size := HT1.out.tb.lt
  have hBN : Hid (∀ q, blockOf N = some q → q < w1.heap.size) := HT1.out.blkN
  clear hTS hS1 HT1 HN1
  refine hK _ _ (fun _ => hS2) ?_
  clear hK
  (try simp only [Act.put, List.setIfInBounds_toArray, List.set_cons_zero, List.set_cons_succ])
  refine take0 (i := 7) (oi := _) (v := ?_) rfl (by kernel_rfl) (by kernel_rfl) (by kernel_rfl) (fun _ _ _ h => h) rfl (Or.inl ⟨by rfl, ?_⟩) (fun _ => hS2) ?_
  rotate_left
  · intro w0; go_simp; with_reducible rfl
  (try simp only [Act.put, List.setIfInBounds_toArray, List.set_cons_zero, List.set_cons_succ])
  refine take0 (i := 8) (oi := _) (v := ?_) rfl (by kernel_rfl) (by kernel_rfl) (by kernel_rfl) (fun _ _ _ h => h) rfl (Or.inl ⟨by rfl, ?_⟩) (fun _ => hS2) ?_
  rotate_left
  · intro w0; go_simp; with_reducible rfl
  (try simp only [Act.put, List.setIfInBounds_toArray, List.set_cons_zero, List.set_cons_succ])
  refine take0 (i := 9) (oi := _) (v := ?_) rfl (by kernel_rfl) (by kernel_rfl) (by kernel_rfl) (fun _ _ _ h => h) rfl (Or.inl ⟨by rfl, ?_⟩) (fun _ => hS2) ?_
  rotate_left
  · intro w0; go_simp; with_reducible rfl
  (try simp only [Act.put, List.setIfInBounds_toArray, List.set_cons_zero, List.set_cons_succ])
  refine take0 (i := 10) (oi := _) (v := ?_) rfl (by kernel_rfl) (by kernel_rfl) (by kernel_rfl) (fun _ _ _ h => h) rfl (Or.inl ⟨by rfl, ?_⟩) (fun _ => hS2) ?_
  rotate_left
  · intro w0; go_simp; with_reducible rfl
  (try simp only [Act.put, List.setIfInBounds_toArray, List.set_cons_zero, List.set_cons_succ])
  refine take0 (i := 11) (oi := _) (v := ?_) rfl (by kernel_rfl) (by kernel_rfl) (by kernel_rfl) (fun _ _ _ h => h) rfl (Or.inl ⟨by rfl, ?_⟩) (fun _ => hS2) ?_
  rotate_left
  · intro w0; go_simp; with_reducible rfl
  (try simp only [Act.put, List.setIfInBounds_toArray, List.set_cons_zero, List.set_cons_succ])
  refine doneT (by kernel_rfl) ?_ _
  have hs2 : Hid (stpF vars known nums nx out x = (known', nums', nx', out')) := hs
  by_cases ha : a < 0
  · have hr := hs.out
    rw [stpF, hta.out, if_pos ha] at hr
    injection hr with e1 hr
    injection hr with e2 hr
    injection hr with e3 e4
    subst e1 e2 e3 e4
    go_wp2_with fail
    go_end0
    exact ⟨rfl, K, nk, ck, N, cn, O, no, co, HT2.out⟩
  obtain ⟨aN, rfl⟩ : ∃ aN : Nat, a = (aN : Int) := ⟨a.toNat, by omega⟩
  have haN : aN < nk := by have h1 := HHT.out.2.2.2.1 (by omega); have h2 := hkn.out; omega
  obtain ⟨kb, X0, nX, cX, xX, hKe, hkb1, hkb2, hcK, hfK, hIX, hAX, hxX⟩ := HT2.out.ko.p.round haN
  obtain ⟨nb, u0, hNe, hnb1, hnb2, hcN, hfN, hu0⟩ := HT2.out.no_.at_ haN
  obtain ⟨num0, hu1, rfl⟩ : ∃ z : Int, nums[aN]? = some z ∧ u0 = .int .i64 z := by
    have := hu0.out
    rw [List.getElem?_map, Option.map_eq_some_iff] at this
    obtain ⟨z, hz1, hz2⟩ := this
    exact ⟨z, hz1, hz2.symm⟩
  have HNUM0 : Hid (0 ≤ num0 ∧ num0 < nx) := HN.out num0 (List.mem_of_getElem? hu1)
  have HXX : Hid (Lits vars xX) := HK.out xX (List.mem_of_getElem? hxX.out)
  have hXXB : Hid (∀ z ∈ xX, -1000000 ≤ z ∧ z ≤ 1000000) := fun z hz => by have := HXX.out.1 z hz; omega
  have hnX : nX ≤ 1000000 := by have := HXX.out.len_le v0; rw [hIX.len] at this; omega
  obtain ⟨q1, q2, q3, q4, hq⟩ : ∃ q1 q2 q3 q4, Hid (trF known nums t y t.length (sortF xX) num0 nx out = (q1, q2, q3, q4)) := ⟨_, _, _, _, rfl⟩
  have hfin : Hid (known' = known ++ [q1] ∧ nums' = nums ++ [q2] ∧ nx' = q3 ∧ out' = q4) := by
    have hr := hs.out
    rw [stpF, hta.out, if_neg (by simp only; omega)] at hr
    simp only [Int.toNat_natCast] at hr
    rw [show known.getD aN [] = xX by rw [List.getD_eq_getElem?_getD, hxX.out]; rfl, show nums.getD aN 0 = num0 by rw [List.getD_eq_getElem?_getD, hu1]; rfl, hq.out] at hr
    simp only [Prod.mk.injEq] at hr
    exact ⟨hr.1.symm, hr.2.1.symm, hr.2.2.1.symm, hr.2.2.2.symm⟩
  obtain ⟨rfl, rfl, rfl, rfl⟩ := hfin.out
  have hQN := Lib.hid (trF_num (nums := nums) (t := t) (y := y) HK.out t.length (sortF xX) num0 nx out HXX.out.sortF HNUM0.out.1 HNUM0.out.2)
  rw [hq.out] at hQN
  simp only at hQN
  have g2 := HTR.out.tb.cell 1
  have gx0 := HT2.out.tb.cell 0
  have gx1 := HT2.out.tb.cell 1
  simp at g2 gx0 gx1
  have zg := HTR.out.tb.lt
  have u1 : (0 : Int) ≤ (aN : Int) := by omega
  have u2 : (aN : Int) < (nk : Int) := by omega
  have dA : decide ((aN : Int) < 0) = false := by simp
  have HIX := Lib.hid hIX
  have HKe : Hid (K = some ⟨kb, 0, none⟩) := hKe
  have HNe : Hid (N = some ⟨nb, 0, none⟩) := hNe
  clear hs hs2 hfin hu0 hu1 hxX hIX hAX hfK hfN
  go_wp2_with fail
  obtain ⟨we, hwe⟩ : ∃ we : World, we = w2.drew := ⟨_, rfl⟩
  have hbe : Below w2.heap.size w2 we := by rw [hwe]; exact below_drewN _ 1
  have hS : we.cell? ⟨gx, 0, none⟩ = some (.slice K nk ck) ∧ we.cell? ⟨gx, 1, none⟩ = some (.slice N nk cn) ∧ we.cell? ⟨kb, aN, none⟩ = some (.slice X0 nX cX) ∧ we.cell? ⟨nb, aN, none⟩ = some (.int .i64 num0) := ⟨keepBox hbe gx0, keepBox hbe gx1, keepBox hbe hcK, keepBox hbe hcN⟩
  have HTe := Lib.hid (HT2.out.keep hbe)
  have HRe := Lib.hid (HTR.out.keep hbe)
  have HIe := Lib.hid (HIX.out.keep hbe)
  have hwez := hbe.size
  clear hbe g2 gx0 gx1 zg HT2 HTR HIX hcK hcN hS2
  subst hKe hNe
  refine wp_region_tail (fun w' => w'.cell? ⟨gx, 0, none⟩ = some (.slice (some ⟨kb, 0, none⟩) nk ck) ∧ w'.cell? ⟨gx, 1, none⟩ = some (.slice (some ⟨nb, 0, none⟩) nk cn) ∧ w'.cell? ⟨kb, aN, none⟩ = some (.slice X0 nX cX) ∧ w'.cell? ⟨nb, aN, none⟩ = some (.int .i64 num0)) [] (by kernel_rfl) ?_
  change wpAnyT _ _ _ _ _ _ _ _ _ w2.drew
  rw [← hwe]
  clear hwe
  refine take0 (i := 0) (oi := _) (v := ?_) rfl (by kernel_rfl) (by kernel_rfl) (by kernel_rfl) (fun _ _ _ h => h) rfl (Or.inl ⟨by rfl, ?_⟩) (fun _ => hS) ?_
  rotate_left
  · intro w0; go_simp; with_reducible rfl
  (try simp only [Act.put, List.setIfInBounds_toArray, List.set_cons_zero, List.set_cons_succ])
  refine take0 (i := 1) (oi := _) (v := ?_) rfl (by kernel_rfl) (by kernel_rfl) (by kernel_rfl) (fun _ _ _ h => h) rfl (Or.inl ⟨by rfl, ?_⟩) (fun _ => hS) ?_
  rotate_left
  · intro w0; go_simp; with_reducible rfl
  (try simp only [Act.put, List.setIfInBounds_toArray, List.set_cons_zero, List.set_cons_succ])
  refine take0 (i := 2) (oi := _) (v := ?_) rfl (by kernel_rfl) (by kernel_rfl) (by kernel_rfl) (fun _ _ _ h => h) rfl (Or.inl ⟨by rfl, ?_⟩) (fun _ => hS) ?_
  rotate_left
  · intro w0; go_simp; with_reducible rfl
  (try simp only [Act.put, List.setIfInBounds_toArray, List.set_cons_zero, List.set_cons_succ])
  refine takeS (i := 3) (oi := _) (v := ?_) rfl (by kernel_rfl) (by kernel_rfl) (by kernel_rfl) (fun _ _ _ h => h) rfl (by kernel_rfl) (by kernel_rfl) (Or.inl ⟨by rfl, ?_⟩) hS ?_
  rotate_left
  · intro w0 hSw; (try dsimp only at hSw); go_simp; with_reducible rfl
  (try simp only [Act.put, List.setIfInBounds_toArray, List.set_cons_zero, List.set_cons_succ])
  refine take0 (i := 4) (oi := _) (v := ?_) rfl (by kernel_rfl) (by kernel_rfl) (by kernel_rfl) (fun _ _ _ h => h) rfl (Or.inl ⟨by rfl, ?_⟩) (fun _ => hS) ?_
  rotate_left
  · intro w0; go_simp; with_reducible rfl
  (try simp only [Act.put, List.setIfInBounds_toArray, List.set_cons_zero, List.set_cons_succ])
  refine take0 (i := 5) (oi := _) (v := ?_) rfl (by kernel_rfl) (by kernel_rfl) (by kernel_rfl) (fun _ _ _ h => h) rfl (Or.inl ⟨by rfl, ?_⟩) (fun _ => hS) ?_
  rotate_left
  · intro w0; go_simp; with_reducible rfl
  (try simp only [Act.put, List.setIfInBounds_toArray, List.set_cons_zero, List.set_cons_succ])
  refine takeS (i := 6) (oi := _) (v := ?_) rfl (by kernel_rfl) (by kernel_rfl) (by kernel_rfl) (fun _ _ _ h => h) rfl (by kernel_rfl) (by kernel_rfl) (Or.inl ⟨by rfl, ?_⟩) hS ?_
  rotate_left
  · intro w0 hSw; (try dsimp only at hSw); go_simp; with_reducible rfl
  (try simp only [Act.put, List.setIfInBounds_toArray, List.set_cons_zero, List.set_cons_succ])
  refine take0 (i := 8) (oi := _) (v := ?_) rfl (by kernel_rfl) (by kernel_rfl) (by kernel_rfl) (fun _ _ _ h => h) rfl (Or.inl ⟨by rfl, ?_⟩) (fun _ => hS) ?_
  rotate_left
  · intro w0; go_simp; with_reducible rfl
  (try simp only [Act.put, List.setIfInBounds_toArray, List.set_cons_zero, List.set_cons_succ])
  refine take0 (i := 9) (oi := _) (v := ?_) rfl (by kernel_rfl) (by kernel_rfl) (by kernel_rfl) (fun _ _ _ h => h) rfl (Or.inl ⟨by rfl, ?_⟩) (fun _ => hS) ?_
  rotate_left
  · intro w0; go_simp; with_reducible rfl
  (try simp only [Act.put, List.setIfInBounds_toArray, List.set_cons_zero, List.set_cons_succ])
  refine take0 (i := 10) (oi := _) (v := ?_) rfl (by kernel_rfl) (by kernel_rfl) (by kernel_rfl) (fun _ _ _ h => h) rfl (Or.inl ⟨by rfl, ?_⟩) (fun _ => hS) ?_
  rotate_left
  · intro w0; go_simp; with_reducible rfl
  (try simp only [Act.put, List.setIfInBounds_toArray, List.set_cons_zero, List.set_cons_succ])
  refine takeS (i := 11) (oi := _) (v := ?_) rfl (by kernel_rfl) (by kernel_rfl) (by kernel_rfl) (fun _ _ _ h => h) rfl (by kernel_rfl) (by kernel_rfl) (Or.inl ⟨by rfl, ?_⟩) hS ?_
  rotate_left
  · intro w0 hSw; (try dsimp only at hSw); go_simp; with_reducible rfl
  (try simp only [Act.put, List.setIfInBounds_toArray, List.set_cons_zero, List.set_cons_succ])
  refine take0 (i := 12) (oi := _) (v := ?_) rfl (by kernel_rfl) (by kernel_rfl) (by kernel_rfl) (fun _ _ _ h => h) rfl (Or.inl ⟨by rfl, ?_⟩) (fun _ => hS) ?_
  rotate_left
  · intro w0; go_simp; with_reducible rfl
  (try simp only [Act.put, List.setIfInBounds_toArray, List.set_cons_zero, List.set_cons_succ])
  refine take0 (i := 13) (oi := _) (v := ?_) rfl (by kernel_rfl) (by kernel_rfl) (by kernel_rfl) (fun _ _ _ h => h) rfl (Or.inl ⟨by rfl, ?_⟩) (fun _ => hS) ?_
  rotate_left
  · intro w0; go_simp; with_reducible rfl
  (try simp only [Act.put, List.setIfInBounds_toArray, List.set_cons_zero, List.set_cons_succ])
  refine takeS (i := 14) (oi := _) (v := ?_) rfl (by kernel_rfl) (by kernel_rfl) (by kernel_rfl) (fun _ _ _ h => h) rfl (by kernel_rfl) (by kernel_rfl) (Or.inl ⟨by rfl, ?_⟩) hS ?_
  rotate_left
  · intro w0 hSw; (try dsimp only at hSw); go_simp; with_reducible rfl
  (try simp only [Act.put, List.setIfInBounds_toArray, List.set_cons_zero, List.set_cons_succ])
  refine oneT (i := 7) (by kernel_rfl) rfl (by rfl) (fun Kq hK => ?_)
  go_simp
  refine (sorted_any _ _ _ xX we HIe.out hXXB.out hnX).mono ?_
  rintro e w3 ⟨P0, np0, cp0, rfl, hP0, hb3⟩
  have HT3 := Lib.hid (HTe.out.keep hb3)
  have HR3 := Lib.hid (HRe.out.keep hb3)
  have HP3 : Hid (Own 3 w3 w1.heap.size P0 np0 cp0 ((sortF xX).map (Value.int .i64))) := hP0.mono (Nat.le_trans hBL2.out hwez)
  have hS3 := And.intro (keepBox hb3 hS.1) (And.intro (keepBox hb3 hS.2.1) (And.intro (keepBox hb3 hS.2.2.1) (keepBox hb3 hS.2.2.2)))
  clear hP0 hb3 HTe HRe HIe hS
  refine hK _ _ (fun _ => hS3) ?_
  clear hK
  (try simp only [Act.put, List.setIfInBounds_toArray, List.set_cons_zero, List.set_cons_succ])
  refine take0 (i := 15) (oi := _) (v := ?_) rfl (by kernel_rfl) (by kernel_rfl) (by kernel_rfl) (fun _ _ _ h => h) rfl (Or.inl ⟨by rfl, ?_⟩) (fun _ => hS3) ?_
  rotate_left
  · intro w0; go_simp; with_reducible rfl
  (try simp only [Act.put, List.setIfInBounds_toArray, List.set_cons_zero, List.set_cons_succ])
  refine take0 (i := 16) (oi := _) (v := ?_) rfl (by kernel_rfl) (by kernel_rfl) (by kernel_rfl) (fun _ _ _ h => h) rfl (Or.inl ⟨by rfl, ?_⟩) (fun _ => hS3) ?_
  rotate_left
  · intro w0; go_simp; with_reducible rfl
  (try simp only [Act.put, List.setIfInBounds_toArray, List.set_cons_zero, List.set_cons_succ])
  refine doneT (by kernel_rfl) ?_ _
  clear hS3
  have gl := HR3.out.tb.cell 1
  simp at gl
  have zg := HR3.out.tb.lt
  have htl : t.length ≤ 1000 := by have := HHT.out.1.len_le v0; omega
  go_wp2_with fail
  go_loopw [6, 7, 8] (fun s6 s7 s8 wr => ∃ (k : Nat) (P : Option Addr) (np cp : Nat) (now : List Int) (num nz : Int) (Oz : Option Addr) (noz coz : Nat) (oz : List R3), k ≤ t.length ∧ noz + k ≤ no + t.length ∧ s6 = .slice P np cp ∧ s7 = .int .i64 num ∧ s8 = .int .i64 ((k : Int) - 1) ∧ Hid (TrG w wr gx #[.slice (some ⟨kb, 0, none⟩) nk ck, .slice (some ⟨nb, 0, none⟩) nk cn, .int .i64 nz, .slice Oz noz coz] (some ⟨kb, 0, none⟩) nk ck (some ⟨nb, 0, none⟩) nk cn Oz noz coz known nums oz) ∧ Hid (Tri wr w1.heap.size g (some ⟨kb, 0, none⟩) nk ck L cl Y cy gm t y) ∧ Hid (Own 3 wr w1.heap.size P np cp (now.map (Value.int .i64))) ∧ Hid (Lits vars now ∧ 0 ≤ num ∧ num < nz ∧ 0 ≤ nz ∧ nz + k ≤ nx + t.length) ∧ Hid (trF known nums t y k now num nz oz = (q1, q2, nx', out'))) (fun _ _ i _ => (intOf i + 1).toNat)
  case atStart => exact ⟨t.length, P0, np0, cp0, sortF xX, num0, nx, O, no, co, out, Nat.le_refl _, Nat.le_refl _, rfl, rfl, by go_num, HT3.out, HR3.out, HP3.out, ⟨HXX.out.sortF, HNUM0.out.1, HNUM0.out.2, by have := HNUM0.out; omega, by omega⟩, hq⟩
  case round =>
    obtain ⟨k, P, np, cp, now, num, nz, Oz, noz, coz, oz, hk, hnoz, rfl, rfl, rfl, hT, hR, hP, hI, hq9⟩ := hrel
    have HPI : Hid (Ints wr P np cp now) := hP.out.ints (fun z hz => by have := hI.out.1.1 z hz; unfold I64; omega)
    have hnp : np ≤ 1000 := by have := hI.out.1.len_le v0; rw [HPI.out.len] at this; omega
    have hgxl : gx < wr.heap.size := hT.out.tb.lt
    have hnI : I64 num ∧ I64 nz := by have := hI.out; unfold I64; omega
    by_cases hk0 : k = 0
    · subst hk0
      obtain ⟨rfl, rfl, rfl, rfl⟩ : now = q1 ∧ num = q2 ∧ nz = nx' ∧ oz = out' := by have := hq9.out; rw [trF] at this; simpa using this
      have dk : decide (((0 : Nat) : Int) - 1 ≥ 0) = false := by simp
      have dk2 : decide ((0 : Int) ≤ -1) = false := by simp
      have dk3 : decide ((0 : Int) ≤ ((0 : Nat) : Int) - 1) = false := by simp
      obtain ⟨ir, hir, hr0, hr1, hr2⟩ := info_parts row_info
      obtain ⟨i0, hi0, hz0, hz1, hz2⟩ := info_parts int_info
      clear hq9 hq hQN hR
      go_wp2_with fail
      obtain ⟨W0, hwd⟩ : ∃ wd : World, wd = wr.drew := ⟨_, rfl⟩
      have hbd : Below wr.heap.size wr W0 := by rw [hwd]; exact below_drewN _ 1
      have HT0 := Lib.hid (hT.out.keep hbd)
      have HP0 := Lib.hid (hP.out.keep hbd)
      have FP0 : Hid (blockOf P = none ∨ blockOf P ≠ blockOf (some ⟨nb, 0, none⟩)) := own_far hP.out hBN.out
      have hS0 : W0.cell? ⟨gx, 0, none⟩ = some (.slice (some ⟨kb, 0, none⟩) nk ck) ∧ W0.cell? ⟨gx, 1, none⟩ = some (.slice (some ⟨nb, 0, none⟩) nk cn) := ⟨by have := HT0.out.tb.cell 0; simpa using this, by have := HT0.out.tb.cell 1; simpa using this⟩
      have hS := hS0
      have hWz := HT0.out.bl.size
      clear hbd hT hP HPI
      refine wp_region_tail (fun w' => w'.cell? ⟨gx, 0, none⟩ = some (.slice (some ⟨kb, 0, none⟩) nk ck) ∧ w'.cell? ⟨gx, 1, none⟩ = some (.slice (some ⟨nb, 0, none⟩) nk cn)) [18, 21] (by kernel_rfl) ?_
      change wpAnyT _ _ _ _ _ _ _ _ _ wr.drew
      rw [← hwd]
      clear hwd
      refine take0 (i := 0) (oi := _) (v := ?_) rfl (by kernel_rfl) (by kernel_rfl) (by kernel_rfl) (fun _ _ _ h => h) rfl (Or.inl ⟨by rfl, ?_⟩) (fun _ => hS) ?_
      rotate_left
      · intro w0; go_simp; with_reducible rfl
      (try simp only [Act.put, List.setIfInBounds_toArray, List.set_cons_zero, List.set_cons_succ])
      refine take0 (i := 1) (oi := _) (v := ?_) rfl (by kernel_rfl) (by kernel_rfl) (by kernel_rfl) (fun _ _ _ h => h) rfl (Or.inl ⟨by rfl, ?_⟩) (fun _ => hS) ?_
      rotate_left
      · intro w0; go_simp; with_reducible rfl
      (try simp only [Act.put, List.setIfInBounds_toArray, List.set_cons_zero, List.set_cons_succ])
      refine take0 (i := 2) (oi := _) (v := ?_) rfl (by kernel_rfl) (by kernel_rfl) (by kernel_rfl) (fun _ _ _ h => h) rfl (Or.inl ⟨by rfl, ?_⟩) (fun _ => hS) ?_
      rotate_left
      · intro w0; go_simp; with_reducible rfl
      (try simp only [Act.put, List.setIfInBounds_toArray, List.set_cons_zero, List.set_cons_succ])
      refine take0 (i := 3) (oi := _) (v := ?_) rfl (by kernel_rfl) (by kernel_rfl) (by kernel_rfl) (fun _ _ _ h => h) rfl (Or.inl ⟨by rfl, ?_⟩) (fun _ => hS) ?_
      rotate_left
      · intro w0; go_simp; with_reducible rfl
      (try simp only [Act.put, List.setIfInBounds_toArray, List.set_cons_zero, List.set_cons_succ])
      refine take0 (i := 4) (oi := _) (v := ?_) rfl (by kernel_rfl) (by kernel_rfl) (by kernel_rfl) (fun _ _ _ h => h) rfl (Or.inl ⟨by rfl, ?_⟩) (fun _ => hS) ?_
      rotate_left
      · intro w0; go_simp; with_reducible rfl
      (try simp only [Act.put, List.setIfInBounds_toArray, List.set_cons_zero, List.set_cons_succ])
      refine takeS (i := 5) (oi := _) (v := ?_) rfl (by kernel_rfl) (by kernel_rfl) (by kernel_rfl) (fun _ _ _ h => h) rfl (by kernel_rfl) (by kernel_rfl) (Or.inl ⟨by rfl, ?_⟩) hS ?_
      rotate_left
      · intro w0 hSw; (try dsimp only at hSw); go_simp; with_reducible rfl
      (try simp only [Act.put, List.setIfInBounds_toArray, List.set_cons_zero, List.set_cons_succ])
      refine take0 (i := 6) (oi := _) (v := ?_) rfl (by kernel_rfl) (by kernel_rfl) (by kernel_rfl) (fun _ _ _ h => h) rfl (Or.inl ⟨by rfl, ?_⟩) (fun _ => hS) ?_
      rotate_left
      · intro w0; go_simp; with_reducible rfl
      (try simp only [Act.put, List.setIfInBounds_toArray, List.set_cons_zero, List.set_cons_succ])
      refine take0 (i := 9) (oi := _) (v := ?_) rfl (by kernel_rfl) (by kernel_rfl) (by kernel_rfl) (fun _ _ _ h => h) rfl (Or.inl ⟨by rfl, ?_⟩) (fun _ => hS) ?_
      rotate_left
      · intro w0; go_simp; with_reducible rfl
      (try simp only [Act.put, List.setIfInBounds_toArray, List.set_cons_zero, List.set_cons_succ])
      refine take0 (i := 10) (oi := _) (v := ?_) rfl (by kernel_rfl) (by kernel_rfl) (by kernel_rfl) (fun _ _ _ h => h) rfl (Or.inl ⟨by rfl, ?_⟩) (fun _ => hS) ?_
      rotate_left
      · intro w0; go_simp; with_reducible rfl
      (try simp only [Act.put, List.setIfInBounds_toArray, List.set_cons_zero, List.set_cons_succ])
      refine take0 (i := 11) (oi := _) (v := ?_) rfl (by kernel_rfl) (by kernel_rfl) (by kernel_rfl) (fun _ _ _ h => h) rfl (Or.inl ⟨by rfl, ?_⟩) (fun _ => hS) ?_
      rotate_left
      · intro w0; go_simp; with_reducible rfl
      (try simp only [Act.put, List.setIfInBounds_toArray, List.set_cons_zero, List.set_cons_succ])
      refine takeS (i := 12) (oi := _) (v := ?_) rfl (by kernel_rfl) (by kernel_rfl) (by kernel_rfl) (fun _ _ _ h => h) rfl (by kernel_rfl) (by kernel_rfl) (Or.inl ⟨by rfl, ?_⟩) hS ?_
      rotate_left
      · intro w0 hSw; (try dsimp only at hSw); go_simp; with_reducible rfl
      (try simp only [Act.put, List.setIfInBounds_toArray, List.set_cons_zero, List.set_cons_succ])
      refine take0 (i := 13) (oi := _) (v := ?_) rfl (by kernel_rfl) (by kernel_rfl) (by kernel_rfl) (fun _ _ _ h => h) rfl (Or.inl ⟨by rfl, ?_⟩) (fun _ => hS) ?_
      rotate_left
      · intro w0; go_simp; with_reducible rfl
      (try simp only [Act.put, List.setIfInBounds_toArray, List.set_cons_zero, List.set_cons_succ])
      refine twoT (i := 7) (j := 14) (by kernel_rfl) rfl (by rfl) rfl (by rfl) (fun Kq hK => ?_) (fun Kq hK => ?_)
      · go_simp
        obtain ⟨W1, hv1⟩ : ∃ v1 : World, v1 = W0.alloc (.cells #[.slice P np cp] 25) := ⟨_, rfl⟩
        have bv1 : Below W0.heap.size W0 W1 := by rw [hv1]; exact below_new _ _
        have SA1 : Hid (Own 25 W1 W0.heap.size (some ⟨W0.heap.size, 0, none⟩) 1 1 [.slice P np cp]) := by rw [hv1]; exact own_new 25 W0 W0.heap.size [.slice P np cp] rfl (Nat.le_refl _) (by simp [maxLen])
        have HT1 := Lib.hid (HT0.out.keep bv1)
        have HP1 := Lib.hid (HP0.out.keep bv1)
        have FP1 := FP0
        have hS1 : W1.cell? ⟨gx, 0, none⟩ = some (.slice (some ⟨kb, 0, none⟩) nk ck) ∧ W1.cell? ⟨gx, 1, none⟩ = some (.slice (some ⟨nb, 0, none⟩) nk cn) := ⟨keepBox bv1 hS0.1, keepBox bv1 hS0.2⟩
        rw [← hv1]
        clear hv1 bv1
        refine hK _ _ (fun _ => hS1) ?_
        clear hK
        (try simp only [Act.put, List.setIfInBounds_toArray, List.set_cons_zero, List.set_cons_succ])
        refine twoT (i := 8) (j := 14) (by kernel_rfl) rfl (by rfl) rfl (by rfl) (fun Kq hK => ?_) (fun Kq hK => ?_)
        · have hz9 := HT1.out.bl.size
          have HI1 := Lib.hid (HP1.out.ints (fun z hz => by have := hI.out.1.1 z hz; unfold I64; omega))
          obtain ⟨vs, hv1, hv2, hv3⟩ := HT1.out.ko
          have HV1 := Lib.hid hv1
          have HV2 := Lib.hid hv2
          have HV3 := Lib.hid hv3
          clear hv1 hv2 hv3
          refine wp_append_sl _ (.tmp 131) (.tmp 133) 22 rfl w.heap.size 25 ir _ 24 Try.underlying22 hir hr0 hr1 hr2 rfl (some ⟨kb, 0, none⟩) nk ck vs rfl HV1.out (some ⟨W0.heap.size, 0, none⟩) 1 1 [.slice P np cp] rfl SA1.out.sl (by simp [Value.oneCell']) (by simp only [maxLen]; omega) (by omega) hz9 ?_
          intro K2 ck2 W2 hO2 hG2 hA2
          have HT2 := Lib.hid (HT1.out.growK HV1.out HV2.out HV3.out HI1.out (Away.own HP1.out) (fun _ => FP1.out) hO2 hG2)
          have HP2 := Lib.hid (HP1.out.kept hG2 (own_ne HP1.out HV1.out (by decide)))
          have FP2 := FP1
          have hS2 : W2.cell? ⟨gx, 0, none⟩ = some (.slice (some ⟨kb, 0, none⟩) nk ck) ∧ W2.cell? ⟨gx, 1, none⟩ = some (.slice (some ⟨nb, 0, none⟩) nk cn) := ⟨by have := HT2.out.tb.cell 0; simpa using this, by have := HT2.out.tb.cell 1; simpa using this⟩
          refine hK _ _ (fun _ => hS2) ?_
          clear hK
          (try simp only [Act.put, List.setIfInBounds_toArray, List.set_cons_zero, List.set_cons_succ])
          (try simp only [Nat.zero_add])
          refine oneT (i := 14) (by kernel_rfl) rfl (by rfl) (fun Kq hK => ?_)
          go_simp
          obtain ⟨W3, hv1⟩ : ∃ v1 : World, v1 = W2.alloc (.cells #[.int .i64 num] 3) := ⟨_, rfl⟩
          have bv1 : Below W2.heap.size W2 W3 := by rw [hv1]; exact below_new _ _
          have SB3 : Hid (Own 3 W3 W2.heap.size (some ⟨W2.heap.size, 0, none⟩) 1 1 [.int .i64 num]) := by rw [hv1]; exact own_new 3 W2 W2.heap.size [.int .i64 num] rfl (Nat.le_refl _) (by simp [maxLen])
          have HT3 := Lib.hid (HT2.out.keep bv1)
          have HP3 := Lib.hid (HP2.out.keep bv1)
          have FP3 := FP2
          have hS3 : W3.cell? ⟨gx, 0, none⟩ = some (.slice (some ⟨kb, 0, none⟩) nk ck) ∧ W3.cell? ⟨gx, 1, none⟩ = some (.slice (some ⟨nb, 0, none⟩) nk cn) := ⟨keepBox bv1 hS2.1, keepBox bv1 hS2.2⟩
          rw [← hv1]
          clear hv1 bv1
          refine hK _ _ (fun _ => hS3) ?_
          clear hK
          (try simp only [Act.put, List.setIfInBounds_toArray, List.set_cons_zero, List.set_cons_succ])
          refine oneT (i := 15) (by kernel_rfl) rfl (by rfl) (fun Kq hK => ?_)
          have hz9 := HT3.out.bl.size
          refine wp_append_sl _ (.tmp 138) (.tmp 140) 25 rfl w.heap.size 3 i0 _ 8 Try.underlying25 hi0 hz0 hz1 hz2 rfl (some ⟨nb, 0, none⟩) nk cn _ rfl HT3.out.no_ (some ⟨W2.heap.size, 0, none⟩) 1 1 [.int .i64 num] rfl SB3.out.sl (by simp [Value.oneCell']) (by simp only [maxLen]; omega) (by omega) hz9 ?_
          intro N2 cn2 W4 hO2 hG2 hA2
          have HT4 := Lib.hid (HT3.out.growN hO2 hG2 hA2)
          have HP4 := Lib.hid (HP3.out.kept hG2 FP3.out)
          have FP4 : Hid (blockOf P = none ∨ blockOf P ≠ blockOf N2) := own_moved HP3.out FP3.out hA2
          have hS4 : W4.cell? ⟨gx, 0, none⟩ = some (.slice (some ⟨kb, 0, none⟩) nk ck) ∧ W4.cell? ⟨gx, 1, none⟩ = some (.slice (some ⟨nb, 0, none⟩) nk cn) := ⟨by have := HT4.out.tb.cell 0; simpa using this, by have := HT4.out.tb.cell 1; simpa using this⟩
          refine hK _ _ (fun _ => hS4) ?_
          clear hK
          (try simp only [Act.put, List.setIfInBounds_toArray, List.set_cons_zero, List.set_cons_succ])
          (try simp only [Nat.zero_add])
          have kf0 := HT4.out.tb.frozen 0
          have kf1 := HT4.out.tb.frozen 1
          have kc0 := HT4.out.tb.cell 0
          have kc1 := HT4.out.tb.cell 1
          simp at kc0 kc1
          have kl := HT4.out.tb.lt
          refine take0 (i := 16) (oi := _) (v := ?_) rfl (by kernel_rfl) (by kernel_rfl) (by kernel_rfl) (fun _ _ _ h => h) rfl (Or.inl ⟨by rfl, ?_⟩) (fun _ => hS4) ?_
          rotate_left
          · intro w0; go_simp; with_reducible rfl
          (try simp only [Act.put, List.setIfInBounds_toArray, List.set_cons_zero, List.set_cons_succ])
          refine take0 (i := 17) (oi := _) (v := ?_) rfl (by kernel_rfl) (by kernel_rfl) (by kernel_rfl) (fun _ _ _ h => h) rfl (Or.inl ⟨by rfl, ?_⟩) (fun _ => hS4) ?_
          rotate_left
          · intro w0; go_simp; with_reducible rfl
          (try simp only [Act.put, List.setIfInBounds_toArray, List.set_cons_zero, List.set_cons_succ])
          refine oneT (i := 18) (by kernel_rfl) rfl (by rfl) (fun Kq hK => ?_)
          go_simp
          refine hK _ _ (noT_no (by kernel_rfl)) ?_
          clear hK
          refine take0 (i := 19) (oi := _) (v := ?_) rfl (by kernel_rfl) (by kernel_rfl) (by kernel_rfl) (fun _ _ _ h => h) rfl (Or.inl ⟨by rfl, ?_⟩) (noT_no (by kernel_rfl)) ?_
          rotate_left
          · intro w0; go_simp; with_reducible rfl
          (try simp only [Act.put, List.setIfInBounds_toArray, List.set_cons_zero, List.set_cons_succ])
          refine take0 (i := 20) (oi := _) (v := ?_) rfl (by kernel_rfl) (by kernel_rfl) (by kernel_rfl) (fun _ _ _ h => h) rfl (Or.inl ⟨by rfl, ?_⟩) (noT_no (by kernel_rfl)) ?_
          rotate_left
          · intro w0; go_simp; with_reducible rfl
          (try simp only [Act.put, List.setIfInBounds_toArray, List.set_cons_zero, List.set_cons_succ])
          refine oneT (i := 21) (by kernel_rfl) rfl (by rfl) (fun Kq hK => ?_)
          go_simp
          refine hK _ _ (noT_no (by kernel_rfl)) ?_
          clear hK
          refine doneT (by kernel_rfl) ?_ _
          go_wp2_with fail
          go_end0
          refine ⟨rfl, K2, nk + 1, ck2, N2, cn2, Oz, noz, coz, ?_⟩
          have := (HT4.out.put 0 (.slice K2 (nk + 1) ck2)).put 1 (.slice N2 (nk + 1) cn2)
          simpa using this
        · go_simp
          obtain ⟨W2, hv1⟩ : ∃ v1 : World, v1 = W1.alloc (.cells #[.int .i64 num] 3) := ⟨_, rfl⟩
          have bv1 : Below W1.heap.size W1 W2 := by rw [hv1]; exact below_new _ _
          have SB2 : Hid (Own 3 W2 W1.heap.size (some ⟨W1.heap.size, 0, none⟩) 1 1 [.int .i64 num]) := by rw [hv1]; exact own_new 3 W1 W1.heap.size [.int .i64 num] rfl (Nat.le_refl _) (by simp [maxLen])
          have HT2 := Lib.hid (HT1.out.keep bv1)
          have HP2 := Lib.hid (HP1.out.keep bv1)
          have FP2 := FP1
          have SA2 := Lib.hid (SA1.out.keep bv1)
          have hS2 : W2.cell? ⟨gx, 0, none⟩ = some (.slice (some ⟨kb, 0, none⟩) nk ck) ∧ W2.cell? ⟨gx, 1, none⟩ = some (.slice (some ⟨nb, 0, none⟩) nk cn) := ⟨keepBox bv1 hS1.1, keepBox bv1 hS1.2⟩
          rw [← hv1]
          clear hv1 bv1
          refine hK _ _ (fun _ => hS2) ?_
          clear hK
          (try simp only [Act.put, List.setIfInBounds_toArray, List.set_cons_zero, List.set_cons_succ])
          refine oneT (i := 8) (by kernel_rfl) rfl (by rfl) (fun Kq hK => ?_)
          have hz9 := HT2.out.bl.size
          have HI2 := Lib.hid (HP2.out.ints (fun z hz => by have := hI.out.1.1 z hz; unfold I64; omega))
          obtain ⟨vs, hv1, hv2, hv3⟩ := HT2.out.ko
          have HV1 := Lib.hid hv1
          have HV2 := Lib.hid hv2
          have HV3 := Lib.hid hv3
          clear hv1 hv2 hv3
          refine wp_append_sl _ (.tmp 131) (.tmp 133) 22 rfl w.heap.size 25 ir _ 24 Try.underlying22 hir hr0 hr1 hr2 rfl (some ⟨kb, 0, none⟩) nk ck vs rfl HV1.out (some ⟨W0.heap.size, 0, none⟩) 1 1 [.slice P np cp] rfl SA2.out.sl (by simp [Value.oneCell']) (by simp only [maxLen]; omega) (by omega) hz9 ?_
          intro K2 ck2 W3 hO2 hG2 hA2
          have HT3 := Lib.hid (HT2.out.growK HV1.out HV2.out HV3.out HI2.out (Away.own HP2.out) (fun _ => FP2.out) hO2 hG2)
          have HP3 := Lib.hid (HP2.out.kept hG2 (own_ne HP2.out HV1.out (by decide)))
          have FP3 := FP2
          have SB3 := Lib.hid (SB2.out.kept hG2 (own_ne SB2.out HV1.out (by decide)))
          have hS3 : W3.cell? ⟨gx, 0, none⟩ = some (.slice (some ⟨kb, 0, none⟩) nk ck) ∧ W3.cell? ⟨gx, 1, none⟩ = some (.slice (some ⟨nb, 0, none⟩) nk cn) := ⟨by have := HT3.out.tb.cell 0; simpa using this, by have := HT3.out.tb.cell 1; simpa using this⟩
          refine hK _ _ (fun _ => hS3) ?_
          clear hK
          (try simp only [Act.put, List.setIfInBounds_toArray, List.set_cons_zero, List.set_cons_succ])
          (try simp only [Nat.zero_add])
          refine oneT (i := 15) (by kernel_rfl) rfl (by rfl) (fun Kq hK => ?_)
          have hz9 := HT3.out.bl.size
          refine wp_append_sl _ (.tmp 138) (.tmp 140) 25 rfl w.heap.size 3 i0 _ 8 Try.underlying25 hi0 hz0 hz1 hz2 rfl (some ⟨nb, 0, none⟩) nk cn _ rfl HT3.out.no_ (some ⟨W1.heap.size, 0, none⟩) 1 1 [.int .i64 num] rfl SB3.out.sl (by simp [Value.oneCell']) (by simp only [maxLen]; omega) (by omega) hz9 ?_
          intro N2 cn2 W4 hO2 hG2 hA2
          have HT4 := Lib.hid (HT3.out.growN hO2 hG2 hA2)
          have HP4 := Lib.hid (HP3.out.kept hG2 FP3.out)
          have FP4 : Hid (blockOf P = none ∨ blockOf P ≠ blockOf N2) := own_moved HP3.out FP3.out hA2
          have hS4 : W4.cell? ⟨gx, 0, none⟩ = some (.slice (some ⟨kb, 0, none⟩) nk ck) ∧ W4.cell? ⟨gx, 1, none⟩ = some (.slice (some ⟨nb, 0, none⟩) nk cn) := ⟨by have := HT4.out.tb.cell 0; simpa using this, by have := HT4.out.tb.cell 1; simpa using this⟩
          refine hK _ _ (fun _ => hS4) ?_
          clear hK
          (try simp only [Act.put, List.setIfInBounds_toArray, List.set_cons_zero, List.set_cons_succ])
          (try simp only [Nat.zero_add])
          have kf0 := HT4.out.tb.frozen 0
          have kf1 := HT4.out.tb.frozen 1
          have kc0 := HT4.out.tb.cell 0
          have kc1 := HT4.out.tb.cell 1
          simp at kc0 kc1
          have kl := HT4.out.tb.lt
          refine take0 (i := 16) (oi := _) (v := ?_) rfl (by kernel_rfl) (by kernel_rfl) (by kernel_rfl) (fun _ _ _ h => h) rfl (Or.inl ⟨by rfl, ?_⟩) (fun _ => hS4) ?_
          rotate_left
          · intro w0; go_simp; with_reducible rfl
          (try simp only [Act.put, List.setIfInBounds_toArray, List.set_cons_zero, List.set_cons_succ])
          refine take0 (i := 17) (oi := _) (v := ?_) rfl (by kernel_rfl) (by kernel_rfl) (by kernel_rfl) (fun _ _ _ h => h) rfl (Or.inl ⟨by rfl, ?_⟩) (fun _ => hS4) ?_
          rotate_left
          · intro w0; go_simp; with_reducible rfl
          (try simp only [Act.put, List.setIfInBounds_toArray, List.set_cons_zero, List.set_cons_succ])
          refine oneT (i := 18) (by kernel_rfl) rfl (by rfl) (fun Kq hK => ?_)
          go_simp
          refine hK _ _ (noT_no (by kernel_rfl)) ?_
          clear hK
          refine take0 (i := 19) (oi := _) (v := ?_) rfl (by kernel_rfl) (by kernel_rfl) (by kernel_rfl) (fun _ _ _ h => h) rfl (Or.inl ⟨by rfl, ?_⟩) (noT_no (by kernel_rfl)) ?_
          rotate_left
          · intro w0; go_simp; with_reducible rfl
          (try simp only [Act.put, List.setIfInBounds_toArray, List.set_cons_zero, List.set_cons_succ])
          refine take0 (i := 20) (oi := _) (v := ?_) rfl (by kernel_rfl) (by kernel_rfl) (by kernel_rfl) (fun _ _ _ h => h) rfl (Or.inl ⟨by rfl, ?_⟩) (noT_no (by kernel_rfl)) ?_
          rotate_left
          · intro w0; go_simp; with_reducible rfl
          (try simp only [Act.put, List.setIfInBounds_toArray, List.set_cons_zero, List.set_cons_succ])
          refine oneT (i := 21) (by kernel_rfl) rfl (by rfl) (fun Kq hK => ?_)
          go_simp
          refine hK _ _ (noT_no (by kernel_rfl)) ?_
          clear hK
          refine doneT (by kernel_rfl) ?_ _
          go_wp2_with fail
          go_end0
          refine ⟨rfl, K2, nk + 1, ck2, N2, cn2, Oz, noz, coz, ?_⟩
          have := (HT4.out.put 0 (.slice K2 (nk + 1) ck2)).put 1 (.slice N2 (nk + 1) cn2)
          simpa using this
      · go_simp
        obtain ⟨W1, hv1⟩ : ∃ v1 : World, v1 = W0.alloc (.cells #[.int .i64 num] 3) := ⟨_, rfl⟩
        have bv1 : Below W0.heap.size W0 W1 := by rw [hv1]; exact below_new _ _
        have SB1 : Hid (Own 3 W1 W0.heap.size (some ⟨W0.heap.size, 0, none⟩) 1 1 [.int .i64 num]) := by rw [hv1]; exact own_new 3 W0 W0.heap.size [.int .i64 num] rfl (Nat.le_refl _) (by simp [maxLen])
        have HT1 := Lib.hid (HT0.out.keep bv1)
        have HP1 := Lib.hid (HP0.out.keep bv1)
        have FP1 := FP0
        have hS1 : W1.cell? ⟨gx, 0, none⟩ = some (.slice (some ⟨kb, 0, none⟩) nk ck) ∧ W1.cell? ⟨gx, 1, none⟩ = some (.slice (some ⟨nb, 0, none⟩) nk cn) := ⟨keepBox bv1 hS0.1, keepBox bv1 hS0.2⟩
        rw [← hv1]
        clear hv1 bv1
        refine hK _ _ (fun _ => hS1) ?_
        clear hK
        (try simp only [Act.put, List.setIfInBounds_toArray, List.set_cons_zero, List.set_cons_succ])
        refine oneT (i := 7) (by kernel_rfl) rfl (by rfl) (fun Kq hK => ?_)
        go_simp
        obtain ⟨W2, hv1⟩ : ∃ v1 : World, v1 = W1.alloc (.cells #[.slice P np cp] 25) := ⟨_, rfl⟩
        have bv1 : Below W1.heap.size W1 W2 := by rw [hv1]; exact below_new _ _
        have SA2 : Hid (Own 25 W2 W1.heap.size (some ⟨W1.heap.size, 0, none⟩) 1 1 [.slice P np cp]) := by rw [hv1]; exact own_new 25 W1 W1.heap.size [.slice P np cp] rfl (Nat.le_refl _) (by simp [maxLen])
        have HT2 := Lib.hid (HT1.out.keep bv1)
        have HP2 := Lib.hid (HP1.out.keep bv1)
        have FP2 := FP1
        have SB2 := Lib.hid (SB1.out.keep bv1)
        have hS2 : W2.cell? ⟨gx, 0, none⟩ = some (.slice (some ⟨kb, 0, none⟩) nk ck) ∧ W2.cell? ⟨gx, 1, none⟩ = some (.slice (some ⟨nb, 0, none⟩) nk cn) := ⟨keepBox bv1 hS1.1, keepBox bv1 hS1.2⟩
        rw [← hv1]
        clear hv1 bv1
        refine hK _ _ (fun _ => hS2) ?_
        clear hK
        (try simp only [Act.put, List.setIfInBounds_toArray, List.set_cons_zero, List.set_cons_succ])
        refine oneT (i := 8) (by kernel_rfl) rfl (by rfl) (fun Kq hK => ?_)
        have hz9 := HT2.out.bl.size
        have HI2 := Lib.hid (HP2.out.ints (fun z hz => by have := hI.out.1.1 z hz; unfold I64; omega))
        obtain ⟨vs, hv1, hv2, hv3⟩ := HT2.out.ko
        have HV1 := Lib.hid hv1
        have HV2 := Lib.hid hv2
        have HV3 := Lib.hid hv3
        clear hv1 hv2 hv3
        refine wp_append_sl _ (.tmp 131) (.tmp 133) 22 rfl w.heap.size 25 ir _ 24 Try.underlying22 hir hr0 hr1 hr2 rfl (some ⟨kb, 0, none⟩) nk ck vs rfl HV1.out (some ⟨W1.heap.size, 0, none⟩) 1 1 [.slice P np cp] rfl SA2.out.sl (by simp [Value.oneCell']) (by simp only [maxLen]; omega) (by omega) hz9 ?_
        intro K2 ck2 W3 hO2 hG2 hA2
        have HT3 := Lib.hid (HT2.out.growK HV1.out HV2.out HV3.out HI2.out (Away.own HP2.out) (fun _ => FP2.out) hO2 hG2)
        have HP3 := Lib.hid (HP2.out.kept hG2 (own_ne HP2.out HV1.out (by decide)))
        have FP3 := FP2
        have SB3 := Lib.hid (SB2.out.kept hG2 (own_ne SB2.out HV1.out (by decide)))
        have hS3 : W3.cell? ⟨gx, 0, none⟩ = some (.slice (some ⟨kb, 0, none⟩) nk ck) ∧ W3.cell? ⟨gx, 1, none⟩ = some (.slice (some ⟨nb, 0, none⟩) nk cn) := ⟨by have := HT3.out.tb.cell 0; simpa using this, by have := HT3.out.tb.cell 1; simpa using this⟩
        refine hK _ _ (fun _ => hS3) ?_
        clear hK
        (try simp only [Act.put, List.setIfInBounds_toArray, List.set_cons_zero, List.set_cons_succ])
        (try simp only [Nat.zero_add])
        refine oneT (i := 15) (by kernel_rfl) rfl (by rfl) (fun Kq hK => ?_)
        have hz9 := HT3.out.bl.size
        refine wp_append_sl _ (.tmp 138) (.tmp 140) 25 rfl w.heap.size 3 i0 _ 8 Try.underlying25 hi0 hz0 hz1 hz2 rfl (some ⟨nb, 0, none⟩) nk cn _ rfl HT3.out.no_ (some ⟨W0.heap.size, 0, none⟩) 1 1 [.int .i64 num] rfl SB3.out.sl (by simp [Value.oneCell']) (by simp only [maxLen]; omega) (by omega) hz9 ?_
        intro N2 cn2 W4 hO2 hG2 hA2
        have HT4 := Lib.hid (HT3.out.growN hO2 hG2 hA2)
        have HP4 := Lib.hid (HP3.out.kept hG2 FP3.out)
        have FP4 : Hid (blockOf P = none ∨ blockOf P ≠ blockOf N2) := own_moved HP3.out FP3.out hA2
        have hS4 : W4.cell? ⟨gx, 0, none⟩ = some (.slice (some ⟨kb, 0, none⟩) nk ck) ∧ W4.cell? ⟨gx, 1, none⟩ = some (.slice (some ⟨nb, 0, none⟩) nk cn) := ⟨by have := HT4.out.tb.cell 0; simpa using this, by have := HT4.out.tb.cell 1; simpa using this⟩
        refine hK _ _ (fun _ => hS4) ?_
        clear hK
        (try simp only [Act.put, List.setIfInBounds_toArray, List.set_cons_zero, List.set_cons_succ])
        (try simp only [Nat.zero_add])
        have kf0 := HT4.out.tb.frozen 0
        have kf1 := HT4.out.tb.frozen 1
        have kc0 := HT4.out.tb.cell 0
        have kc1 := HT4.out.tb.cell 1
        simp at kc0 kc1
        have kl := HT4.out.tb.lt
        refine take0 (i := 16) (oi := _) (v := ?_) rfl (by kernel_rfl) (by kernel_rfl) (by kernel_rfl) (fun _ _ _ h => h) rfl (Or.inl ⟨by rfl, ?_⟩) (fun _ => hS4) ?_
        rotate_left
        · intro w0; go_simp; with_reducible rfl
        (try simp only [Act.put, List.setIfInBounds_toArray, List.set_cons_zero, List.set_cons_succ])
        refine take0 (i := 17) (oi := _) (v := ?_) rfl (by kernel_rfl) (by kernel_rfl) (by kernel_rfl) (fun _ _ _ h => h) rfl (Or.inl ⟨by rfl, ?_⟩) (fun _ => hS4) ?_
        rotate_left
        · intro w0; go_simp; with_reducible rfl
        (try simp only [Act.put, List.setIfInBounds_toArray, List.set_cons_zero, List.set_cons_succ])
        refine oneT (i := 18) (by kernel_rfl) rfl (by rfl) (fun Kq hK => ?_)
        go_simp
        refine hK _ _ (noT_no (by kernel_rfl)) ?_
        clear hK
        refine take0 (i := 19) (oi := _) (v := ?_) rfl (by kernel_rfl) (by kernel_rfl) (by kernel_rfl) (fun _ _ _ h => h) rfl (Or.inl ⟨by rfl, ?_⟩) (noT_no (by kernel_rfl)) ?_
        rotate_left
        · intro w0; go_simp; with_reducible rfl
        (try simp only [Act.put, List.setIfInBounds_toArray, List.set_cons_zero, List.set_cons_succ])
        refine take0 (i := 20) (oi := _) (v := ?_) rfl (by kernel_rfl) (by kernel_rfl) (by kernel_rfl) (fun _ _ _ h => h) rfl (Or.inl ⟨by rfl, ?_⟩) (noT_no (by kernel_rfl)) ?_
        rotate_left
        · intro w0; go_simp; with_reducible rfl
        (try simp only [Act.put, List.setIfInBounds_toArray, List.set_cons_zero, List.set_cons_succ])
        refine oneT (i := 21) (by kernel_rfl) rfl (by rfl) (fun Kq hK => ?_)
        go_simp
        refine hK _ _ (noT_no (by kernel_rfl)) ?_
        clear hK
        refine doneT (by kernel_rfl) ?_ _
        go_wp2_with fail
        go_end0
        refine ⟨rfl, K2, nk + 1, ck2, N2, cn2, Oz, noz, coz, ?_⟩
        have := (HT4.out.put 0 (.slice K2 (nk + 1) ck2)).put 1 (.slice N2 (nk + 1) cn2)
        simpa using this
    · obtain ⟨j, rfl⟩ : ∃ j, k = j + 1 := ⟨k - 1, by omega⟩
      have ej : ((j + 1 : Nat) : Int) - 1 = (j : Int) := by omega
      rw [ej]
      have hjt : j < t.length := by omega
      have hyt := HHT.out.2.1
      have hjy : j < y.length := by omega
      have g1 := hR.out.tb.cell 1
      have g2 := hR.out.tb.cell 2
      simp at g1 g2
      have zg := hR.out.tb.lt
      obtain ⟨bL, l0, hLe, _, _, hcL, _, hl0⟩ := hR.out.ol.at_ hjt
      obtain ⟨bY, y0, hYe, _, _, hcY, _, hy0⟩ := hR.out.oy.at_ hjy
      obtain ⟨l, hl1, rfl⟩ : ∃ z : Int, t[j]? = some z ∧ l0 = .int .i64 z := by
        have := hl0.out
        rw [List.getElem?_map, Option.map_eq_some_iff] at this
        obtain ⟨z, h1, h2⟩ := this
        exact ⟨z, h1, h2.symm⟩
      obtain ⟨yk, hy1, rfl⟩ : ∃ z : Int, y[j]? = some z ∧ y0 = .int .i64 z := by
        have := hy0.out
        rw [List.getElem?_map, Option.map_eq_some_iff] at this
        obtain ⟨z, h1, h2⟩ := this
        exact ⟨z, h1, h2.symm⟩
      have hlb := HHT.out.1.1 l (List.mem_of_getElem? hl1)
      have hykb := HHT.out.2.2.1 yk (List.mem_of_getElem? hy1)
      rw [hkn.out] at hykb
      have hst : Hid ((if yk < 0 ∨ hasB now (-l) = false then trF known nums t y j now num nz oz else trF known nums t y j (rvF (known.getD yk.toNat []) now (l.natAbs : Int)) nz (nz + 1) (oz ++ [rsT l num (nums.getD yk.toNat 0)])) = (q1, q2, nx', out')) := by
        have := hq9.out
        rw [trF, List.getD_eq_getElem?_getD, List.getD_eq_getElem?_getD, hy1, hl1] at this
        exact this
      have uj1 : (0 : Int) ≤ (j : Int) := by omega
      have uj2 : (j : Int) < (t.length : Int) := by omega
      have uj3 : (j : Int) < (y.length : Int) := by omega
      have hclL : t.length ≤ cl ∧ cl ≤ 9223372036854775807 := by have h1 := hR.out.ol.sl.le; have h2 := hR.out.ol.sl.cap; unfold maxLen at h2; omega
      have hclY : y.length ≤ cy ∧ cy ≤ 9223372036854775807 := by have h1 := hR.out.oy.sl.le; have h2 := hR.out.oy.sl.cap; unfold maxLen at h2; omega
      have z1 := (cell_lt hcL).1
      have z2 := (cell_lt hcY).1
      have HLe : Hid (L = some ⟨bL, 0, none⟩) := hLe
      have HYe : Hid (Y = some ⟨bY, 0, none⟩) := hYe
      clear hq9 hl0 hy0 hq hQN
      subst hLe hYe
      go_wp2_with fail
      go_quiet (fail)
      obtain ⟨wq, hwq⟩ : ∃ wq : World, wq = wr.drewN nq := ⟨_, rfl⟩
      have hbq : Below wr.heap.size wr wq := by rw [hwq]; exact below_drewN _ _
      (try rw [← hwq])
      have HTq := Lib.hid (hT.out.keep hbq)
      have HRq := Lib.hid (hR.out.keep hbq)
      have HPq := Lib.hid (hP.out.keep hbq)
      have HIq := Lib.hid (HPI.out.keep hbq)
      clear hwq hbq hT hR hP HPI g1 g2 zg hcL hcY z1 z2 hgxl
      by_cases hy0 : yk < 0
      · have hst2 : Hid (trF known nums t y j now num nz oz = (q1, q2, nx', out')) := by have := hst.out; rw [if_pos (.inl hy0)] at this; exact this
        clear hst
        go_wp2_with fail
        go_roundw
        case rel => exact ⟨j, P, np, cp, now, num, nz, Oz, noz, coz, oz, by omega, by omega, rfl, rfl, by go_num, HTq, HRq, HPq, by have := hI.out; exact ⟨this.1, by omega, by omega, by omega, by omega⟩, hst2⟩
        case measure => simp [intOf] <;> omega
      have dy : decide (yk < 0) = false := decide_eq_false hy0
      obtain ⟨qh, hqh⟩ : ∃ qh, Hid (hasB now (-l) = qh) := ⟨_, rfl⟩
      go_wp2_with fail
      refine (contains_ints _ _ _ now (-l) _ HIq.out qh hqh).mono ?_
      rintro e w7 hq7
      obtain ⟨rfl, hb7⟩ := hq7.v
      have HT7 := Lib.hid (HTq.out.keep hb7)
      have HR7 := Lib.hid (HRq.out.keep hb7)
      have HP7 := Lib.hid (HPq.out.keep hb7)
      have HI7 := Lib.hid (HIq.out.keep hb7)
      clear hq7 hb7 HTq HRq HPq HIq
      cases qh
      · have hst2 : Hid (trF known nums t y j now num nz oz = (q1, q2, nx', out')) := by have := hst.out; rw [if_pos (.inr hqh.out)] at this; exact this
        clear hst
        go_wp2_with fail
        go_roundw
        case rel => exact ⟨j, P, np, cp, now, num, nz, Oz, noz, coz, oz, by omega, by omega, rfl, rfl, by go_num, HT7, HR7, HP7, by have := hI.out; exact ⟨this.1, by omega, by omega, by omega, by omega⟩, hst2⟩
        case measure => simp [intOf] <;> omega
      obtain ⟨yN, rfl⟩ : ∃ yN : Nat, yk = (yN : Int) := ⟨yk.toNat, by omega⟩
      have hyN : yN < nk := by omega
      obtain ⟨_, Xw, nw, cw, xw, hKe, _, _, hcK, _, hIw, hAw, hxw⟩ := HT7.out.ko.p.round hyN
      obtain ⟨_, u0, hNe, _, _, hcN, _, hu0⟩ := HT7.out.no_.at_ hyN
      cases hKe
      cases hNe
      obtain ⟨mw, hu1, rfl⟩ : ∃ z : Int, nums[yN]? = some z ∧ u0 = .int .i64 z := by
        have := hu0.out
        rw [List.getElem?_map, Option.map_eq_some_iff] at this
        obtain ⟨z, hz1, hz2⟩ := this
        exact ⟨z, hz1, hz2.symm⟩
      have HMW : Hid (0 ≤ mw ∧ mw < nx) := HN.out mw (List.mem_of_getElem? hu1)
      have HXW : Hid (Lits vars xw) := HK.out xw (List.mem_of_getElem? hxw.out)
      have hst2 : Hid (trF known nums t y j (rvF xw now (l.natAbs : Int)) nz (nz + 1) (oz ++ [rsT l num mw]) = (q1, q2, nx', out')) := by
        have := hst.out
        rw [if_neg (by rw [hqh.out]; simp)] at this
        rw [Int.toNat_natCast, show known.getD yN [] = xw by rw [List.getD_eq_getElem?_getD, hxw.out]; rfl, show nums.getD yN 0 = mw by rw [List.getD_eq_getElem?_getD, hu1]; rfl] at this
        exact this
      have HIw := Lib.hid hIw
      have HXK : Hid (known[yN]? = some xw) := hxw
      have HCK := Lib.hid hcK
      have uy1 : (0 : Int) ≤ (yN : Int) := by omega
      have uy2 : (yN : Int) < (nk : Int) := by omega
      clear hst hu0 hu1 hxw hIw hAw
      go_wp2_with fail
      obtain ⟨wd8, hwd⟩ : ∃ z : World, z = w7.drew := ⟨_, rfl⟩
      have hbd : Below w7.heap.size w7 wd8 := by rw [hwd]; exact below_drewN _ 1
      have hS : wd8.cell? ⟨gx, 1, none⟩ = some (.slice (some ⟨nb, 0, none⟩) nk cn) ∧ wd8.cell? ⟨nb, yN, none⟩ = some (.int .i64 mw) := ⟨by have := (HT7.out.keep hbd).tb.cell 1; simpa using this, keepBox hbd hcN⟩
      have HT8 := Lib.hid (HT7.out.keep hbd)
      have HR8 := Lib.hid (HR7.out.keep hbd)
      have HP8 := Lib.hid (HP7.out.keep hbd)
      have zgx := HT8.out.tb.lt
      clear hbd HT7 HR7 HP7 HI7 HIw HCK hcN hcK
      refine wp_region_tail (fun w' => w'.cell? ⟨gx, 1, none⟩ = some (.slice (some ⟨nb, 0, none⟩) nk cn) ∧ w'.cell? ⟨nb, yN, none⟩ = some (.int .i64 mw)) [12] (by kernel_rfl) ?_
      change wpAnyT _ _ _ _ _ _ _ _ _ w7.drew
      rw [← hwd]
      clear hwd
      refine take0 (i := 0) (oi := _) (v := ?_) rfl (by kernel_rfl) (by kernel_rfl) (by kernel_rfl) (fun _ _ _ h => h) rfl (Or.inl ⟨by rfl, ?_⟩) (fun _ => hS) ?_
      rotate_left
      · intro w0; go_simp; with_reducible rfl
      (try simp only [Act.put, List.setIfInBounds_toArray, List.set_cons_zero, List.set_cons_succ])
      refine take0 (i := 1) (oi := _) (v := ?_) rfl (by kernel_rfl) (by kernel_rfl) (by kernel_rfl) (fun _ _ _ h => h) rfl (Or.inl ⟨by rfl, ?_⟩) (fun _ => hS) ?_
      rotate_left
      · intro w0; go_simp; with_reducible rfl
      (try simp only [Act.put, List.setIfInBounds_toArray, List.set_cons_zero, List.set_cons_succ])
      refine take0 (i := 2) (oi := _) (v := ?_) rfl (by kernel_rfl) (by kernel_rfl) (by kernel_rfl) (fun _ _ _ h => h) rfl (Or.inl ⟨by rfl, ?_⟩) (fun _ => hS) ?_
      rotate_left
      · intro w0; go_simp; with_reducible rfl
      (try simp only [Act.put, List.setIfInBounds_toArray, List.set_cons_zero, List.set_cons_succ])
      refine takeS (i := 3) (oi := _) (v := ?_) rfl (by kernel_rfl) (by kernel_rfl) (by kernel_rfl) (fun _ _ _ h => h) rfl (by kernel_rfl) (by kernel_rfl) (Or.inl ⟨by rfl, ?_⟩) hS ?_
      rotate_left
      · intro w0 hSw; (try dsimp only at hSw); go_simp; with_reducible rfl
      (try simp only [Act.put, List.setIfInBounds_toArray, List.set_cons_zero, List.set_cons_succ])
      refine take0 (i := 4) (oi := _) (v := ?_) rfl (by kernel_rfl) (by kernel_rfl) (by kernel_rfl) (fun _ _ _ h => h) rfl (Or.inl ⟨by rfl, ?_⟩) (fun _ => hS) ?_
      rotate_left
      · intro w0; go_simp; with_reducible rfl
      (try simp only [Act.put, List.setIfInBounds_toArray, List.set_cons_zero, List.set_cons_succ])
      refine take0 (i := 5) (oi := _) (v := ?_) rfl (by kernel_rfl) (by kernel_rfl) (by kernel_rfl) (fun _ _ _ h => h) rfl (Or.inl ⟨by rfl, ?_⟩) (fun _ => hS) ?_
      rotate_left
      · intro w0; go_simp; with_reducible rfl
      (try simp only [Act.put, List.setIfInBounds_toArray, List.set_cons_zero, List.set_cons_succ])
      refine takeS (i := 6) (oi := _) (v := ?_) rfl (by kernel_rfl) (by kernel_rfl) (by kernel_rfl) (fun _ _ _ h => h) rfl (by kernel_rfl) (by kernel_rfl) (Or.inl ⟨by rfl, ?_⟩) hS ?_
      rotate_left
      · intro w0 hSw; (try dsimp only at hSw); go_simp; with_reducible rfl
      (try simp only [Act.put, List.setIfInBounds_toArray, List.set_cons_zero, List.set_cons_succ])
      refine take0 (i := 7) (oi := _) (v := ?_) rfl (by kernel_rfl) (by kernel_rfl) (by kernel_rfl) (fun _ _ _ h => h) rfl (Or.inl ⟨by rfl, ?_⟩) (fun _ => hS) ?_
      rotate_left
      · intro w0; go_simp; with_reducible rfl
      (try simp only [Act.put, List.setIfInBounds_toArray, List.set_cons_zero, List.set_cons_succ])
      refine take0 (i := 8) (oi := _) (v := ?_) rfl (by kernel_rfl) (by kernel_rfl) (by kernel_rfl) (fun _ _ _ h => h) rfl (Or.inl ⟨by rfl, ?_⟩) (fun _ => hS) ?_
      rotate_left
      · intro w0; go_simp; with_reducible rfl
      (try simp only [Act.put, List.setIfInBounds_toArray, List.set_cons_zero, List.set_cons_succ])
      refine twoT (i := 9) (j := 11) (by kernel_rfl) rfl (by rfl) rfl (by rfl) (fun Kq hK => ?_) (fun Kq hK => ?_)
      · go_simp
        refine (var_same l _ (by omega) (by omega)).mono ?_
        rintro e wv ⟨rfl, hwv⟩
        rw [hwv]
        clear hwv wv
        refine hK _ _ (fun _ => hS) ?_
        clear hK
        (try simp only [Act.put, List.setIfInBounds_toArray, List.set_cons_zero, List.set_cons_succ])
        refine take0 (i := 10) (oi := _) (v := ?_) rfl (by kernel_rfl) (by kernel_rfl) (by kernel_rfl) (fun _ _ _ h => h) rfl (Or.inl ⟨by rfl, ?_⟩) (fun _ => hS) ?_
        rotate_left
        · intro w0; go_simp; with_reducible rfl
        (try simp only [Act.put, List.setIfInBounds_toArray, List.set_cons_zero, List.set_cons_succ])
        refine oneT (i := 11) (by kernel_rfl) rfl (by rfl) (fun Kq hK => ?_)
        go_simp
        obtain ⟨w9, hw9⟩ : ∃ z : World, z = wd8.alloc (.cells #[.int .i64 0, .int .i64 0, .int .i64 0] 75) := ⟨_, rfl⟩
        have hba : Below wd8.heap.size wd8 w9 := by rw [hw9]; exact below_new _ _
        have KB9 : Hid (Blk w9 wd8.heap.size 75 #[.int .i64 0, .int .i64 0, .int .i64 0]) := by rw [hw9]; exact Blk.new _ _ _
        have hS9 : w9.cell? ⟨gx, 1, none⟩ = some (.slice (some ⟨nb, 0, none⟩) nk cn) ∧ w9.cell? ⟨nb, yN, none⟩ = some (.int .i64 mw) := ⟨keepBox hba hS.1, keepBox hba hS.2⟩
        rw [← hw9]
        have HBA := Lib.hid hba
        clear hba hw9
        refine hK _ _ (fun _ => hS9) ?_
        clear hK
        (try simp only [Act.put, List.setIfInBounds_toArray, List.set_cons_zero, List.set_cons_succ])
        refine oneT (i := 12) (by kernel_rfl) rfl (by rfl) (fun Kq hK => ?_)
        go_simp
        obtain ⟨b9, hb9⟩ : ∃ q, q = wd8.heap.size := ⟨_, rfl⟩
        have KT9 : Hid (Blk w9 b9 75 #[.int .i64 0, .int .i64 0, .int .i64 0]) := by rw [hb9]; exact KB9.out
        have LE9 : wd8.heap.size ≤ b9 := by rw [hb9]; exact Nat.le_refl _
        rw [← hb9]
        clear hb9 KB9
        have kc0 := KT9.out.cell 0
        have kc1 := KT9.out.cell 1
        have kc2 := KT9.out.cell 2
        simp at kc0 kc1 kc2
        have kf0 := KT9.out.frozen 0
        have kf1 := KT9.out.frozen 1
        have kf2 := KT9.out.frozen 2
        have klt := KT9.out.lt
        obtain ⟨wf, hwf⟩ : ∃ wf : World, wf = ((w9.setCell ⟨b9, 0, none⟩ (.int .i64 mw)).setCell ⟨b9, 1, none⟩ (.int .i64 num)).setCell ⟨b9, 2, none⟩ (.int .i64 (l.natAbs : Int)) := ⟨_, rfl⟩
        have KF : Hid (Blk wf b9 75 #[.int .i64 mw, .int .i64 num, .int .i64 (l.natAbs : Int)]) := by
          rw [hwf]
          have := ((KT9.out.set_ 0 (.int .i64 mw)).set_ 1 (.int .i64 num)).set_ 2 (.int .i64 (l.natAbs : Int))
          simpa [Hid] using this
        have HB8 : Hid (Below wd8.heap.size wd8 wf) := by
          rw [hwf]
          exact ((HBA.out.setCell (p := ⟨b9, 0, none⟩) LE9 _).setCell (p := ⟨b9, 1, none⟩) LE9 _).setCell (p := ⟨b9, 2, none⟩) LE9 _
        go_simp
        rw [← hwf]
        refine hK _ _ (noT_no (by kernel_rfl)) ?_
        clear hK
        refine doneT (by kernel_rfl) ?_ _
        have HTf := Lib.hid (HT8.out.keep HB8.out)
        have HRf := Lib.hid (HR8.out.keep HB8.out)
        have HPf := Lib.hid (HP8.out.keep HB8.out)
        have hlo9 : w.heap.size ≤ b9 := by have := HT8.out.bl.size; omega
        have hOb : Hid (∀ q, blockOf Oz = some q → q < b9) := fun q hq => by have := HT8.out.oo.lt hq; omega
        clear kc0 kc1 kc2 kf0 kf1 kf2 klt hwf KT9 HT8 HR8 HP8 HBA HB8 hS hS9 LE9 zgx
        have kc0 := KF.out.cell 0
        have kc1 := KF.out.cell 1
        have kc2 := KF.out.cell 2
        simp at kc0 kc1 kc2
        have kf0 := KF.out.frozen 0
        have kf1 := KF.out.frozen 1
        have klt := KF.out.lt
        by_cases hl0 : l < 0
        · have dl : decide (l < 0) = true := decide_eq_true hl0
          go_wp2_with fail
          obtain ⟨wg, hwg⟩ : ∃ z : World, z = (wf.setCell ⟨b9, 0, none⟩ (.int .i64 num)).setCell ⟨b9, 1, none⟩ (.int .i64 mw) := ⟨_, rfl⟩
          have KG : Hid (Blk wg b9 75 #[.int .i64 num, .int .i64 mw, .int .i64 (l.natAbs : Int)]) := by
            rw [hwg]
            have := (KF.out.set_ 0 (.int .i64 num)).set_ 1 (.int .i64 mw)
            simpa [Hid] using this
          have hobf : Hid (OwnR wf w.heap.size Oz noz coz oz) := HTf.out.oo
          have HTg : Hid (TrG w wg gx #[.slice (some ⟨kb, 0, none⟩) nk ck, .slice (some ⟨nb, 0, none⟩) nk cn, .int .i64 nz, .slice Oz noz coz] (some ⟨kb, 0, none⟩) nk ck (some ⟨nb, 0, none⟩) nk cn Oz noz coz known nums oz) := by
            rw [hwg]
            exact (HTf.out.farPut KF.out hlo9 hOb.out 0 (.int .i64 num)).farPut (KF.out.set_ 0 (.int .i64 num)) hlo9 hOb.out 1 (.int .i64 mw)
          have HRg : Hid (Tri wg w1.heap.size g (some ⟨kb, 0, none⟩) nk ck (some ⟨bL, 0, none⟩) cl (some ⟨bY, 0, none⟩) cy gm t y) := by
            rw [hwg]
            exact (HRf.out.put KF.out (by decide) (by decide) 0 (.int .i64 num)).put (KF.out.set_ 0 (.int .i64 num)) (by decide) (by decide) 1 (.int .i64 mw)
          have HPg : Hid (Own 3 wg w1.heap.size P np cp (now.map (Value.int .i64))) := by
            rw [hwg]
            exact (HPf.out.putT KF.out (by decide) 0 (.int .i64 num)).putT (KF.out.set_ 0 (.int .i64 num)) (by decide) 1 (.int .i64 mw)
          (try rw [← hwg])
          have hrs : Hid (rsT l num mw = (num, mw, (l.natAbs : Int))) := by show _ = _; unfold rsT; rw [if_pos (by omega)]
          clear hwg hobf kc0 kc1 kc2 kf0 kf1 klt KF HTf HRf HPf
          obtain ⟨wx, hwd⟩ : ∃ z : World, z = wg.drew := ⟨_, rfl⟩
          have hbd : Below wg.heap.size wg wx := by rw [hwd]; exact below_drewN _ 1
          have HTx := Lib.hid (HTg.out.keep hbd)
          have HRx := Lib.hid (HRg.out.keep hbd)
          have HPx := Lib.hid (HPg.out.keep hbd)
          have KX := Lib.hid (KG.out.keep hbd)
          clear hbd HTg HRg HPg KG
          have hS : wx.cell? ⟨gx, 3, none⟩ = some (.slice Oz noz coz) ∧ wx.cell? ⟨b9, 0, none⟩ = some (.int .i64 num) ∧ wx.cell? ⟨b9, 1, none⟩ = some (.int .i64 mw) ∧ wx.cell? ⟨b9, 2, none⟩ = some (.int .i64 (l.natAbs : Int)) := ⟨by have := HTx.out.tb.cell 3; simpa using this, by have := KX.out.cell 0; simpa using this, by have := KX.out.cell 1; simpa using this, by have := KX.out.cell 2; simpa using this⟩
          have zgx := HTx.out.tb.lt
          have zb9 := KX.out.lt
          obtain ⟨ires, hires, hs0, hs1, hs2⟩ := info_parts res_info
          refine wp_region_tail (fun w' => w'.cell? ⟨gx, 3, none⟩ = some (.slice Oz noz coz) ∧ w'.cell? ⟨b9, 0, none⟩ = some (.int .i64 num) ∧ w'.cell? ⟨b9, 1, none⟩ = some (.int .i64 mw) ∧ w'.cell? ⟨b9, 2, none⟩ = some (.int .i64 (l.natAbs : Int))) [10] (by kernel_rfl) ?_
          change wpAnyT _ _ _ _ _ _ _ _ _ wg.drew
          rw [← hwd]
          clear hwd
          refine take0 (i := 0) (oi := _) (v := ?_) rfl (by kernel_rfl) (by kernel_rfl) (by kernel_rfl) (fun _ _ _ h => h) rfl (Or.inl ⟨by rfl, ?_⟩) (fun _ => hS) ?_
          rotate_left
          · intro w0; go_simp; with_reducible rfl
          (try simp only [Act.put, List.setIfInBounds_toArray, List.set_cons_zero, List.set_cons_succ])
          refine take0 (i := 1) (oi := _) (v := ?_) rfl (by kernel_rfl) (by kernel_rfl) (by kernel_rfl) (fun _ _ _ h => h) rfl (Or.inl ⟨by rfl, ?_⟩) (fun _ => hS) ?_
          rotate_left
          · intro w0; go_simp; with_reducible rfl
          (try simp only [Act.put, List.setIfInBounds_toArray, List.set_cons_zero, List.set_cons_succ])
          refine take0 (i := 2) (oi := _) (v := ?_) rfl (by kernel_rfl) (by kernel_rfl) (by kernel_rfl) (fun _ _ _ h => h) rfl (Or.inl ⟨by rfl, ?_⟩) (fun _ => hS) ?_
          rotate_left
          · intro w0; go_simp; with_reducible rfl
          (try simp only [Act.put, List.setIfInBounds_toArray, List.set_cons_zero, List.set_cons_succ])
          refine take0 (i := 3) (oi := _) (v := ?_) rfl (by kernel_rfl) (by kernel_rfl) (by kernel_rfl) (fun _ _ _ h => h) rfl (Or.inl ⟨by rfl, ?_⟩) (fun _ => hS) ?_
          rotate_left
          · intro w0; go_simp; with_reducible rfl
          (try simp only [Act.put, List.setIfInBounds_toArray, List.set_cons_zero, List.set_cons_succ])
          refine takeS (i := 4) (oi := _) (v := ?_) rfl (by kernel_rfl) (by kernel_rfl) (by kernel_rfl) (fun _ _ _ h => h) rfl (by kernel_rfl) (by kernel_rfl) (Or.inl ⟨by rfl, ?_⟩) hS ?_
          rotate_left
          · intro w0 hSw; (try dsimp only at hSw); go_simp; with_reducible rfl
          (try simp only [Act.put, List.setIfInBounds_toArray, List.set_cons_zero, List.set_cons_succ])
          refine takeS (i := 5) (oi := _) (v := ?_) rfl (by kernel_rfl) (by kernel_rfl) (by kernel_rfl) (fun _ _ _ h => h) rfl (by kernel_rfl) (by kernel_rfl) (Or.inl ⟨by rfl, ?_⟩) hS ?_
          rotate_left
          · intro w0 hSw; (try dsimp only at hSw); go_simp; with_reducible rfl
          (try simp only [Act.put, List.setIfInBounds_toArray, List.set_cons_zero, List.set_cons_succ])
          refine oneT (i := 6) (by kernel_rfl) rfl (by rfl) (fun Kq hK => ?_)
          go_simp
          obtain ⟨wy, hwy⟩ : ∃ z : World, z = wx.alloc (.cells #[.int .i64 num, .int .i64 mw, .int .i64 (l.natAbs : Int)] 75) := ⟨_, rfl⟩
          have hby : Below wx.heap.size wx wy := by rw [hwy]; exact below_new _ _
          have KN : Hid (Blk wy wx.heap.size 75 #[.int .i64 num, .int .i64 mw, .int .i64 (l.natAbs : Int)]) := by rw [hwy]; exact Blk.new _ _ _
          have HTy := Lib.hid (HTx.out.keep hby)
          have HRy := Lib.hid (HRx.out.keep hby)
          have HPy := Lib.hid (HPx.out.keep hby)
          have KY := Lib.hid (KX.out.keep hby)
          have hSy : wy.cell? ⟨gx, 3, none⟩ = some (.slice Oz noz coz) ∧ wy.cell? ⟨b9, 0, none⟩ = some (.int .i64 num) ∧ wy.cell? ⟨b9, 1, none⟩ = some (.int .i64 mw) ∧ wy.cell? ⟨b9, 2, none⟩ = some (.int .i64 (l.natAbs : Int)) := ⟨by have := HTy.out.tb.cell 3; simpa using this, by have := KY.out.cell 0; simpa using this, by have := KY.out.cell 1; simpa using this, by have := KY.out.cell 2; simpa using this⟩
          rw [← hwy]
          clear hwy hby HTx HRx HPx KX
          refine hK _ _ (fun _ => hSy) ?_
          clear hK
          (try simp only [Act.put, List.setIfInBounds_toArray, List.set_cons_zero, List.set_cons_succ])
          refine oneT (i := 7) (by kernel_rfl) rfl (by rfl) (fun Kq hK => ?_)
          have hz9 := HTy.out.bl.size
          refine wp_append_res _ (.tmp 95) (.tmp 97) 69 rfl w.heap.size ires _ Try.underlying69 hires hs0 hs1 hs2 rfl Oz noz coz oz rfl HTy.out.oo wx.heap.size (num, mw, (l.natAbs : Int)) rfl (fun j u hu => by
            have := KN.out.cell j
            rw [this]
            have hj : j < 3 := by have := (List.getElem?_eq_some_iff.1 hu).1; simpa [cells3] using this
            match j, hj, hu with
            | 0, _, hu => simpa [cells3] using hu
            | 1, _, hu => simpa [cells3] using hu
            | 2, _, hu => simpa [cells3] using hu) ⟨by have := HMW.out; have := hI.out; unfold I64; simp only; omega, by have := HMW.out; have := hI.out; unfold I64; simp only; omega, by unfold I64; simp only; omega⟩ (by simp only [maxLen]; omega) (by omega) hz9 ?_
          intro O2 co2 wz hO2 hG2
          have HTz := Lib.hid (HTy.out.growO hO2 hG2)
          have HRz := Lib.hid (HRy.out.kept hG2 (fun q hq => (HTy.out.oo.base hq).2) (by decide) (by decide))
          have HPz := Lib.hid (HPy.out.keptT hG2 (fun q hq => (HTy.out.oo.base hq).2) (by decide))
          have KZ : Hid (Blk wz b9 75 #[.int .i64 num, .int .i64 mw, .int .i64 (l.natAbs : Int)]) := KY.out.grown hG2 (fun e => by have := hOb.out b9 e.symm; omega)
          have hSz : wz.cell? ⟨gx, 3, none⟩ = some (.slice Oz noz coz) ∧ wz.cell? ⟨b9, 0, none⟩ = some (.int .i64 num) ∧ wz.cell? ⟨b9, 1, none⟩ = some (.int .i64 mw) ∧ wz.cell? ⟨b9, 2, none⟩ = some (.int .i64 (l.natAbs : Int)) := ⟨by have := HTz.out.tb.cell 3; simpa using this, by have := KZ.out.cell 0; simpa using this, by have := KZ.out.cell 1; simpa using this, by have := KZ.out.cell 2; simpa using this⟩
          clear hO2 hG2 HTy HRy HPy KY KN hSy hS
          refine hK _ _ (fun _ => hSz) ?_
          clear hK
          (try simp only [Act.put, List.setIfInBounds_toArray, List.set_cons_zero, List.set_cons_succ])
          (try simp only [Nat.zero_add])
          refine take0 (i := 8) (oi := _) (v := ?_) rfl (by kernel_rfl) (by kernel_rfl) (by kernel_rfl) (fun _ _ _ h => h) rfl (Or.inl ⟨by rfl, ?_⟩) (fun _ => hSz) ?_
          rotate_left
          · intro w0; go_simp; with_reducible rfl
          (try simp only [Act.put, List.setIfInBounds_toArray, List.set_cons_zero, List.set_cons_succ])
          refine take0 (i := 9) (oi := _) (v := ?_) rfl (by kernel_rfl) (by kernel_rfl) (by kernel_rfl) (fun _ _ _ h => h) rfl (Or.inl ⟨by rfl, ?_⟩) (fun _ => hSz) ?_
          rotate_left
          · intro w0; go_simp; with_reducible rfl
          (try simp only [Act.put, List.setIfInBounds_toArray, List.set_cons_zero, List.set_cons_succ])
          refine oneT (i := 10) (by kernel_rfl) rfl (by rfl) (fun Kq hK => ?_)
          have kf3 := HTz.out.tb.frozen 3
          have zgz := HTz.out.tb.lt
          have kc3 := hSz.1
          go_simp
          obtain ⟨wh, hwh⟩ : ∃ z : World, z = wz.setCell ⟨gx, 3, none⟩ (.slice O2 (noz + 1) co2) := ⟨_, rfl⟩
          have HTh : Hid (TrG w wh gx #[.slice (some ⟨kb, 0, none⟩) nk ck, .slice (some ⟨nb, 0, none⟩) nk cn, .int .i64 nz, .slice O2 (noz + 1) co2] (some ⟨kb, 0, none⟩) nk ck (some ⟨nb, 0, none⟩) nk cn O2 (noz + 1) co2 known nums (oz ++ [(num, mw, (l.natAbs : Int))])) := by
            rw [hwh]
            have := HTz.out.put 3 (.slice O2 (noz + 1) co2)
            simpa [Hid] using this
          have HRh : Hid (Tri wh w1.heap.size g (some ⟨kb, 0, none⟩) nk ck (some ⟨bL, 0, none⟩) cl (some ⟨bY, 0, none⟩) cy gm t y) := by
            rw [hwh]
            exact HRz.out.put HTz.out.tb (by decide) (by decide) 3 (.slice O2 (noz + 1) co2)
          have HPh : Hid (Own 3 wh w1.heap.size P np cp (now.map (Value.int .i64))) := by
            rw [hwh]
            exact HPz.out.putT HTz.out.tb (by decide) 3 (.slice O2 (noz + 1) co2)
          rw [← hwh]
          refine hK _ _ (noT_no (by kernel_rfl)) ?_
          clear hK
          refine doneT (by kernel_rfl) ?_ _
          clear kf3 zgz kc3 hwh HTz HRz HPz KZ hSz hires hs0 hs1 hs2 hOb zgx zb9
          have hst3 : Hid (trF known nums t y j (rvF xw now (l.natAbs : Int)) nz (nz + 1) (oz ++ [(num, mw, (l.natAbs : Int))]) = (q1, q2, nx', out')) := by have := hst2.out; rw [hrs.out] at this; exact this
          clear hst2 hrs
          go_wp2_with fail
          obtain ⟨wi, hwd⟩ : ∃ z : World, z = wh.drew := ⟨_, rfl⟩
          have hbd : Below wh.heap.size wh wi := by rw [hwd]; exact below_drewN _ 1
          have HTi := Lib.hid (HTh.out.keep hbd)
          have HRi := Lib.hid (HRh.out.keep hbd)
          have HPi := Lib.hid (HPh.out.keep hbd)
          clear hbd HTh HRh HPh
          obtain ⟨_, Xv, nv, cv, xv, hKe, _, _, hcv, _, hIv, _, hxv⟩ := HTi.out.ko.p.round hyN
          cases hKe
          have hxe : xv = xw := by have h1 := hxv.out; have h2 := HXK.out; rw [h1] at h2; injection h2
          rw [hxe] at hIv
          have HIV := Lib.hid hIv
          clear hxe
          have hS : wi.cell? ⟨gx, 0, none⟩ = some (.slice (some ⟨kb, 0, none⟩) nk ck) ∧ wi.cell? ⟨kb, yN, none⟩ = some (.slice Xv nv cv) := ⟨by have := HTi.out.tb.cell 0; simpa using this, hcv⟩
          have zgx := HTi.out.tb.lt
          have HIP := Lib.hid (HPi.out.ints (fun z hz => by have := hI.out.1.1 z hz; unfold I64; omega))
          have hnv : nv ≤ 1000 := by have := HXW.out.len_le v0; rw [hIv.len] at this; omega
          obtain ⟨RR, hRR⟩ : ∃ z, Hid (rsP (l.natAbs : Int) (xw ++ now) [] = z) := ⟨_, rfl⟩
          have hrv : Hid (rvF xw now (l.natAbs : Int) = sortF (RR.getD [])) := by
            show _ = _
            unfold rvF
            rw [hRR.out]
            cases RR <;> rfl
          have HVL : Hid (Lits vars (rvF xw now (l.natAbs : Int))) := rvF_lits HXW.out hI.out.1
          clear hIv hxv
          refine wp_region_tail (fun w' => w'.cell? ⟨gx, 0, none⟩ = some (.slice (some ⟨kb, 0, none⟩) nk ck) ∧ w'.cell? ⟨kb, yN, none⟩ = some (.slice Xv nv cv)) [] (by kernel_rfl) ?_
          change wpAnyT _ _ _ _ _ _ _ _ _ wh.drew
          rw [← hwd]
          clear hwd
          refine take0 (i := 0) (oi := _) (v := ?_) rfl (by kernel_rfl) (by kernel_rfl) (by kernel_rfl) (fun _ _ _ h => h) rfl (Or.inl ⟨by rfl, ?_⟩) (fun _ => hS) ?_
          rotate_left
          · intro w0; go_simp; with_reducible rfl
          (try simp only [Act.put, List.setIfInBounds_toArray, List.set_cons_zero, List.set_cons_succ])
          refine take0 (i := 1) (oi := _) (v := ?_) rfl (by kernel_rfl) (by kernel_rfl) (by kernel_rfl) (fun _ _ _ h => h) rfl (Or.inl ⟨by rfl, ?_⟩) (fun _ => hS) ?_
          rotate_left
          · intro w0; go_simp; with_reducible rfl
          (try simp only [Act.put, List.setIfInBounds_toArray, List.set_cons_zero, List.set_cons_succ])
          refine take0 (i := 2) (oi := _) (v := ?_) rfl (by kernel_rfl) (by kernel_rfl) (by kernel_rfl) (fun _ _ _ h => h) rfl (Or.inl ⟨by rfl, ?_⟩) (fun _ => hS) ?_
          rotate_left
          · intro w0; go_simp; with_reducible rfl
          (try simp only [Act.put, List.setIfInBounds_toArray, List.set_cons_zero, List.set_cons_succ])
          refine takeS (i := 3) (oi := _) (v := ?_) rfl (by kernel_rfl) (by kernel_rfl) (by kernel_rfl) (fun _ _ _ h => h) rfl (by kernel_rfl) (by kernel_rfl) (Or.inl ⟨by rfl, ?_⟩) hS ?_
          rotate_left
          · intro w0 hSw; (try dsimp only at hSw); go_simp; with_reducible rfl
          (try simp only [Act.put, List.setIfInBounds_toArray, List.set_cons_zero, List.set_cons_succ])
          refine take0 (i := 4) (oi := _) (v := ?_) rfl (by kernel_rfl) (by kernel_rfl) (by kernel_rfl) (fun _ _ _ h => h) rfl (Or.inl ⟨by rfl, ?_⟩) (fun _ => hS) ?_
          rotate_left
          · intro w0; go_simp; with_reducible rfl
          (try simp only [Act.put, List.setIfInBounds_toArray, List.set_cons_zero, List.set_cons_succ])
          refine take0 (i := 5) (oi := _) (v := ?_) rfl (by kernel_rfl) (by kernel_rfl) (by kernel_rfl) (fun _ _ _ h => h) rfl (Or.inl ⟨by rfl, ?_⟩) (fun _ => hS) ?_
          rotate_left
          · intro w0; go_simp; with_reducible rfl
          (try simp only [Act.put, List.setIfInBounds_toArray, List.set_cons_zero, List.set_cons_succ])
          refine takeS (i := 6) (oi := _) (v := ?_) rfl (by kernel_rfl) (by kernel_rfl) (by kernel_rfl) (fun _ _ _ h => h) rfl (by kernel_rfl) (by kernel_rfl) (Or.inl ⟨by rfl, ?_⟩) hS ?_
          rotate_left
          · intro w0 hSw; (try dsimp only at hSw); go_simp; with_reducible rfl
          (try simp only [Act.put, List.setIfInBounds_toArray, List.set_cons_zero, List.set_cons_succ])
          refine take0 (i := 7) (oi := _) (v := ?_) rfl (by kernel_rfl) (by kernel_rfl) (by kernel_rfl) (fun _ _ _ h => h) rfl (Or.inl ⟨by rfl, ?_⟩) (fun _ => hS) ?_
          rotate_left
          · intro w0; go_simp; with_reducible rfl
          (try simp only [Act.put, List.setIfInBounds_toArray, List.set_cons_zero, List.set_cons_succ])
          refine take0 (i := 8) (oi := _) (v := ?_) rfl (by kernel_rfl) (by kernel_rfl) (by kernel_rfl) (fun _ _ _ h => h) rfl (Or.inl ⟨by rfl, ?_⟩) (fun _ => hS) ?_
          rotate_left
          · intro w0; go_simp; with_reducible rfl
          (try simp only [Act.put, List.setIfInBounds_toArray, List.set_cons_zero, List.set_cons_succ])
          refine oneT (i := 9) (by kernel_rfl) rfl (by rfl) (fun Kq hK => ?_)
          go_simp
          refine (var_same l _ (by omega) (by omega)).mono ?_
          rintro e wv ⟨rfl, hwv⟩
          rw [hwv]
          clear hwv wv
          refine hK _ _ (fun _ => hS) ?_
          clear hK
          (try simp only [Act.put, List.setIfInBounds_toArray, List.set_cons_zero, List.set_cons_succ])
          refine oneT (i := 10) (by kernel_rfl) rfl (by rfl) (fun Kq hK => ?_)
          go_simp
          refine (resolve_any Xv P nv cv np cp xw now (l.natAbs : Int) wi HIV.out HIP.out (fun z hz => by have := HXW.out.1 z hz; omega) (fun z hz => by have := hI.out.1.1 z hz; omega) (by omega) RR hRR).mono ?_
          rintro e wj ⟨P2, np2, cp2, rfl, hP2, hbj⟩
          have HTj := Lib.hid (HTi.out.keep hbj)
          have HRj := Lib.hid (HRi.out.keep hbj)
          have HPj : Hid (Own 3 wj w1.heap.size P2 np2 cp2 ((rvF xw now (l.natAbs : Int)).map (Value.int .i64))) := by
            rw [hrv.out]
            exact hP2.mono HRi.out.sz
          have hSj : wj.cell? ⟨gx, 0, none⟩ = some (.slice (some ⟨kb, 0, none⟩) nk ck) ∧ wj.cell? ⟨kb, yN, none⟩ = some (.slice Xv nv cv) := ⟨keepBox hbj hS.1, keepBox hbj hS.2⟩
          clear hP2 hbj HTi HRi HPi HIV HIP hS hRR hrv hcv
          refine hK _ _ (fun _ => hSj) ?_
          clear hK
          (try simp only [Act.put, List.setIfInBounds_toArray, List.set_cons_zero, List.set_cons_succ])
          refine take0 (i := 11) (oi := _) (v := ?_) rfl (by kernel_rfl) (by kernel_rfl) (by kernel_rfl) (fun _ _ _ h => h) rfl (Or.inl ⟨by rfl, ?_⟩) (fun _ => hSj) ?_
          rotate_left
          · intro w0; go_simp; with_reducible rfl
          (try simp only [Act.put, List.setIfInBounds_toArray, List.set_cons_zero, List.set_cons_succ])
          refine take0 (i := 12) (oi := _) (v := ?_) rfl (by kernel_rfl) (by kernel_rfl) (by kernel_rfl) (fun _ _ _ h => h) rfl (Or.inl ⟨by rfl, ?_⟩) (fun _ => hSj) ?_
          rotate_left
          · intro w0; go_simp; with_reducible rfl
          (try simp only [Act.put, List.setIfInBounds_toArray, List.set_cons_zero, List.set_cons_succ])
          refine take0 (i := 13) (oi := _) (v := ?_) rfl (by kernel_rfl) (by kernel_rfl) (by kernel_rfl) (fun _ _ _ h => h) rfl (Or.inl ⟨by rfl, ?_⟩) (fun _ => hSj) ?_
          rotate_left
          · intro w0; go_simp; with_reducible rfl
          (try simp only [Act.put, List.setIfInBounds_toArray, List.set_cons_zero, List.set_cons_succ])
          refine take0 (i := 14) (oi := _) (v := ?_) rfl (by kernel_rfl) (by kernel_rfl) (by kernel_rfl) (fun _ _ _ h => h) rfl (Or.inl ⟨by rfl, ?_⟩) (fun _ => hSj) ?_
          rotate_left
          · intro w0; go_simp; with_reducible rfl
          (try simp only [Act.put, List.setIfInBounds_toArray, List.set_cons_zero, List.set_cons_succ])
          refine doneT (by kernel_rfl) ?_ _
          clear hSj
          have kc2 := HTj.out.tb.cell 2
          simp at kc2
          have kf2 := HTj.out.tb.frozen 2
          have klt := HTj.out.tb.lt
          have HTk : Hid (TrG w (wj.setCell ⟨gx, 2, none⟩ (.int .i64 (nz + 1))) gx #[.slice (some ⟨kb, 0, none⟩) nk ck, .slice (some ⟨nb, 0, none⟩) nk cn, .int .i64 (nz + 1), .slice O2 (noz + 1) co2] (some ⟨kb, 0, none⟩) nk ck (some ⟨nb, 0, none⟩) nk cn O2 (noz + 1) co2 known nums (oz ++ [(num, mw, (l.natAbs : Int))])) := by
            have := HTj.out.put 2 (.int .i64 (nz + 1))
            simpa [Hid] using this
          have HRk : Hid (Tri (wj.setCell ⟨gx, 2, none⟩ (.int .i64 (nz + 1))) w1.heap.size g (some ⟨kb, 0, none⟩) nk ck (some ⟨bL, 0, none⟩) cl (some ⟨bY, 0, none⟩) cy gm t y) := HRj.out.put HTj.out.tb (by decide) (by decide) 2 (.int .i64 (nz + 1))
          have HPk : Hid (Own 3 (wj.setCell ⟨gx, 2, none⟩ (.int .i64 (nz + 1))) w1.heap.size P2 np2 cp2 ((rvF xw now (l.natAbs : Int)).map (Value.int .i64))) := HPj.out.putT HTj.out.tb (by decide) 2 (.int .i64 (nz + 1))
          have hnz : nz ≤ 1002000 := by have := hI.out; omega
          have hnz0 : 0 ≤ nz := hI.out.2.2.2.1
          go_wp2_with fail
          go_roundw
          case rel => exact ⟨j, P2, np2, cp2, rvF xw now (l.natAbs : Int), nz, nz + 1, O2, noz + 1, co2, oz ++ [(num, mw, (l.natAbs : Int))], by omega, by omega, rfl, rfl, by go_num, HTk, HRk, HPk, ⟨HVL.out, by omega, by omega, by omega, by have := hI.out; omega⟩, hst3⟩
          case measure => simp [intOf] <;> omega
        · have dl : decide (l < 0) = false := decide_eq_false hl0
          go_wp2_with fail
          obtain ⟨wg, hwg⟩ : ∃ z : World, z = wf := ⟨_, rfl⟩
          subst hwg
          have KG := KF
          have HTg := HTf
          have HRg := HRf
          have HPg := HPf
          have hrs : Hid (rsT l num mw = (mw, num, (l.natAbs : Int))) := by show _ = _; unfold rsT; rw [if_neg (by omega)]
          clear kc0 kc1 kc2 kf0 kf1 klt KF HTf HRf HPf
          obtain ⟨wx, hwd⟩ : ∃ z : World, z = wg.drew := ⟨_, rfl⟩
          have hbd : Below wg.heap.size wg wx := by rw [hwd]; exact below_drewN _ 1
          have HTx := Lib.hid (HTg.out.keep hbd)
          have HRx := Lib.hid (HRg.out.keep hbd)
          have HPx := Lib.hid (HPg.out.keep hbd)
          have KX := Lib.hid (KG.out.keep hbd)
          clear hbd HTg HRg HPg KG
          have hS : wx.cell? ⟨gx, 3, none⟩ = some (.slice Oz noz coz) ∧ wx.cell? ⟨b9, 0, none⟩ = some (.int .i64 mw) ∧ wx.cell? ⟨b9, 1, none⟩ = some (.int .i64 num) ∧ wx.cell? ⟨b9, 2, none⟩ = some (.int .i64 (l.natAbs : Int)) := ⟨by have := HTx.out.tb.cell 3; simpa using this, by have := KX.out.cell 0; simpa using this, by have := KX.out.cell 1; simpa using this, by have := KX.out.cell 2; simpa using this⟩
          have zgx := HTx.out.tb.lt
          have zb9 := KX.out.lt
          obtain ⟨ires, hires, hs0, hs1, hs2⟩ := info_parts res_info
          refine wp_region_tail (fun w' => w'.cell? ⟨gx, 3, none⟩ = some (.slice Oz noz coz) ∧ w'.cell? ⟨b9, 0, none⟩ = some (.int .i64 mw) ∧ w'.cell? ⟨b9, 1, none⟩ = some (.int .i64 num) ∧ w'.cell? ⟨b9, 2, none⟩ = some (.int .i64 (l.natAbs : Int))) [10] (by kernel_rfl) ?_
          change wpAnyT _ _ _ _ _ _ _ _ _ wg.drew
          rw [← hwd]
          clear hwd
          refine take0 (i := 0) (oi := _) (v := ?_) rfl (by kernel_rfl) (by kernel_rfl) (by kernel_rfl) (fun _ _ _ h => h) rfl (Or.inl ⟨by rfl, ?_⟩) (fun _ => hS) ?_
          rotate_left
          · intro w0; go_simp; with_reducible rfl
          (try simp only [Act.put, List.setIfInBounds_toArray, List.set_cons_zero, List.set_cons_succ])
          refine take0 (i := 1) (oi := _) (v := ?_) rfl (by kernel_rfl) (by kernel_rfl) (by kernel_rfl) (fun _ _ _ h => h) rfl (Or.inl ⟨by rfl, ?_⟩) (fun _ => hS) ?_
          rotate_left
          · intro w0; go_simp; with_reducible rfl
          (try simp only [Act.put, List.setIfInBounds_toArray, List.set_cons_zero, List.set_cons_succ])
          refine take0 (i := 2) (oi := _) (v := ?_) rfl (by kernel_rfl) (by kernel_rfl) (by kernel_rfl) (fun _ _ _ h => h) rfl (Or.inl ⟨by rfl, ?_⟩) (fun _ => hS) ?_
          rotate_left
          · intro w0; go_simp; with_reducible rfl
          (try simp only [Act.put, List.setIfInBounds_toArray, List.set_cons_zero, List.set_cons_succ])
          refine take0 (i := 3) (oi := _) (v := ?_) rfl (by kernel_rfl) (by kernel_rfl) (by kernel_rfl) (fun _ _ _ h => h) rfl (Or.inl ⟨by rfl, ?_⟩) (fun _ => hS) ?_
          rotate_left
          · intro w0; go_simp; with_reducible rfl
          (try simp only [Act.put, List.setIfInBounds_toArray, List.set_cons_zero, List.set_cons_succ])
          refine takeS (i := 4) (oi := _) (v := ?_) rfl (by kernel_rfl) (by kernel_rfl) (by kernel_rfl) (fun _ _ _ h => h) rfl (by kernel_rfl) (by kernel_rfl) (Or.inl ⟨by rfl, ?_⟩) hS ?_
          rotate_left
          · intro w0 hSw; (try dsimp only at hSw); go_simp; with_reducible rfl
          (try simp only [Act.put, List.setIfInBounds_toArray, List.set_cons_zero, List.set_cons_succ])
          refine takeS (i := 5) (oi := _) (v := ?_) rfl (by kernel_rfl) (by kernel_rfl) (by kernel_rfl) (fun _ _ _ h => h) rfl (by kernel_rfl) (by kernel_rfl) (Or.inl ⟨by rfl, ?_⟩) hS ?_
          rotate_left
          · intro w0 hSw; (try dsimp only at hSw); go_simp; with_reducible rfl
          (try simp only [Act.put, List.setIfInBounds_toArray, List.set_cons_zero, List.set_cons_succ])
          refine oneT (i := 6) (by kernel_rfl) rfl (by rfl) (fun Kq hK => ?_)
          go_simp
          obtain ⟨wy, hwy⟩ : ∃ z : World, z = wx.alloc (.cells #[.int .i64 mw, .int .i64 num, .int .i64 (l.natAbs : Int)] 75) := ⟨_, rfl⟩
          have hby : Below wx.heap.size wx wy := by rw [hwy]; exact below_new _ _
          have KN : Hid (Blk wy wx.heap.size 75 #[.int .i64 mw, .int .i64 num, .int .i64 (l.natAbs : Int)]) := by rw [hwy]; exact Blk.new _ _ _
          have HTy := Lib.hid (HTx.out.keep hby)
          have HRy := Lib.hid (HRx.out.keep hby)
          have HPy := Lib.hid (HPx.out.keep hby)
          have KY := Lib.hid (KX.out.keep hby)
          have hSy : wy.cell? ⟨gx, 3, none⟩ = some (.slice Oz noz coz) ∧ wy.cell? ⟨b9, 0, none⟩ = some (.int .i64 mw) ∧ wy.cell? ⟨b9, 1, none⟩ = some (.int .i64 num) ∧ wy.cell? ⟨b9, 2, none⟩ = some (.int .i64 (l.natAbs : Int)) := ⟨by have := HTy.out.tb.cell 3; simpa using this, by have := KY.out.cell 0; simpa using this, by have := KY.out.cell 1; simpa using this, by have := KY.out.cell 2; simpa using this⟩
          rw [← hwy]
          clear hwy hby HTx HRx HPx KX
          refine hK _ _ (fun _ => hSy) ?_
          clear hK
          (try simp only [Act.put, List.setIfInBounds_toArray, List.set_cons_zero, List.set_cons_succ])
          refine oneT (i := 7) (by kernel_rfl) rfl (by rfl) (fun Kq hK => ?_)
          have hz9 := HTy.out.bl.size
          refine wp_append_res _ (.tmp 95) (.tmp 97) 69 rfl w.heap.size ires _ Try.underlying69 hires hs0 hs1 hs2 rfl Oz noz coz oz rfl HTy.out.oo wx.heap.size (mw, num, (l.natAbs : Int)) rfl (fun j u hu => by
            have := KN.out.cell j
            rw [this]
            have hj : j < 3 := by have := (List.getElem?_eq_some_iff.1 hu).1; simpa [cells3] using this
            match j, hj, hu with
            | 0, _, hu => simpa [cells3] using hu
            | 1, _, hu => simpa [cells3] using hu
            | 2, _, hu => simpa [cells3] using hu) ⟨by have := HMW.out; have := hI.out; unfold I64; simp only; omega, by have := HMW.out; have := hI.out; unfold I64; simp only; omega, by unfold I64; simp only; omega⟩ (by simp only [maxLen]; omega) (by omega) hz9 ?_
          intro O2 co2 wz hO2 hG2
          have HTz := Lib.hid (HTy.out.growO hO2 hG2)
          have HRz := Lib.hid (HRy.out.kept hG2 (fun q hq => (HTy.out.oo.base hq).2) (by decide) (by decide))
          have HPz := Lib.hid (HPy.out.keptT hG2 (fun q hq => (HTy.out.oo.base hq).2) (by decide))
          have KZ : Hid (Blk wz b9 75 #[.int .i64 mw, .int .i64 num, .int .i64 (l.natAbs : Int)]) := KY.out.grown hG2 (fun e => by have := hOb.out b9 e.symm; omega)
          have hSz : wz.cell? ⟨gx, 3, none⟩ = some (.slice Oz noz coz) ∧ wz.cell? ⟨b9, 0, none⟩ = some (.int .i64 mw) ∧ wz.cell? ⟨b9, 1, none⟩ = some (.int .i64 num) ∧ wz.cell? ⟨b9, 2, none⟩ = some (.int .i64 (l.natAbs : Int)) := ⟨by have := HTz.out.tb.cell 3; simpa using this, by have := KZ.out.cell 0; simpa using this, by have := KZ.out.cell 1; simpa using this, by have := KZ.out.cell 2; simpa using this⟩
          clear hO2 hG2 HTy HRy HPy KY KN hSy hS
          refine hK _ _ (fun _ => hSz) ?_
          clear hK
          (try simp only [Act.put, List.setIfInBounds_toArray, List.set_cons_zero, List.set_cons_succ])
          (try simp only [Nat.zero_add])
          refine take0 (i := 8) (oi := _) (v := ?_) rfl (by kernel_rfl) (by kernel_rfl) (by kernel_rfl) (fun _ _ _ h => h) rfl (Or.inl ⟨by rfl, ?_⟩) (fun _ => hSz) ?_
          rotate_left
          · intro w0; go_simp; with_reducible rfl
          (try simp only [Act.put, List.setIfInBounds_toArray, List.set_cons_zero, List.set_cons_succ])
          refine take0 (i := 9) (oi := _) (v := ?_) rfl (by kernel_rfl) (by kernel_rfl) (by kernel_rfl) (fun _ _ _ h => h) rfl (Or.inl ⟨by rfl, ?_⟩) (fun _ => hSz) ?_
          rotate_left
          · intro w0; go_simp; with_reducible rfl
          (try simp only [Act.put, List.setIfInBounds_toArray, List.set_cons_zero, List.set_cons_succ])
          refine oneT (i := 10) (by kernel_rfl) rfl (by rfl) (fun Kq hK => ?_)
          have kf3 := HTz.out.tb.frozen 3
          have zgz := HTz.out.tb.lt
          have kc3 := hSz.1
          go_simp
          obtain ⟨wh, hwh⟩ : ∃ z : World, z = wz.setCell ⟨gx, 3, none⟩ (.slice O2 (noz + 1) co2) := ⟨_, rfl⟩
          have HTh : Hid (TrG w wh gx #[.slice (some ⟨kb, 0, none⟩) nk ck, .slice (some ⟨nb, 0, none⟩) nk cn, .int .i64 nz, .slice O2 (noz + 1) co2] (some ⟨kb, 0, none⟩) nk ck (some ⟨nb, 0, none⟩) nk cn O2 (noz + 1) co2 known nums (oz ++ [(mw, num, (l.natAbs : Int))])) := by
            rw [hwh]
            have := HTz.out.put 3 (.slice O2 (noz + 1) co2)
            simpa [Hid] using this
          have HRh : Hid (Tri wh w1.heap.size g (some ⟨kb, 0, none⟩) nk ck (some ⟨bL, 0, none⟩) cl (some ⟨bY, 0, none⟩) cy gm t y) := by
            rw [hwh]
            exact HRz.out.put HTz.out.tb (by decide) (by decide) 3 (.slice O2 (noz + 1) co2)
          have HPh : Hid (Own 3 wh w1.heap.size P np cp (now.map (Value.int .i64))) := by
            rw [hwh]
            exact HPz.out.putT HTz.out.tb (by decide) 3 (.slice O2 (noz + 1) co2)
          rw [← hwh]
          refine hK _ _ (noT_no (by kernel_rfl)) ?_
          clear hK
          refine doneT (by kernel_rfl) ?_ _
          clear kf3 zgz kc3 hwh HTz HRz HPz KZ hSz hires hs0 hs1 hs2 hOb zgx zb9
          have hst3 : Hid (trF known nums t y j (rvF xw now (l.natAbs : Int)) nz (nz + 1) (oz ++ [(mw, num, (l.natAbs : Int))]) = (q1, q2, nx', out')) := by have := hst2.out; rw [hrs.out] at this; exact this
          clear hst2 hrs
          go_wp2_with fail
          obtain ⟨wi, hwd⟩ : ∃ z : World, z = wh.drew := ⟨_, rfl⟩
          have hbd : Below wh.heap.size wh wi := by rw [hwd]; exact below_drewN _ 1
          have HTi := Lib.hid (HTh.out.keep hbd)
          have HRi := Lib.hid (HRh.out.keep hbd)
          have HPi := Lib.hid (HPh.out.keep hbd)
          clear hbd HTh HRh HPh
          obtain ⟨_, Xv, nv, cv, xv, hKe, _, _, hcv, _, hIv, _, hxv⟩ := HTi.out.ko.p.round hyN
          cases hKe
          have hxe : xv = xw := by have h1 := hxv.out; have h2 := HXK.out; rw [h1] at h2; injection h2
          rw [hxe] at hIv
          have HIV := Lib.hid hIv
          clear hxe
          have hS : wi.cell? ⟨gx, 0, none⟩ = some (.slice (some ⟨kb, 0, none⟩) nk ck) ∧ wi.cell? ⟨kb, yN, none⟩ = some (.slice Xv nv cv) := ⟨by have := HTi.out.tb.cell 0; simpa using this, hcv⟩
          have zgx := HTi.out.tb.lt
          have HIP := Lib.hid (HPi.out.ints (fun z hz => by have := hI.out.1.1 z hz; unfold I64; omega))
          have hnv : nv ≤ 1000 := by have := HXW.out.len_le v0; rw [hIv.len] at this; omega
          obtain ⟨RR, hRR⟩ : ∃ z, Hid (rsP (l.natAbs : Int) (xw ++ now) [] = z) := ⟨_, rfl⟩
          have hrv : Hid (rvF xw now (l.natAbs : Int) = sortF (RR.getD [])) := by
            show _ = _
            unfold rvF
            rw [hRR.out]
            cases RR <;> rfl
          have HVL : Hid (Lits vars (rvF xw now (l.natAbs : Int))) := rvF_lits HXW.out hI.out.1
          clear hIv hxv
          refine wp_region_tail (fun w' => w'.cell? ⟨gx, 0, none⟩ = some (.slice (some ⟨kb, 0, none⟩) nk ck) ∧ w'.cell? ⟨kb, yN, none⟩ = some (.slice Xv nv cv)) [] (by kernel_rfl) ?_
          change wpAnyT _ _ _ _ _ _ _ _ _ wh.drew
          rw [← hwd]
          clear hwd
          refine take0 (i := 0) (oi := _) (v := ?_) rfl (by kernel_rfl) (by kernel_rfl) (by kernel_rfl) (fun _ _ _ h => h) rfl (Or.inl ⟨by rfl, ?_⟩) (fun _ => hS) ?_
          rotate_left
          · intro w0; go_simp; with_reducible rfl
          (try simp only [Act.put, List.setIfInBounds_toArray, List.set_cons_zero, List.set_cons_succ])
          refine take0 (i := 1) (oi := _) (v := ?_) rfl (by kernel_rfl) (by kernel_rfl) (by kernel_rfl) (fun _ _ _ h => h) rfl (Or.inl ⟨by rfl, ?_⟩) (fun _ => hS) ?_
          rotate_left
          · intro w0; go_simp; with_reducible rfl
          (try simp only [Act.put, List.setIfInBounds_toArray, List.set_cons_zero, List.set_cons_succ])
          refine take0 (i := 2) (oi := _) (v := ?_) rfl (by kernel_rfl) (by kernel_rfl) (by kernel_rfl) (fun _ _ _ h => h) rfl (Or.inl ⟨by rfl, ?_⟩) (fun _ => hS) ?_
          rotate_left
          · intro w0; go_simp; with_reducible rfl
          (try simp only [Act.put, List.setIfInBounds_toArray, List.set_cons_zero, List.set_cons_succ])
          refine takeS (i := 3) (oi := _) (v := ?_) rfl (by kernel_rfl) (by kernel_rfl) (by kernel_rfl) (fun _ _ _ h => h) rfl (by kernel_rfl) (by kernel_rfl) (Or.inl ⟨by rfl, ?_⟩) hS ?_
          rotate_left
          · intro w0 hSw; (try dsimp only at hSw); go_simp; with_reducible rfl
          (try simp only [Act.put, List.setIfInBounds_toArray, List.set_cons_zero, List.set_cons_succ])
          refine take0 (i := 4) (oi := _) (v := ?_) rfl (by kernel_rfl) (by kernel_rfl) (by kernel_rfl) (fun _ _ _ h => h) rfl (Or.inl ⟨by rfl, ?_⟩) (fun _ => hS) ?_
          rotate_left
          · intro w0; go_simp; with_reducible rfl
          (try simp only [Act.put, List.setIfInBounds_toArray, List.set_cons_zero, List.set_cons_succ])
          refine take0 (i := 5) (oi := _) (v := ?_) rfl (by kernel_rfl) (by kernel_rfl) (by kernel_rfl) (fun _ _ _ h => h) rfl (Or.inl ⟨by rfl, ?_⟩) (fun _ => hS) ?_
          rotate_left
          · intro w0; go_simp; with_reducible rfl
          (try simp only [Act.put, List.setIfInBounds_toArray, List.set_cons_zero, List.set_cons_succ])
          refine takeS (i := 6) (oi := _) (v := ?_) rfl (by kernel_rfl) (by kernel_rfl) (by kernel_rfl) (fun _ _ _ h => h) rfl (by kernel_rfl) (by kernel_rfl) (Or.inl ⟨by rfl, ?_⟩) hS ?_
          rotate_left
          · intro w0 hSw; (try dsimp only at hSw); go_simp; with_reducible rfl
          (try simp only [Act.put, List.setIfInBounds_toArray, List.set_cons_zero, List.set_cons_succ])
          refine take0 (i := 7) (oi := _) (v := ?_) rfl (by kernel_rfl) (by kernel_rfl) (by kernel_rfl) (fun _ _ _ h => h) rfl (Or.inl ⟨by rfl, ?_⟩) (fun _ => hS) ?_
          rotate_left
          · intro w0; go_simp; with_reducible rfl
          (try simp only [Act.put, List.setIfInBounds_toArray, List.set_cons_zero, List.set_cons_succ])
          refine take0 (i := 8) (oi := _) (v := ?_) rfl (by kernel_rfl) (by kernel_rfl) (by kernel_rfl) (fun _ _ _ h => h) rfl (Or.inl ⟨by rfl, ?_⟩) (fun _ => hS) ?_
          rotate_left
          · intro w0; go_simp; with_reducible rfl
          (try simp only [Act.put, List.setIfInBounds_toArray, List.set_cons_zero, List.set_cons_succ])
          refine oneT (i := 9) (by kernel_rfl) rfl (by rfl) (fun Kq hK => ?_)
          go_simp
          refine (var_same l _ (by omega) (by omega)).mono ?_
          rintro e wv ⟨rfl, hwv⟩
          rw [hwv]
          clear hwv wv
          refine hK _ _ (fun _ => hS) ?_
          clear hK
          (try simp only [Act.put, List.setIfInBounds_toArray, List.set_cons_zero, List.set_cons_succ])
          refine oneT (i := 10) (by kernel_rfl) rfl (by rfl) (fun Kq hK => ?_)
          go_simp
          refine (resolve_any Xv P nv cv np cp xw now (l.natAbs : Int) wi HIV.out HIP.out (fun z hz => by have := HXW.out.1 z hz; omega) (fun z hz => by have := hI.out.1.1 z hz; omega) (by omega) RR hRR).mono ?_
          rintro e wj ⟨P2, np2, cp2, rfl, hP2, hbj⟩
          have HTj := Lib.hid (HTi.out.keep hbj)
          have HRj := Lib.hid (HRi.out.keep hbj)
          have HPj : Hid (Own 3 wj w1.heap.size P2 np2 cp2 ((rvF xw now (l.natAbs : Int)).map (Value.int .i64))) := by
            rw [hrv.out]
            exact hP2.mono HRi.out.sz
          have hSj : wj.cell? ⟨gx, 0, none⟩ = some (.slice (some ⟨kb, 0, none⟩) nk ck) ∧ wj.cell? ⟨kb, yN, none⟩ = some (.slice Xv nv cv) := ⟨keepBox hbj hS.1, keepBox hbj hS.2⟩
          clear hP2 hbj HTi HRi HPi HIV HIP hS hRR hrv hcv
          refine hK _ _ (fun _ => hSj) ?_
          clear hK
          (try simp only [Act.put, List.setIfInBounds_toArray, List.set_cons_zero, List.set_cons_succ])
          refine take0 (i := 11) (oi := _) (v := ?_) rfl (by kernel_rfl) (by kernel_rfl) (by kernel_rfl) (fun _ _ _ h => h) rfl (Or.inl ⟨by rfl, ?_⟩) (fun _ => hSj) ?_
          rotate_left
          · intro w0; go_simp; with_reducible rfl
          (try simp only [Act.put, List.setIfInBounds_toArray, List.set_cons_zero, List.set_cons_succ])
          refine take0 (i := 12) (oi := _) (v := ?_) rfl (by kernel_rfl) (by kernel_rfl) (by kernel_rfl) (fun _ _ _ h => h) rfl (Or.inl ⟨by rfl, ?_⟩) (fun _ => hSj) ?_
          rotate_left
          · intro w0; go_simp; with_reducible rfl
          (try simp only [Act.put, List.setIfInBounds_toArray, List.set_cons_zero, List.set_cons_succ])
          refine take0 (i := 13) (oi := _) (v := ?_) rfl (by kernel_rfl) (by kernel_rfl) (by kernel_rfl) (fun _ _ _ h => h) rfl (Or.inl ⟨by rfl, ?_⟩) (fun _ => hSj) ?_
          rotate_left
          · intro w0; go_simp; with_reducible rfl
          (try simp only [Act.put, List.setIfInBounds_toArray, List.set_cons_zero, List.set_cons_succ])
          refine take0 (i := 14) (oi := _) (v := ?_) rfl (by kernel_rfl) (by kernel_rfl) (by kernel_rfl) (fun _ _ _ h => h) rfl (Or.inl ⟨by rfl, ?_⟩) (fun _ => hSj) ?_
          rotate_left
          · intro w0; go_simp; with_reducible rfl
          (try simp only [Act.put, List.setIfInBounds_toArray, List.set_cons_zero, List.set_cons_succ])
          refine doneT (by kernel_rfl) ?_ _
          clear hSj
          have kc2 := HTj.out.tb.cell 2
          simp at kc2
          have kf2 := HTj.out.tb.frozen 2
          have klt := HTj.out.tb.lt
          have HTk : Hid (TrG w (wj.setCell ⟨gx, 2, none⟩ (.int .i64 (nz + 1))) gx #[.slice (some ⟨kb, 0, none⟩) nk ck, .slice (some ⟨nb, 0, none⟩) nk cn, .int .i64 (nz + 1), .slice O2 (noz + 1) co2] (some ⟨kb, 0, none⟩) nk ck (some ⟨nb, 0, none⟩) nk cn O2 (noz + 1) co2 known nums (oz ++ [(mw, num, (l.natAbs : Int))])) := by
            have := HTj.out.put 2 (.int .i64 (nz + 1))
            simpa [Hid] using this
          have HRk : Hid (Tri (wj.setCell ⟨gx, 2, none⟩ (.int .i64 (nz + 1))) w1.heap.size g (some ⟨kb, 0, none⟩) nk ck (some ⟨bL, 0, none⟩) cl (some ⟨bY, 0, none⟩) cy gm t y) := HRj.out.put HTj.out.tb (by decide) (by decide) 2 (.int .i64 (nz + 1))
          have HPk : Hid (Own 3 (wj.setCell ⟨gx, 2, none⟩ (.int .i64 (nz + 1))) w1.heap.size P2 np2 cp2 ((rvF xw now (l.natAbs : Int)).map (Value.int .i64))) := HPj.out.putT HTj.out.tb (by decide) 2 (.int .i64 (nz + 1))
          have hnz : nz ≤ 1002000 := by have := hI.out; omega
          have hnz0 : 0 ≤ nz := hI.out.2.2.2.1
          go_wp2_with fail
          go_roundw
          case rel => exact ⟨j, P2, np2, cp2, rvF xw now (l.natAbs : Int), nz, nz + 1, O2, noz + 1, co2, oz ++ [(mw, num, (l.natAbs : Int))], by omega, by omega, rfl, rfl, by go_num, HTk, HRk, HPk, ⟨HVL.out, by omega, by omega, by omega, by have := hI.out; omega⟩, hst3⟩
          case measure => simp [intOf] <;> omega
      · go_simp
        obtain ⟨w9, hw9⟩ : ∃ z : World, z = wd8.alloc (.cells #[.int .i64 0, .int .i64 0, .int .i64 0] 75) := ⟨_, rfl⟩
        have hba : Below wd8.heap.size wd8 w9 := by rw [hw9]; exact below_new _ _
        have KB9 : Hid (Blk w9 wd8.heap.size 75 #[.int .i64 0, .int .i64 0, .int .i64 0]) := by rw [hw9]; exact Blk.new _ _ _
        have hS9 : w9.cell? ⟨gx, 1, none⟩ = some (.slice (some ⟨nb, 0, none⟩) nk cn) ∧ w9.cell? ⟨nb, yN, none⟩ = some (.int .i64 mw) := ⟨keepBox hba hS.1, keepBox hba hS.2⟩
        rw [← hw9]
        have HBA := Lib.hid hba
        clear hba hw9
        refine hK _ _ (fun _ => hS9) ?_
        clear hK
        (try simp only [Act.put, List.setIfInBounds_toArray, List.set_cons_zero, List.set_cons_succ])
        refine oneT (i := 9) (by kernel_rfl) rfl (by rfl) (fun Kq hK => ?_)
        go_simp
        refine (var_same l _ (by omega) (by omega)).mono ?_
        rintro e wv ⟨rfl, hwv⟩
        rw [hwv]
        clear hwv wv
        refine hK _ _ (fun _ => hS9) ?_
        clear hK
        (try simp only [Act.put, List.setIfInBounds_toArray, List.set_cons_zero, List.set_cons_succ])
        refine take0 (i := 10) (oi := _) (v := ?_) rfl (by kernel_rfl) (by kernel_rfl) (by kernel_rfl) (fun _ _ _ h => h) rfl (Or.inl ⟨by rfl, ?_⟩) (fun _ => hS9) ?_
        rotate_left
        · intro w0; go_simp; with_reducible rfl
        (try simp only [Act.put, List.setIfInBounds_toArray, List.set_cons_zero, List.set_cons_succ])
        refine oneT (i := 12) (by kernel_rfl) rfl (by rfl) (fun Kq hK => ?_)
        go_simp
        obtain ⟨b9, hb9⟩ : ∃ q, q = wd8.heap.size := ⟨_, rfl⟩
        have KT9 : Hid (Blk w9 b9 75 #[.int .i64 0, .int .i64 0, .int .i64 0]) := by rw [hb9]; exact KB9.out
        have LE9 : wd8.heap.size ≤ b9 := by rw [hb9]; exact Nat.le_refl _
        rw [← hb9]
        clear hb9 KB9
        have kc0 := KT9.out.cell 0
        have kc1 := KT9.out.cell 1
        have kc2 := KT9.out.cell 2
        simp at kc0 kc1 kc2
        have kf0 := KT9.out.frozen 0
        have kf1 := KT9.out.frozen 1
        have kf2 := KT9.out.frozen 2
        have klt := KT9.out.lt
        obtain ⟨wf, hwf⟩ : ∃ wf : World, wf = ((w9.setCell ⟨b9, 0, none⟩ (.int .i64 mw)).setCell ⟨b9, 1, none⟩ (.int .i64 num)).setCell ⟨b9, 2, none⟩ (.int .i64 (l.natAbs : Int)) := ⟨_, rfl⟩
        have KF : Hid (Blk wf b9 75 #[.int .i64 mw, .int .i64 num, .int .i64 (l.natAbs : Int)]) := by
          rw [hwf]
          have := ((KT9.out.set_ 0 (.int .i64 mw)).set_ 1 (.int .i64 num)).set_ 2 (.int .i64 (l.natAbs : Int))
          simpa [Hid] using this
        have HB8 : Hid (Below wd8.heap.size wd8 wf) := by
          rw [hwf]
          exact ((HBA.out.setCell (p := ⟨b9, 0, none⟩) LE9 _).setCell (p := ⟨b9, 1, none⟩) LE9 _).setCell (p := ⟨b9, 2, none⟩) LE9 _
        go_simp
        rw [← hwf]
        refine hK _ _ (noT_no (by kernel_rfl)) ?_
        clear hK
        refine doneT (by kernel_rfl) ?_ _
        have HTf := Lib.hid (HT8.out.keep HB8.out)
        have HRf := Lib.hid (HR8.out.keep HB8.out)
        have HPf := Lib.hid (HP8.out.keep HB8.out)
        have hlo9 : w.heap.size ≤ b9 := by have := HT8.out.bl.size; omega
        have hOb : Hid (∀ q, blockOf Oz = some q → q < b9) := fun q hq => by have := HT8.out.oo.lt hq; omega
        clear kc0 kc1 kc2 kf0 kf1 kf2 klt hwf KT9 HT8 HR8 HP8 HBA HB8 hS hS9 LE9 zgx
        have kc0 := KF.out.cell 0
        have kc1 := KF.out.cell 1
        have kc2 := KF.out.cell 2
        simp at kc0 kc1 kc2
        have kf0 := KF.out.frozen 0
        have kf1 := KF.out.frozen 1
        have klt := KF.out.lt
        by_cases hl0 : l < 0
        · have dl : decide (l < 0) = true := decide_eq_true hl0
          go_wp2_with fail
          obtain ⟨wg, hwg⟩ : ∃ z : World, z = (wf.setCell ⟨b9, 0, none⟩ (.int .i64 num)).setCell ⟨b9, 1, none⟩ (.int .i64 mw) := ⟨_, rfl⟩
          have KG : Hid (Blk wg b9 75 #[.int .i64 num, .int .i64 mw, .int .i64 (l.natAbs : Int)]) := by
            rw [hwg]
            have := (KF.out.set_ 0 (.int .i64 num)).set_ 1 (.int .i64 mw)
            simpa [Hid] using this
          have hobf : Hid (OwnR wf w.heap.size Oz noz coz oz) := HTf.out.oo
          have HTg : Hid (TrG w wg gx #[.slice (some ⟨kb, 0, none⟩) nk ck, .slice (some ⟨nb, 0, none⟩) nk cn, .int .i64 nz, .slice Oz noz coz] (some ⟨kb, 0, none⟩) nk ck (some ⟨nb, 0, none⟩) nk cn Oz noz coz known nums oz) := by
            rw [hwg]
            exact (HTf.out.farPut KF.out hlo9 hOb.out 0 (.int .i64 num)).farPut (KF.out.set_ 0 (.int .i64 num)) hlo9 hOb.out 1 (.int .i64 mw)
          have HRg : Hid (Tri wg w1.heap.size g (some ⟨kb, 0, none⟩) nk ck (some ⟨bL, 0, none⟩) cl (some ⟨bY, 0, none⟩) cy gm t y) := by
            rw [hwg]
            exact (HRf.out.put KF.out (by decide) (by decide) 0 (.int .i64 num)).put (KF.out.set_ 0 (.int .i64 num)) (by decide) (by decide) 1 (.int .i64 mw)
          have HPg : Hid (Own 3 wg w1.heap.size P np cp (now.map (Value.int .i64))) := by
            rw [hwg]
            exact (HPf.out.putT KF.out (by decide) 0 (.int .i64 num)).putT (KF.out.set_ 0 (.int .i64 num)) (by decide) 1 (.int .i64 mw)
          (try rw [← hwg])
          have hrs : Hid (rsT l num mw = (num, mw, (l.natAbs : Int))) := by show _ = _; unfold rsT; rw [if_pos (by omega)]
          clear hwg hobf kc0 kc1 kc2 kf0 kf1 klt KF HTf HRf HPf
          obtain ⟨wx, hwd⟩ : ∃ z : World, z = wg.drew := ⟨_, rfl⟩
          have hbd : Below wg.heap.size wg wx := by rw [hwd]; exact below_drewN _ 1
          have HTx := Lib.hid (HTg.out.keep hbd)
          have HRx := Lib.hid (HRg.out.keep hbd)
          have HPx := Lib.hid (HPg.out.keep hbd)
          have KX := Lib.hid (KG.out.keep hbd)
          clear hbd HTg HRg HPg KG
          have hS : wx.cell? ⟨gx, 3, none⟩ = some (.slice Oz noz coz) ∧ wx.cell? ⟨b9, 0, none⟩ = some (.int .i64 num) ∧ wx.cell? ⟨b9, 1, none⟩ = some (.int .i64 mw) ∧ wx.cell? ⟨b9, 2, none⟩ = some (.int .i64 (l.natAbs : Int)) := ⟨by have := HTx.out.tb.cell 3; simpa using this, by have := KX.out.cell 0; simpa using this, by have := KX.out.cell 1; simpa using this, by have := KX.out.cell 2; simpa using this⟩
          have zgx := HTx.out.tb.lt
          have zb9 := KX.out.lt
          obtain ⟨ires, hires, hs0, hs1, hs2⟩ := info_parts res_info
          refine wp_region_tail (fun w' => w'.cell? ⟨gx, 3, none⟩ = some (.slice Oz noz coz) ∧ w'.cell? ⟨b9, 0, none⟩ = some (.int .i64 num) ∧ w'.cell? ⟨b9, 1, none⟩ = some (.int .i64 mw) ∧ w'.cell? ⟨b9, 2, none⟩ = some (.int .i64 (l.natAbs : Int))) [10] (by kernel_rfl) ?_
          change wpAnyT _ _ _ _ _ _ _ _ _ wg.drew
          rw [← hwd]
          clear hwd
          refine take0 (i := 0) (oi := _) (v := ?_) rfl (by kernel_rfl) (by kernel_rfl) (by kernel_rfl) (fun _ _ _ h => h) rfl (Or.inl ⟨by rfl, ?_⟩) (fun _ => hS) ?_
          rotate_left
          · intro w0; go_simp; with_reducible rfl
          (try simp only [Act.put, List.setIfInBounds_toArray, List.set_cons_zero, List.set_cons_succ])
          refine take0 (i := 1) (oi := _) (v := ?_) rfl (by kernel_rfl) (by kernel_rfl) (by kernel_rfl) (fun _ _ _ h => h) rfl (Or.inl ⟨by rfl, ?_⟩) (fun _ => hS) ?_
          rotate_left
          · intro w0; go_simp; with_reducible rfl
          (try simp only [Act.put, List.setIfInBounds_toArray, List.set_cons_zero, List.set_cons_succ])
          refine take0 (i := 2) (oi := _) (v := ?_) rfl (by kernel_rfl) (by kernel_rfl) (by kernel_rfl) (fun _ _ _ h => h) rfl (Or.inl ⟨by rfl, ?_⟩) (fun _ => hS) ?_
          rotate_left
          · intro w0; go_simp; with_reducible rfl
          (try simp only [Act.put, List.setIfInBounds_toArray, List.set_cons_zero, List.set_cons_succ])
          refine take0 (i := 3) (oi := _) (v := ?_) rfl (by kernel_rfl) (by kernel_rfl) (by kernel_rfl) (fun _ _ _ h => h) rfl (Or.inl ⟨by rfl, ?_⟩) (fun _ => hS) ?_
          rotate_left
          · intro w0; go_simp; with_reducible rfl
          (try simp only [Act.put, List.setIfInBounds_toArray, List.set_cons_zero, List.set_cons_succ])
          refine takeS (i := 4) (oi := _) (v := ?_) rfl (by kernel_rfl) (by kernel_rfl) (by kernel_rfl) (fun _ _ _ h => h) rfl (by kernel_rfl) (by kernel_rfl) (Or.inl ⟨by rfl, ?_⟩) hS ?_
          rotate_left
          · intro w0 hSw; (try dsimp only at hSw); go_simp; with_reducible rfl
          (try simp only [Act.put, List.setIfInBounds_toArray, List.set_cons_zero, List.set_cons_succ])
          refine takeS (i := 5) (oi := _) (v := ?_) rfl (by kernel_rfl) (by kernel_rfl) (by kernel_rfl) (fun _ _ _ h => h) rfl (by kernel_rfl) (by kernel_rfl) (Or.inl ⟨by rfl, ?_⟩) hS ?_
          rotate_left
          · intro w0 hSw; (try dsimp only at hSw); go_simp; with_reducible rfl
          (try simp only [Act.put, List.setIfInBounds_toArray, List.set_cons_zero, List.set_cons_succ])
          refine oneT (i := 6) (by kernel_rfl) rfl (by rfl) (fun Kq hK => ?_)
          go_simp
          obtain ⟨wy, hwy⟩ : ∃ z : World, z = wx.alloc (.cells #[.int .i64 num, .int .i64 mw, .int .i64 (l.natAbs : Int)] 75) := ⟨_, rfl⟩
          have hby : Below wx.heap.size wx wy := by rw [hwy]; exact below_new _ _
          have KN : Hid (Blk wy wx.heap.size 75 #[.int .i64 num, .int .i64 mw, .int .i64 (l.natAbs : Int)]) := by rw [hwy]; exact Blk.new _ _ _
          have HTy := Lib.hid (HTx.out.keep hby)
          have HRy := Lib.hid (HRx.out.keep hby)
          have HPy := Lib.hid (HPx.out.keep hby)
          have KY := Lib.hid (KX.out.keep hby)
          have hSy : wy.cell? ⟨gx, 3, none⟩ = some (.slice Oz noz coz) ∧ wy.cell? ⟨b9, 0, none⟩ = some (.int .i64 num) ∧ wy.cell? ⟨b9, 1, none⟩ = some (.int .i64 mw) ∧ wy.cell? ⟨b9, 2, none⟩ = some (.int .i64 (l.natAbs : Int)) := ⟨by have := HTy.out.tb.cell 3; simpa using this, by have := KY.out.cell 0; simpa using this, by have := KY.out.cell 1; simpa using this, by have := KY.out.cell 2; simpa using this⟩
          rw [← hwy]
          clear hwy hby HTx HRx HPx KX
          refine hK _ _ (fun _ => hSy) ?_
          clear hK
          (try simp only [Act.put, List.setIfInBounds_toArray, List.set_cons_zero, List.set_cons_succ])
          refine oneT (i := 7) (by kernel_rfl) rfl (by rfl) (fun Kq hK => ?_)
          have hz9 := HTy.out.bl.size
          refine wp_append_res _ (.tmp 95) (.tmp 97) 69 rfl w.heap.size ires _ Try.underlying69 hires hs0 hs1 hs2 rfl Oz noz coz oz rfl HTy.out.oo wx.heap.size (num, mw, (l.natAbs : Int)) rfl (fun j u hu => by
            have := KN.out.cell j
            rw [this]
            have hj : j < 3 := by have := (List.getElem?_eq_some_iff.1 hu).1; simpa [cells3] using this
            match j, hj, hu with
            | 0, _, hu => simpa [cells3] using hu
            | 1, _, hu => simpa [cells3] using hu
            | 2, _, hu => simpa [cells3] using hu) ⟨by have := HMW.out; have := hI.out; unfold I64; simp only; omega, by have := HMW.out; have := hI.out; unfold I64; simp only; omega, by unfold I64; simp only; omega⟩ (by simp only [maxLen]; omega) (by omega) hz9 ?_
          intro O2 co2 wz hO2 hG2
          have HTz := Lib.hid (HTy.out.growO hO2 hG2)
          have HRz := Lib.hid (HRy.out.kept hG2 (fun q hq => (HTy.out.oo.base hq).2) (by decide) (by decide))
          have HPz := Lib.hid (HPy.out.keptT hG2 (fun q hq => (HTy.out.oo.base hq).2) (by decide))
          have KZ : Hid (Blk wz b9 75 #[.int .i64 num, .int .i64 mw, .int .i64 (l.natAbs : Int)]) := KY.out.grown hG2 (fun e => by have := hOb.out b9 e.symm; omega)
          have hSz : wz.cell? ⟨gx, 3, none⟩ = some (.slice Oz noz coz) ∧ wz.cell? ⟨b9, 0, none⟩ = some (.int .i64 num) ∧ wz.cell? ⟨b9, 1, none⟩ = some (.int .i64 mw) ∧ wz.cell? ⟨b9, 2, none⟩ = some (.int .i64 (l.natAbs : Int)) := ⟨by have := HTz.out.tb.cell 3; simpa using this, by have := KZ.out.cell 0; simpa using this, by have := KZ.out.cell 1; simpa using this, by have := KZ.out.cell 2; simpa using this⟩
          clear hO2 hG2 HTy HRy HPy KY KN hSy hS
          refine hK _ _ (fun _ => hSz) ?_
          clear hK
          (try simp only [Act.put, List.setIfInBounds_toArray, List.set_cons_zero, List.set_cons_succ])
          (try simp only [Nat.zero_add])
          refine take0 (i := 8) (oi := _) (v := ?_) rfl (by kernel_rfl) (by kernel_rfl) (by kernel_rfl) (fun _ _ _ h => h) rfl (Or.inl ⟨by rfl, ?_⟩) (fun _ => hSz) ?_
          rotate_left
          · intro w0; go_simp; with_reducible rfl
          (try simp only [Act.put, List.setIfInBounds_toArray, List.set_cons_zero, List.set_cons_succ])
          refine take0 (i := 9) (oi := _) (v := ?_) rfl (by kernel_rfl) (by kernel_rfl) (by kernel_rfl) (fun _ _ _ h => h) rfl (Or.inl ⟨by rfl, ?_⟩) (fun _ => hSz) ?_
          rotate_left
          · intro w0; go_simp; with_reducible rfl
          (try simp only [Act.put, List.setIfInBounds_toArray, List.set_cons_zero, List.set_cons_succ])
          refine oneT (i := 10) (by kernel_rfl) rfl (by rfl) (fun Kq hK => ?_)
          have kf3 := HTz.out.tb.frozen 3
          have zgz := HTz.out.tb.lt
          have kc3 := hSz.1
          go_simp
          obtain ⟨wh, hwh⟩ : ∃ z : World, z = wz.setCell ⟨gx, 3, none⟩ (.slice O2 (noz + 1) co2) := ⟨_, rfl⟩
          have HTh : Hid (TrG w wh gx #[.slice (some ⟨kb, 0, none⟩) nk ck, .slice (some ⟨nb, 0, none⟩) nk cn, .int .i64 nz, .slice O2 (noz + 1) co2] (some ⟨kb, 0, none⟩) nk ck (some ⟨nb, 0, none⟩) nk cn O2 (noz + 1) co2 known nums (oz ++ [(num, mw, (l.natAbs : Int))])) := by
            rw [hwh]
            have := HTz.out.put 3 (.slice O2 (noz + 1) co2)
            simpa [Hid] using this
          have HRh : Hid (Tri wh w1.heap.size g (some ⟨kb, 0, none⟩) nk ck (some ⟨bL, 0, none⟩) cl (some ⟨bY, 0, none⟩) cy gm t y) := by
            rw [hwh]
            exact HRz.out.put HTz.out.tb (by decide) (by decide) 3 (.slice O2 (noz + 1) co2)
          have HPh : Hid (Own 3 wh w1.heap.size P np cp (now.map (Value.int .i64))) := by
            rw [hwh]
            exact HPz.out.putT HTz.out.tb (by decide) 3 (.slice O2 (noz + 1) co2)
          rw [← hwh]
          refine hK _ _ (noT_no (by kernel_rfl)) ?_
          clear hK
          refine doneT (by kernel_rfl) ?_ _
          clear kf3 zgz kc3 hwh HTz HRz HPz KZ hSz hires hs0 hs1 hs2 hOb zgx zb9
          have hst3 : Hid (trF known nums t y j (rvF xw now (l.natAbs : Int)) nz (nz + 1) (oz ++ [(num, mw, (l.natAbs : Int))]) = (q1, q2, nx', out')) := by have := hst2.out; rw [hrs.out] at this; exact this
          clear hst2 hrs
          go_wp2_with fail
          obtain ⟨wi, hwd⟩ : ∃ z : World, z = wh.drew := ⟨_, rfl⟩
          have hbd : Below wh.heap.size wh wi := by rw [hwd]; exact below_drewN _ 1
          have HTi := Lib.hid (HTh.out.keep hbd)
          have HRi := Lib.hid (HRh.out.keep hbd)
          have HPi := Lib.hid (HPh.out.keep hbd)
          clear hbd HTh HRh HPh
          obtain ⟨_, Xv, nv, cv, xv, hKe, _, _, hcv, _, hIv, _, hxv⟩ := HTi.out.ko.p.round hyN
          cases hKe
          have hxe : xv = xw := by have h1 := hxv.out; have h2 := HXK.out; rw [h1] at h2; injection h2
          rw [hxe] at hIv
          have HIV := Lib.hid hIv
          clear hxe
          have hS : wi.cell? ⟨gx, 0, none⟩ = some (.slice (some ⟨kb, 0, none⟩) nk ck) ∧ wi.cell? ⟨kb, yN, none⟩ = some (.slice Xv nv cv) := ⟨by have := HTi.out.tb.cell 0; simpa using this, hcv⟩
          have zgx := HTi.out.tb.lt
          have HIP := Lib.hid (HPi.out.ints (fun z hz => by have := hI.out.1.1 z hz; unfold I64; omega))
          have hnv : nv ≤ 1000 := by have := HXW.out.len_le v0; rw [hIv.len] at this; omega
          obtain ⟨RR, hRR⟩ : ∃ z, Hid (rsP (l.natAbs : Int) (xw ++ now) [] = z) := ⟨_, rfl⟩
          have hrv : Hid (rvF xw now (l.natAbs : Int) = sortF (RR.getD [])) := by
            show _ = _
            unfold rvF
            rw [hRR.out]
            cases RR <;> rfl
          have HVL : Hid (Lits vars (rvF xw now (l.natAbs : Int))) := rvF_lits HXW.out hI.out.1
          clear hIv hxv
          refine wp_region_tail (fun w' => w'.cell? ⟨gx, 0, none⟩ = some (.slice (some ⟨kb, 0, none⟩) nk ck) ∧ w'.cell? ⟨kb, yN, none⟩ = some (.slice Xv nv cv)) [] (by kernel_rfl) ?_
          change wpAnyT _ _ _ _ _ _ _ _ _ wh.drew
          rw [← hwd]
          clear hwd
          refine take0 (i := 0) (oi := _) (v := ?_) rfl (by kernel_rfl) (by kernel_rfl) (by kernel_rfl) (fun _ _ _ h => h) rfl (Or.inl ⟨by rfl, ?_⟩) (fun _ => hS) ?_
          rotate_left
          · intro w0; go_simp; with_reducible rfl
          (try simp only [Act.put, List.setIfInBounds_toArray, List.set_cons_zero, List.set_cons_succ])
          refine take0 (i := 1) (oi := _) (v := ?_) rfl (by kernel_rfl) (by kernel_rfl) (by kernel_rfl) (fun _ _ _ h => h) rfl (Or.inl ⟨by rfl, ?_⟩) (fun _ => hS) ?_
          rotate_left
          · intro w0; go_simp; with_reducible rfl
          (try simp only [Act.put, List.setIfInBounds_toArray, List.set_cons_zero, List.set_cons_succ])
          refine take0 (i := 2) (oi := _) (v := ?_) rfl (by kernel_rfl) (by kernel_rfl) (by kernel_rfl) (fun _ _ _ h => h) rfl (Or.inl ⟨by rfl, ?_⟩) (fun _ => hS) ?_
          rotate_left
          · intro w0; go_simp; with_reducible rfl
          (try simp only [Act.put, List.setIfInBounds_toArray, List.set_cons_zero, List.set_cons_succ])
          refine takeS (i := 3) (oi := _) (v := ?_) rfl (by kernel_rfl) (by kernel_rfl) (by kernel_rfl) (fun _ _ _ h => h) rfl (by kernel_rfl) (by kernel_rfl) (Or.inl ⟨by rfl, ?_⟩) hS ?_
          rotate_left
          · intro w0 hSw; (try dsimp only at hSw); go_simp; with_reducible rfl
          (try simp only [Act.put, List.setIfInBounds_toArray, List.set_cons_zero, List.set_cons_succ])
          refine take0 (i := 4) (oi := _) (v := ?_) rfl (by kernel_rfl) (by kernel_rfl) (by kernel_rfl) (fun _ _ _ h => h) rfl (Or.inl ⟨by rfl, ?_⟩) (fun _ => hS) ?_
          rotate_left
          · intro w0; go_simp; with_reducible rfl
          (try simp only [Act.put, List.setIfInBounds_toArray, List.set_cons_zero, List.set_cons_succ])
          refine take0 (i := 5) (oi := _) (v := ?_) rfl (by kernel_rfl) (by kernel_rfl) (by kernel_rfl) (fun _ _ _ h => h) rfl (Or.inl ⟨by rfl, ?_⟩) (fun _ => hS) ?_
          rotate_left
          · intro w0; go_simp; with_reducible rfl
          (try simp only [Act.put, List.setIfInBounds_toArray, List.set_cons_zero, List.set_cons_succ])
          refine takeS (i := 6) (oi := _) (v := ?_) rfl (by kernel_rfl) (by kernel_rfl) (by kernel_rfl) (fun _ _ _ h => h) rfl (by kernel_rfl) (by kernel_rfl) (Or.inl ⟨by rfl, ?_⟩) hS ?_
          rotate_left
          · intro w0 hSw; (try dsimp only at hSw); go_simp; with_reducible rfl
          (try simp only [Act.put, List.setIfInBounds_toArray, List.set_cons_zero, List.set_cons_succ])
          refine take0 (i := 7) (oi := _) (v := ?_) rfl (by kernel_rfl) (by kernel_rfl) (by kernel_rfl) (fun _ _ _ h => h) rfl (Or.inl ⟨by rfl, ?_⟩) (fun _ => hS) ?_
          rotate_left
          · intro w0; go_simp; with_reducible rfl
          (try simp only [Act.put, List.setIfInBounds_toArray, List.set_cons_zero, List.set_cons_succ])
          refine take0 (i := 8) (oi := _) (v := ?_) rfl (by kernel_rfl) (by kernel_rfl) (by kernel_rfl) (fun _ _ _ h => h) rfl (Or.inl ⟨by rfl, ?_⟩) (fun _ => hS) ?_
          rotate_left
          · intro w0; go_simp; with_reducible rfl
          (try simp only [Act.put, List.setIfInBounds_toArray, List.set_cons_zero, List.set_cons_succ])
          refine oneT (i := 9) (by kernel_rfl) rfl (by rfl) (fun Kq hK => ?_)
          go_simp
          refine (var_same l _ (by omega) (by omega)).mono ?_
          rintro e wv ⟨rfl, hwv⟩
          rw [hwv]
          clear hwv wv
          refine hK _ _ (fun _ => hS) ?_
          clear hK
          (try simp only [Act.put, List.setIfInBounds_toArray, List.set_cons_zero, List.set_cons_succ])
          refine oneT (i := 10) (by kernel_rfl) rfl (by rfl) (fun Kq hK => ?_)
          go_simp
          refine (resolve_any Xv P nv cv np cp xw now (l.natAbs : Int) wi HIV.out HIP.out (fun z hz => by have := HXW.out.1 z hz; omega) (fun z hz => by have := hI.out.1.1 z hz; omega) (by omega) RR hRR).mono ?_
          rintro e wj ⟨P2, np2, cp2, rfl, hP2, hbj⟩
          have HTj := Lib.hid (HTi.out.keep hbj)
          have HRj := Lib.hid (HRi.out.keep hbj)
          have HPj : Hid (Own 3 wj w1.heap.size P2 np2 cp2 ((rvF xw now (l.natAbs : Int)).map (Value.int .i64))) := by
            rw [hrv.out]
            exact hP2.mono HRi.out.sz
          have hSj : wj.cell? ⟨gx, 0, none⟩ = some (.slice (some ⟨kb, 0, none⟩) nk ck) ∧ wj.cell? ⟨kb, yN, none⟩ = some (.slice Xv nv cv) := ⟨keepBox hbj hS.1, keepBox hbj hS.2⟩
          clear hP2 hbj HTi HRi HPi HIV HIP hS hRR hrv hcv
          refine hK _ _ (fun _ => hSj) ?_
          clear hK
          (try simp only [Act.put, List.setIfInBounds_toArray, List.set_cons_zero, List.set_cons_succ])
          refine take0 (i := 11) (oi := _) (v := ?_) rfl (by kernel_rfl) (by kernel_rfl) (by kernel_rfl) (fun _ _ _ h => h) rfl (Or.inl ⟨by rfl, ?_⟩) (fun _ => hSj) ?_
          rotate_left
          · intro w0; go_simp; with_reducible rfl
          (try simp only [Act.put, List.setIfInBounds_toArray, List.set_cons_zero, List.set_cons_succ])
          refine take0 (i := 12) (oi := _) (v := ?_) rfl (by kernel_rfl) (by kernel_rfl) (by kernel_rfl) (fun _ _ _ h => h) rfl (Or.inl ⟨by rfl, ?_⟩) (fun _ => hSj) ?_
          rotate_left
          · intro w0; go_simp; with_reducible rfl
          (try simp only [Act.put, List.setIfInBounds_toArray, List.set_cons_zero, List.set_cons_succ])
          refine take0 (i := 13) (oi := _) (v := ?_) rfl (by kernel_rfl) (by kernel_rfl) (by kernel_rfl) (fun _ _ _ h => h) rfl (Or.inl ⟨by rfl, ?_⟩) (fun _ => hSj) ?_
          rotate_left
          · intro w0; go_simp; with_reducible rfl
          (try simp only [Act.put, List.setIfInBounds_toArray, List.set_cons_zero, List.set_cons_succ])
          refine take0 (i := 14) (oi := _) (v := ?_) rfl (by kernel_rfl) (by kernel_rfl) (by kernel_rfl) (fun _ _ _ h => h) rfl (Or.inl ⟨by rfl, ?_⟩) (fun _ => hSj) ?_
          rotate_left
          · intro w0; go_simp; with_reducible rfl
          (try simp only [Act.put, List.setIfInBounds_toArray, List.set_cons_zero, List.set_cons_succ])
          refine doneT (by kernel_rfl) ?_ _
          clear hSj
          have kc2 := HTj.out.tb.cell 2
          simp at kc2
          have kf2 := HTj.out.tb.frozen 2
          have klt := HTj.out.tb.lt
          have HTk : Hid (TrG w (wj.setCell ⟨gx, 2, none⟩ (.int .i64 (nz + 1))) gx #[.slice (some ⟨kb, 0, none⟩) nk ck, .slice (some ⟨nb, 0, none⟩) nk cn, .int .i64 (nz + 1), .slice O2 (noz + 1) co2] (some ⟨kb, 0, none⟩) nk ck (some ⟨nb, 0, none⟩) nk cn O2 (noz + 1) co2 known nums (oz ++ [(num, mw, (l.natAbs : Int))])) := by
            have := HTj.out.put 2 (.int .i64 (nz + 1))
            simpa [Hid] using this
          have HRk : Hid (Tri (wj.setCell ⟨gx, 2, none⟩ (.int .i64 (nz + 1))) w1.heap.size g (some ⟨kb, 0, none⟩) nk ck (some ⟨bL, 0, none⟩) cl (some ⟨bY, 0, none⟩) cy gm t y) := HRj.out.put HTj.out.tb (by decide) (by decide) 2 (.int .i64 (nz + 1))
          have HPk : Hid (Own 3 (wj.setCell ⟨gx, 2, none⟩ (.int .i64 (nz + 1))) w1.heap.size P2 np2 cp2 ((rvF xw now (l.natAbs : Int)).map (Value.int .i64))) := HPj.out.putT HTj.out.tb (by decide) 2 (.int .i64 (nz + 1))
          have hnz : nz ≤ 1002000 := by have := hI.out; omega
          have hnz0 : 0 ≤ nz := hI.out.2.2.2.1
          go_wp2_with fail
          go_roundw
          case rel => exact ⟨j, P2, np2, cp2, rvF xw now (l.natAbs : Int), nz, nz + 1, O2, noz + 1, co2, oz ++ [(num, mw, (l.natAbs : Int))], by omega, by omega, rfl, rfl, by go_num, HTk, HRk, HPk, ⟨HVL.out, by omega, by omega, by omega, by have := hI.out; omega⟩, hst3⟩
          case measure => simp [intOf] <;> omega
        · have dl : decide (l < 0) = false := decide_eq_false hl0
          go_wp2_with fail
          obtain ⟨wg, hwg⟩ : ∃ z : World, z = wf := ⟨_, rfl⟩
          subst hwg
          have KG := KF
          have HTg := HTf
          have HRg := HRf
          have HPg := HPf
          have hrs : Hid (rsT l num mw = (mw, num, (l.natAbs : Int))) := by show _ = _; unfold rsT; rw [if_neg (by omega)]
          clear kc0 kc1 kc2 kf0 kf1 klt KF HTf HRf HPf
          obtain ⟨wx, hwd⟩ : ∃ z : World, z = wg.drew := ⟨_, rfl⟩
          have hbd : Below wg.heap.size wg wx := by rw [hwd]; exact below_drewN _ 1
          have HTx := Lib.hid (HTg.out.keep hbd)
          have HRx := Lib.hid (HRg.out.keep hbd)
          have HPx := Lib.hid (HPg.out.keep hbd)
          have KX := Lib.hid (KG.out.keep hbd)
          clear hbd HTg HRg HPg KG
          have hS : wx.cell? ⟨gx, 3, none⟩ = some (.slice Oz noz coz) ∧ wx.cell? ⟨b9, 0, none⟩ = some (.int .i64 mw) ∧ wx.cell? ⟨b9, 1, none⟩ = some (.int .i64 num) ∧ wx.cell? ⟨b9, 2, none⟩ = some (.int .i64 (l.natAbs : Int)) := ⟨by have := HTx.out.tb.cell 3; simpa using this, by have := KX.out.cell 0; simpa using this, by have := KX.out.cell 1; simpa using this, by have := KX.out.cell 2; simpa using this⟩
          have zgx := HTx.out.tb.lt
          have zb9 := KX.out.lt
          obtain ⟨ires, hires, hs0, hs1, hs2⟩ := info_parts res_info
          refine wp_region_tail (fun w' => w'.cell? ⟨gx, 3, none⟩ = some (.slice Oz noz coz) ∧ w'.cell? ⟨b9, 0, none⟩ = some (.int .i64 mw) ∧ w'.cell? ⟨b9, 1, none⟩ = some (.int .i64 num) ∧ w'.cell? ⟨b9, 2, none⟩ = some (.int .i64 (l.natAbs : Int))) [10] (by kernel_rfl) ?_
          change wpAnyT _ _ _ _ _ _ _ _ _ wg.drew
          rw [← hwd]
          clear hwd
          refine take0 (i := 0) (oi := _) (v := ?_) rfl (by kernel_rfl) (by kernel_rfl) (by kernel_rfl) (fun _ _ _ h => h) rfl (Or.inl ⟨by rfl, ?_⟩) (fun _ => hS) ?_
          rotate_left
          · intro w0; go_simp; with_reducible rfl
          (try simp only [Act.put, List.setIfInBounds_toArray, List.set_cons_zero, List.set_cons_succ])
          refine take0 (i := 1) (oi := _) (v := ?_) rfl (by kernel_rfl) (by kernel_rfl) (by kernel_rfl) (fun _ _ _ h => h) rfl (Or.inl ⟨by rfl, ?_⟩) (fun _ => hS) ?_
          rotate_left
          · intro w0; go_simp; with_reducible rfl
          (try simp only [Act.put, List.setIfInBounds_toArray, List.set_cons_zero, List.set_cons_succ])
          refine take0 (i := 2) (oi := _) (v := ?_) rfl (by kernel_rfl) (by kernel_rfl) (by kernel_rfl) (fun _ _ _ h => h) rfl (Or.inl ⟨by rfl, ?_⟩) (fun _ => hS) ?_
          rotate_left
          · intro w0; go_simp; with_reducible rfl
          (try simp only [Act.put, List.setIfInBounds_toArray, List.set_cons_zero, List.set_cons_succ])
          refine take0 (i := 3) (oi := _) (v := ?_) rfl (by kernel_rfl) (by kernel_rfl) (by kernel_rfl) (fun _ _ _ h => h) rfl (Or.inl ⟨by rfl, ?_⟩) (fun _ => hS) ?_
          rotate_left
          · intro w0; go_simp; with_reducible rfl
          (try simp only [Act.put, List.setIfInBounds_toArray, List.set_cons_zero, List.set_cons_succ])
          refine takeS (i := 4) (oi := _) (v := ?_) rfl (by kernel_rfl) (by kernel_rfl) (by kernel_rfl) (fun _ _ _ h => h) rfl (by kernel_rfl) (by kernel_rfl) (Or.inl ⟨by rfl, ?_⟩) hS ?_
          rotate_left
          · intro w0 hSw; (try dsimp only at hSw); go_simp; with_reducible rfl
          (try simp only [Act.put, List.setIfInBounds_toArray, List.set_cons_zero, List.set_cons_succ])
          refine takeS (i := 5) (oi := _) (v := ?_) rfl (by kernel_rfl) (by kernel_rfl) (by kernel_rfl) (fun _ _ _ h => h) rfl (by kernel_rfl) (by kernel_rfl) (Or.inl ⟨by rfl, ?_⟩) hS ?_
          rotate_left
          · intro w0 hSw; (try dsimp only at hSw); go_simp; with_reducible rfl
          (try simp only [Act.put, List.setIfInBounds_toArray, List.set_cons_zero, List.set_cons_succ])
          refine oneT (i := 6) (by kernel_rfl) rfl (by rfl) (fun Kq hK => ?_)
          go_simp
          obtain ⟨wy, hwy⟩ : ∃ z : World, z = wx.alloc (.cells #[.int .i64 mw, .int .i64 num, .int .i64 (l.natAbs : Int)] 75) := ⟨_, rfl⟩
          have hby : Below wx.heap.size wx wy := by rw [hwy]; exact below_new _ _
          have KN : Hid (Blk wy wx.heap.size 75 #[.int .i64 mw, .int .i64 num, .int .i64 (l.natAbs : Int)]) := by rw [hwy]; exact Blk.new _ _ _
          have HTy := Lib.hid (HTx.out.keep hby)
          have HRy := Lib.hid (HRx.out.keep hby)
          have HPy := Lib.hid (HPx.out.keep hby)
          have KY := Lib.hid (KX.out.keep hby)
          have hSy : wy.cell? ⟨gx, 3, none⟩ = some (.slice Oz noz coz) ∧ wy.cell? ⟨b9, 0, none⟩ = some (.int .i64 mw) ∧ wy.cell? ⟨b9, 1, none⟩ = some (.int .i64 num) ∧ wy.cell? ⟨b9, 2, none⟩ = some (.int .i64 (l.natAbs : Int)) := ⟨by have := HTy.out.tb.cell 3; simpa using this, by have := KY.out.cell 0; simpa using this, by have := KY.out.cell 1; simpa using this, by have := KY.out.cell 2; simpa using this⟩
          rw [← hwy]
          clear hwy hby HTx HRx HPx KX
          refine hK _ _ (fun _ => hSy) ?_
          clear hK
          (try simp only [Act.put, List.setIfInBounds_toArray, List.set_cons_zero, List.set_cons_succ])
          refine oneT (i := 7) (by kernel_rfl) rfl (by rfl) (fun Kq hK => ?_)
          have hz9 := HTy.out.bl.size
          refine wp_append_res _ (.tmp 95) (.tmp 97) 69 rfl w.heap.size ires _ Try.underlying69 hires hs0 hs1 hs2 rfl Oz noz coz oz rfl HTy.out.oo wx.heap.size (mw, num, (l.natAbs : Int)) rfl (fun j u hu => by
            have := KN.out.cell j
            rw [this]
            have hj : j < 3 := by have := (List.getElem?_eq_some_iff.1 hu).1; simpa [cells3] using this
            match j, hj, hu with
            | 0, _, hu => simpa [cells3] using hu
            | 1, _, hu => simpa [cells3] using hu
            | 2, _, hu => simpa [cells3] using hu) ⟨by have := HMW.out; have := hI.out; unfold I64; simp only; omega, by have := HMW.out; have := hI.out; unfold I64; simp only; omega, by unfold I64; simp only; omega⟩ (by simp only [maxLen]; omega) (by omega) hz9 ?_
          intro O2 co2 wz hO2 hG2
          have HTz := Lib.hid (HTy.out.growO hO2 hG2)
          have HRz := Lib.hid (HRy.out.kept hG2 (fun q hq => (HTy.out.oo.base hq).2) (by decide) (by decide))
          have HPz := Lib.hid (HPy.out.keptT hG2 (fun q hq => (HTy.out.oo.base hq).2) (by decide))
          have KZ : Hid (Blk wz b9 75 #[.int .i64 mw, .int .i64 num, .int .i64 (l.natAbs : Int)]) := KY.out.grown hG2 (fun e => by have := hOb.out b9 e.symm; omega)
          have hSz : wz.cell? ⟨gx, 3, none⟩ = some (.slice Oz noz coz) ∧ wz.cell? ⟨b9, 0, none⟩ = some (.int .i64 mw) ∧ wz.cell? ⟨b9, 1, none⟩ = some (.int .i64 num) ∧ wz.cell? ⟨b9, 2, none⟩ = some (.int .i64 (l.natAbs : Int)) := ⟨by have := HTz.out.tb.cell 3; simpa using this, by have := KZ.out.cell 0; simpa using this, by have := KZ.out.cell 1; simpa using this, by have := KZ.out.cell 2; simpa using this⟩
          clear hO2 hG2 HTy HRy HPy KY KN hSy hS
          refine hK _ _ (fun _ => hSz) ?_
          clear hK
          (try simp only [Act.put, List.setIfInBounds_toArray, List.set_cons_zero, List.set_cons_succ])
          (try simp only [Nat.zero_add])
          refine take0 (i := 8) (oi := _) (v := ?_) rfl (by kernel_rfl) (by kernel_rfl) (by kernel_rfl) (fun _ _ _ h => h) rfl (Or.inl ⟨by rfl, ?_⟩) (fun _ => hSz) ?_
          rotate_left
          · intro w0; go_simp; with_reducible rfl
          (try simp only [Act.put, List.setIfInBounds_toArray, List.set_cons_zero, List.set_cons_succ])
          refine take0 (i := 9) (oi := _) (v := ?_) rfl (by kernel_rfl) (by kernel_rfl) (by kernel_rfl) (fun _ _ _ h => h) rfl (Or.inl ⟨by rfl, ?_⟩) (fun _ => hSz) ?_
          rotate_left
          · intro w0; go_simp; with_reducible rfl
          (try simp only [Act.put, List.setIfInBounds_toArray, List.set_cons_zero, List.set_cons_succ])
          refine oneT (i := 10) (by kernel_rfl) rfl (by rfl) (fun Kq hK => ?_)
          have kf3 := HTz.out.tb.frozen 3
          have zgz := HTz.out.tb.lt
          have kc3 := hSz.1
          go_simp
          obtain ⟨wh, hwh⟩ : ∃ z : World, z = wz.setCell ⟨gx, 3, none⟩ (.slice O2 (noz + 1) co2) := ⟨_, rfl⟩
          have HTh : Hid (TrG w wh gx #[.slice (some ⟨kb, 0, none⟩) nk ck, .slice (some ⟨nb, 0, none⟩) nk cn, .int .i64 nz, .slice O2 (noz + 1) co2] (some ⟨kb, 0, none⟩) nk ck (some ⟨nb, 0, none⟩) nk cn O2 (noz + 1) co2 known nums (oz ++ [(mw, num, (l.natAbs : Int))])) := by
            rw [hwh]
            have := HTz.out.put 3 (.slice O2 (noz + 1) co2)
            simpa [Hid] using this
          have HRh : Hid (Tri wh w1.heap.size g (some ⟨kb, 0, none⟩) nk ck (some ⟨bL, 0, none⟩) cl (some ⟨bY, 0, none⟩) cy gm t y) := by
            rw [hwh]
            exact HRz.out.put HTz.out.tb (by decide) (by decide) 3 (.slice O2 (noz + 1) co2)
          have HPh : Hid (Own 3 wh w1.heap.size P np cp (now.map (Value.int .i64))) := by
            rw [hwh]
            exact HPz.out.putT HTz.out.tb (by decide) 3 (.slice O2 (noz + 1) co2)
          rw [← hwh]
          refine hK _ _ (noT_no (by kernel_rfl)) ?_
          clear hK
          refine doneT (by kernel_rfl) ?_ _
          clear kf3 zgz kc3 hwh HTz HRz HPz KZ hSz hires hs0 hs1 hs2 hOb zgx zb9
          have hst3 : Hid (trF known nums t y j (rvF xw now (l.natAbs : Int)) nz (nz + 1) (oz ++ [(mw, num, (l.natAbs : Int))]) = (q1, q2, nx', out')) := by have := hst2.out; rw [hrs.out] at this; exact this
          clear hst2 hrs
          go_wp2_with fail
          obtain ⟨wi, hwd⟩ : ∃ z : World, z = wh.drew := ⟨_, rfl⟩
          have hbd : Below wh.heap.size wh wi := by rw [hwd]; exact below_drewN _ 1
          have HTi := Lib.hid (HTh.out.keep hbd)
          have HRi := Lib.hid (HRh.out.keep hbd)
          have HPi := Lib.hid (HPh.out.keep hbd)
          clear hbd HTh HRh HPh
          obtain ⟨_, Xv, nv, cv, xv, hKe, _, _, hcv, _, hIv, _, hxv⟩ := HTi.out.ko.p.round hyN
          cases hKe
          have hxe : xv = xw := by have h1 := hxv.out; have h2 := HXK.out; rw [h1] at h2; injection h2
          rw [hxe] at hIv
          have HIV := Lib.hid hIv
          clear hxe
          have hS : wi.cell? ⟨gx, 0, none⟩ = some (.slice (some ⟨kb, 0, none⟩) nk ck) ∧ wi.cell? ⟨kb, yN, none⟩ = some (.slice Xv nv cv) := ⟨by have := HTi.out.tb.cell 0; simpa using this, hcv⟩
          have zgx := HTi.out.tb.lt
          have HIP := Lib.hid (HPi.out.ints (fun z hz => by have := hI.out.1.1 z hz; unfold I64; omega))
          have hnv : nv ≤ 1000 := by have := HXW.out.len_le v0; rw [hIv.len] at this; omega
          obtain ⟨RR, hRR⟩ : ∃ z, Hid (rsP (l.natAbs : Int) (xw ++ now) [] = z) := ⟨_, rfl⟩
          have hrv : Hid (rvF xw now (l.natAbs : Int) = sortF (RR.getD [])) := by
            show _ = _
            unfold rvF
            rw [hRR.out]
            cases RR <;> rfl
          have HVL : Hid (Lits vars (rvF xw now (l.natAbs : Int))) := rvF_lits HXW.out hI.out.1
          clear hIv hxv
          refine wp_region_tail (fun w' => w'.cell? ⟨gx, 0, none⟩ = some (.slice (some ⟨kb, 0, none⟩) nk ck) ∧ w'.cell? ⟨kb, yN, none⟩ = some (.slice Xv nv cv)) [] (by kernel_rfl) ?_
          change wpAnyT _ _ _ _ _ _ _ _ _ wh.drew
          rw [← hwd]
          clear hwd
          refine take0 (i := 0) (oi := _) (v := ?_) rfl (by kernel_rfl) (by kernel_rfl) (by kernel_rfl) (fun _ _ _ h => h) rfl (Or.inl ⟨by rfl, ?_⟩) (fun _ => hS) ?_
          rotate_left
          · intro w0; go_simp; with_reducible rfl
          (try simp only [Act.put, List.setIfInBounds_toArray, List.set_cons_zero, List.set_cons_succ])
          refine take0 (i := 1) (oi := _) (v := ?_) rfl (by kernel_rfl) (by kernel_rfl) (by kernel_rfl) (fun _ _ _ h => h) rfl (Or.inl ⟨by rfl, ?_⟩) (fun _ => hS) ?_
          rotate_left
          · intro w0; go_simp; with_reducible rfl
          (try simp only [Act.put, List.setIfInBounds_toArray, List.set_cons_zero, List.set_cons_succ])
          refine take0 (i := 2) (oi := _) (v := ?_) rfl (by kernel_rfl) (by kernel_rfl) (by kernel_rfl) (fun _ _ _ h => h) rfl (Or.inl ⟨by rfl, ?_⟩) (fun _ => hS) ?_
          rotate_left
          · intro w0; go_simp; with_reducible rfl
          (try simp only [Act.put, List.setIfInBounds_toArray, List.set_cons_zero, List.set_cons_succ])
          refine takeS (i := 3) (oi := _) (v := ?_) rfl (by kernel_rfl) (by kernel_rfl) (by kernel_rfl) (fun _ _ _ h => h) rfl (by kernel_rfl) (by kernel_rfl) (Or.inl ⟨by rfl, ?_⟩) hS ?_
          rotate_left
          · intro w0 hSw; (try dsimp only at hSw); go_simp; with_reducible rfl
          (try simp only [Act.put, List.setIfInBounds_toArray, List.set_cons_zero, List.set_cons_succ])
          refine take0 (i := 4) (oi := _) (v := ?_) rfl (by kernel_rfl) (by kernel_rfl) (by kernel_rfl) (fun _ _ _ h => h) rfl (Or.inl ⟨by rfl, ?_⟩) (fun _ => hS) ?_
          rotate_left
          · intro w0; go_simp; with_reducible rfl
          (try simp only [Act.put, List.setIfInBounds_toArray, List.set_cons_zero, List.set_cons_succ])
          refine take0 (i := 5) (oi := _) (v := ?_) rfl (by kernel_rfl) (by kernel_rfl) (by kernel_rfl) (fun _ _ _ h => h) rfl (Or.inl ⟨by rfl, ?_⟩) (fun _ => hS) ?_
          rotate_left
          · intro w0; go_simp; with_reducible rfl
          (try simp only [Act.put, List.setIfInBounds_toArray, List.set_cons_zero, List.set_cons_succ])
          refine takeS (i := 6) (oi := _) (v := ?_) rfl (by kernel_rfl) (by kernel_rfl) (by kernel_rfl) (fun _ _ _ h => h) rfl (by kernel_rfl) (by kernel_rfl) (Or.inl ⟨by rfl, ?_⟩) hS ?_
          rotate_left
          · intro w0 hSw; (try dsimp only at hSw); go_simp; with_reducible rfl
          (try simp only [Act.put, List.setIfInBounds_toArray, List.set_cons_zero, List.set_cons_succ])
          refine take0 (i := 7) (oi := _) (v := ?_) rfl (by kernel_rfl) (by kernel_rfl) (by kernel_rfl) (fun _ _ _ h => h) rfl (Or.inl ⟨by rfl, ?_⟩) (fun _ => hS) ?_
          rotate_left
          · intro w0; go_simp; with_reducible rfl
          (try simp only [Act.put, List.setIfInBounds_toArray, List.set_cons_zero, List.set_cons_succ])
          refine take0 (i := 8) (oi := _) (v := ?_) rfl (by kernel_rfl) (by kernel_rfl) (by kernel_rfl) (fun _ _ _ h => h) rfl (Or.inl ⟨by rfl, ?_⟩) (fun _ => hS) ?_
          rotate_left
          · intro w0; go_simp; with_reducible rfl
          (try simp only [Act.put, List.setIfInBounds_toArray, List.set_cons_zero, List.set_cons_succ])
          refine oneT (i := 9) (by kernel_rfl) rfl (by rfl) (fun Kq hK => ?_)
          go_simp
          refine (var_same l _ (by omega) (by omega)).mono ?_
          rintro e wv ⟨rfl, hwv⟩
          rw [hwv]
          clear hwv wv
          refine hK _ _ (fun _ => hS) ?_
          clear hK
          (try simp only [Act.put, List.setIfInBounds_toArray, List.set_cons_zero, List.set_cons_succ])
          refine oneT (i := 10) (by kernel_rfl) rfl (by rfl) (fun Kq hK => ?_)
          go_simp
          refine (resolve_any Xv P nv cv np cp xw now (l.natAbs : Int) wi HIV.out HIP.out (fun z hz => by have := HXW.out.1 z hz; omega) (fun z hz => by have := hI.out.1.1 z hz; omega) (by omega) RR hRR).mono ?_
          rintro e wj ⟨P2, np2, cp2, rfl, hP2, hbj⟩
          have HTj := Lib.hid (HTi.out.keep hbj)
          have HRj := Lib.hid (HRi.out.keep hbj)
          have HPj : Hid (Own 3 wj w1.heap.size P2 np2 cp2 ((rvF xw now (l.natAbs : Int)).map (Value.int .i64))) := by
            rw [hrv.out]
            exact hP2.mono HRi.out.sz
          have hSj : wj.cell? ⟨gx, 0, none⟩ = some (.slice (some ⟨kb, 0, none⟩) nk ck) ∧ wj.cell? ⟨kb, yN, none⟩ = some (.slice Xv nv cv) := ⟨keepBox hbj hS.1, keepBox hbj hS.2⟩
          clear hP2 hbj HTi HRi HPi HIV HIP hS hRR hrv hcv
          refine hK _ _ (fun _ => hSj) ?_
          clear hK
          (try simp only [Act.put, List.setIfInBounds_toArray, List.set_cons_zero, List.set_cons_succ])
          refine take0 (i := 11) (oi := _) (v := ?_) rfl (by kernel_rfl) (by kernel_rfl) (by kernel_rfl) (fun _ _ _ h => h) rfl (Or.inl ⟨by rfl, ?_⟩) (fun _ => hSj) ?_
          rotate_left
          · intro w0; go_simp; with_reducible rfl
          (try simp only [Act.put, List.setIfInBounds_toArray, List.set_cons_zero, List.set_cons_succ])
          refine take0 (i := 12) (oi := _) (v := ?_) rfl (by kernel_rfl) (by kernel_rfl) (by kernel_rfl) (fun _ _ _ h => h) rfl (Or.inl ⟨by rfl, ?_⟩) (fun _ => hSj) ?_
          rotate_left
          · intro w0; go_simp; with_reducible rfl
          (try simp only [Act.put, List.setIfInBounds_toArray, List.set_cons_zero, List.set_cons_succ])
          refine take0 (i := 13) (oi := _) (v := ?_) rfl (by kernel_rfl) (by kernel_rfl) (by kernel_rfl) (fun _ _ _ h => h) rfl (Or.inl ⟨by rfl, ?_⟩) (fun _ => hSj) ?_
          rotate_left
          · intro w0; go_simp; with_reducible rfl
          (try simp only [Act.put, List.setIfInBounds_toArray, List.set_cons_zero, List.set_cons_succ])
          refine take0 (i := 14) (oi := _) (v := ?_) rfl (by kernel_rfl) (by kernel_rfl) (by kernel_rfl) (fun _ _ _ h => h) rfl (Or.inl ⟨by rfl, ?_⟩) (fun _ => hSj) ?_
          rotate_left
          · intro w0; go_simp; with_reducible rfl
          (try simp only [Act.put, List.setIfInBounds_toArray, List.set_cons_zero, List.set_cons_succ])
          refine doneT (by kernel_rfl) ?_ _
          clear hSj
          have kc2 := HTj.out.tb.cell 2
          simp at kc2
          have kf2 := HTj.out.tb.frozen 2
          have klt := HTj.out.tb.lt
          have HTk : Hid (TrG w (wj.setCell ⟨gx, 2, none⟩ (.int .i64 (nz + 1))) gx #[.slice (some ⟨kb, 0, none⟩) nk ck, .slice (some ⟨nb, 0, none⟩) nk cn, .int .i64 (nz + 1), .slice O2 (noz + 1) co2] (some ⟨kb, 0, none⟩) nk ck (some ⟨nb, 0, none⟩) nk cn O2 (noz + 1) co2 known nums (oz ++ [(mw, num, (l.natAbs : Int))])) := by
            have := HTj.out.put 2 (.int .i64 (nz + 1))
            simpa [Hid] using this
          have HRk : Hid (Tri (wj.setCell ⟨gx, 2, none⟩ (.int .i64 (nz + 1))) w1.heap.size g (some ⟨kb, 0, none⟩) nk ck (some ⟨bL, 0, none⟩) cl (some ⟨bY, 0, none⟩) cy gm t y) := HRj.out.put HTj.out.tb (by decide) (by decide) 2 (.int .i64 (nz + 1))
          have HPk : Hid (Own 3 (wj.setCell ⟨gx, 2, none⟩ (.int .i64 (nz + 1))) w1.heap.size P2 np2 cp2 ((rvF xw now (l.natAbs : Int)).map (Value.int .i64))) := HPj.out.putT HTj.out.tb (by decide) 2 (.int .i64 (nz + 1))
          have hnz : nz ≤ 1002000 := by have := hI.out; omega
          have hnz0 : 0 ≤ nz := hI.out.2.2.2.1
          go_wp2_with fail
          go_roundw
          case rel => exact ⟨j, P2, np2, cp2, rvF xw now (l.natAbs : Int), nz, nz + 1, O2, noz + 1, co2, oz ++ [(mw, num, (l.natAbs : Int))], by omega, by omega, rfl, rfl, by go_num, HTk, HRk, HPk, ⟨HVL.out, by omega, by omega, by omega, by have := hI.out; omega⟩, hst3⟩
          case measure => simp [intOf] <;> omega
end Go.Proofs.Ytabjbpkojbdgaaa
