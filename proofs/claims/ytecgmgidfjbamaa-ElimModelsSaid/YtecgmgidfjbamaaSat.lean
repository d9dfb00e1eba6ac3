/- Contracts of cnf.True, Sat, All and their closures; of slices.IndexFunc and ContainsFunc at rows; of the reference's Sat, All. -/
import Derived.Test.YtecgmgidfjbamaaCnfA
import Derived.Test.YtecgmgidfjbamaaSatPlain
namespace Go.Proofs.Ytecgmgidfjbamaa
open Go.RowKit

theorem true_any (x : Int) (A : Option Addr) (m d : Nat) (a : List Bool) (w : World) (h : Bools w A m d a) (h0 : x ≠ 0) (h1 : -(m : Int) ≤ x) (h2 : x ≤ m) :
    Calls Try.prog 105 #[.int .i64 x, .slice A m d] w (RetQ (.bool (litB a x)) w) := by
  have hbd := h.bd
  obtain ⟨k, hk⟩ : ∃ k : Nat, x.natAbs = k + 1 := ⟨x.natAbs - 1, by omega⟩
  have hkm : k < m := by omega
  obtain ⟨b, off, y, rfl, hb, hcell, hy⟩ := h.round (k := k) hkm
  have HR : Hid (litB a x = (y == decide (0 < x))) := by
    show _ = _
    rw [litB, hk, show k + 1 - 1 = k by omega, hy.out]; rfl
  rw [HR.out]
  clear hy
  go_enter Try.func105, Try.ntmps105
  go_wp2_with fail
  refine (var_any _ _ (by omega) (by omega)).mono ?_
  rw [hk]
  clear hk
  rintro e w1 ⟨rfl, q, rfl⟩
  have z1 : ((k + 1 : Nat) : Int) = (k : Int) + 1 := by omega
  rw [z1]
  have z2 : (k : Int) < (m : Int) := by omega
  have z3 : (0 : Int) ≤ (k : Int) := by omega
  have z4 : (k : Int) + 1 - 1 = (k : Int) := by omega
  clear z1
  go_wp2_with fail
  go_ret
  exact RetQ.of _ rfl

theorem sat_lit (x : Int) (B : Nat) (W : World) (A : Option Addr) (m d : Nat) (a : List Bool) (hc : W.cell? ⟨B, 0, none⟩ = some (.slice A m d)) (h : Bools W A m d a) (h0 : x ≠ 0) (h1 : -(m : Int) ≤ x) (h2 : x ≤ m) :
    Calls Try.prog 104 #[.int .i64 x, .pointer (some ⟨B, 0, none⟩)] W (RetQ (.bool (litB a x)) W) := by
  obtain ⟨r, hr⟩ : ∃ r, Hid (litB a x = r) := ⟨_, rfl⟩
  rw [hr.out]
  go_enter Try.func104, Try.ntmps104
  go_wp2_with fail
  refine (true_any _ _ _ _ _ _ h h0 h1 h2).mono ?_
  rw [hr.out]
  rintro e w1 ⟨rfl, q, rfl⟩
  go_wp2_with fail
  go_ret
  exact RetQ.of _ rfl
theorem enters_sat : Enters Try.prog 104 := enters_of Try.func104 (by kernel_rfl) rfl

theorem sat_own (A B : Option Addr) (n c m d : Nat) (xs : List Int) (a : List Bool) (w : World) (h : Ints w A n c xs) (h' : Bools w B m d a) (hi : InLits m xs) (r : Bool) (hr : Hid (satB a xs = r)) :
    Calls Try.prog 89 #[.slice A n c, .slice B m d] w (RetV (.bool r) w) := by
  have hk := h.keep (below_new w (.cells #[.slice B m d] 38))
  have hk' := h'.keep (below_new w (.cells #[.slice B m d] 38))
  have HP : Hid (Pred 104 #[.pointer (some ⟨w.heap.size, 0, none⟩)] xs (litB a) (w.alloc (.cells #[.slice B m d] 38))) := by
    intro W x hW hx
    have := hi x hx
    exact (sat_lit x w.heap.size W B m d a (keepBox hW (by simp [go_sem])) (hk'.keep hW) this.1 this.2.1 this.2.2).mono fun _ _ hh => hh.v
  have HI := Lib.hid hi
  clear hi
  go_enter Try.func89, Try.ntmps89
  go_wp2_with fail
  refine (containsFunc_ints _ _ _ _ _ hk _ _ enters_sat _ HP.out _ hr).mono ?_
  rintro e w1 ⟨rfl, hb1⟩
  have HB := Lib.hid (below_box hb1).1
  clear hb1
  go_wp2_with fail
  go_ret
  exact ⟨rfl, HB.out⟩

/-- A predicate that is called at the rows xss. -/
def PredR (g : Nat) (lb : Array Value) (xss : List (List Int)) (p : List Int → Bool) (w : World) : Prop :=
  ∀ (W : World) (A : Option Addr) (n c : Nat) (xs : List Int), Below w.heap.size w W → Ints W A n c xs → xs ∈ xss → Calls Try.prog g (#[.slice A n c] ++ lb) W (RetV (.bool (p xs)) W)

set_option maxHeartbeats 400000 in
theorem indexFunc_rows (A : Option Addr) (n c : Nat) (xss : List (List Int)) (w : World) (h : Grid w A n c xss) (g : Nat) (lb : Array Value) (eg : Enters Try.prog g) (p : List Int → Bool) (hp : PredR g lb xss p w) (r : Int) (hr : Hid (idxF p xss 0 = r)) :
    Calls Try.prog 79 #[.slice A n c, .func (.func g) #[] lb] w (RetV (.int .i64 r) w) := by
  have hbd := h.bd
  have hlen := Lib.hid h.len
  have HP := Lib.hid hp
  have eg' : ∀ args w, (callFunc g args).run Try.prog w = .ok (.enter g args) w := eg
  clear hp
  go_enter Try.func79, Try.ntmps79
  go_wp2_with fail
  go_loopw [8] (fun i wr => ∃ k : Nat, k ≤ n ∧ i = .int .i64 k ∧ Hid (idxF p (xss.drop k) k = r) ∧ Hid (Below w.heap.size w wr)) (fun i _ => n - (intOf i).toNat)
  case atStart => exact ⟨0, Nat.zero_le _, rfl, hr.out, Below.refl _ _⟩
  case round =>
    obtain ⟨k, hk, rfl, hn, hB⟩ := hrel
    by_cases hlt : k < n
    · obtain ⟨b, off, A', n', c', xs, rfl, hb, hcell, hi, hy⟩ := (h.keep hB.out).round hlt
      have hm := Lib.hid (HP.out wr A' n' c' xs hB.out hi (List.mem_of_getElem? hy.out))
      obtain ⟨q, hq⟩ : ∃ q, Hid (p xs = q) := ⟨_, rfl⟩
      go_wp2_with fail
      refine hm.out.mono ?_
      rw [hq.out]
      rintro e w1 ⟨rfl, hb1⟩
      have hB1 := Lib.hid (below_next hB.out hb1)
      clear hb1
      cases q
      · go_wp2_with fail
        go_roundw
        case rel => exact ⟨k + 1, by omega, by go_num, by rw [← hn.out, drop_cons_of hy.out, idxF, hq.out]; rfl, hB1⟩
        case measure => simp [intOf]; omega
      · go_wp2_with fail
        go_ret
        exact ⟨by rw [← hn.out, drop_cons_of hy.out, idxF, hq.out]; rfl, hB1.out⟩
    · go_wp2_with fail
      go_ret
      exact ⟨by rw [← hn.out, List.drop_of_length_le (by have := hlen.out; omega)]; rfl, hB.out⟩

theorem containsFunc_rows (A : Option Addr) (n c : Nat) (xss : List (List Int)) (w : World) (h : Grid w A n c xss) (g : Nat) (lb : Array Value) (eg : Enters Try.prog g) (p : List Int → Bool) (hp : PredR g lb xss p w) (r : Bool) (hr : Hid (xss.any p = r)) :
    Calls Try.prog 46 #[.slice A n c, .func (.func g) #[] lb] w (RetV (.bool r) w) := by
  have HP := Lib.hid hp
  clear hp
  obtain ⟨q, hq⟩ : ∃ q, Hid (idxF p xss 0 = q) := ⟨_, rfl⟩
  have e := idxF_any p xss 0
  rw [hq.out, hr.out] at e
  subst e
  go_enter Try.func46, Try.ntmps46
  go_wp2_with fail
  refine (indexFunc_rows _ _ _ _ _ h _ _ eg p HP.out q hq).mono ?_
  rintro e w1 ⟨rfl, hb1⟩
  go_wp2_with fail
  go_ret
  exact ⟨rfl, hb1⟩

theorem all_row (A B : Option Addr) (n c m d : Nat) (xs : List Int) (a : List Bool) (b : Nat) (W : World) (hc : W.cell? ⟨b, 0, none⟩ = some (.slice B m d)) (h : Ints W A n c xs) (h' : Bools W B m d a) (hi : InLits m xs) :
    Calls Try.prog 88 #[.slice A n c, .pointer (some ⟨b, 0, none⟩)] W (RetV (.bool (!satB a xs)) W) := by
  obtain ⟨r, hr⟩ : ∃ r, Hid (satB a xs = r) := ⟨_, rfl⟩
  rw [hr.out]
  have HI := Lib.hid hi
  clear hi
  go_enter Try.func88, Try.ntmps88
  go_wp2_with fail
  refine (sat_own _ _ _ _ _ _ _ _ _ h h' HI.out _ hr).mono ?_
  rintro e w1 ⟨rfl, hb1⟩
  go_wp2_with fail
  go_ret
  exact ⟨rfl, hb1⟩
theorem enters_all : Enters Try.prog 88 := enters_of Try.func88 (by kernel_rfl) rfl
theorem any_not_sat (xss : List (List Int)) (a : List Bool) : xss.any (fun xs => !satB a xs) = !allB xss a := by
  unfold allB
  rw [List.any_eq_not_all_not]
  simp

theorem all_own (A B : Option Addr) (n c m d : Nat) (xss : List (List Int)) (a : List Bool) (w : World) (h : Grid w A n c xss) (h' : Bools w B m d a) (hi : ∀ xs ∈ xss, InLits m xs) (r : Bool) (hr : Hid (allB xss a = r)) :
    Calls Try.prog 55 #[.slice A n c, .slice B m d] w (RetV (.bool r) w) := by
  have hk := h.keep (below_new w (.cells #[.slice B m d] 38))
  have hk' := h'.keep (below_new w (.cells #[.slice B m d] 38))
  have HP : Hid (PredR 88 #[.pointer (some ⟨w.heap.size, 0, none⟩)] xss (fun xs => !satB a xs) (w.alloc (.cells #[.slice B m d] 38))) := by
    intro W A n c xs hW hxs hx
    exact all_row A B n c m d xs a w.heap.size W (keepBox hW (by simp [go_sem])) hxs (hk'.keep hW) (hi xs hx)
  have HI := Lib.hid hi
  clear hi
  have HR : Hid (xss.any (fun xs => !satB a xs) = !r) := by rw [any_not_sat, hr.out]; rfl
  go_enter Try.func55, Try.ntmps55
  go_wp2_with fail
  refine (containsFunc_rows _ _ _ _ _ hk _ _ enters_all _ HP.out _ HR).mono ?_
  rintro e w1 ⟨rfl, hb1⟩
  have HB := Lib.hid (below_box hb1).1
  clear hb1
  cases r
  all_goals
    go_wp2_with fail
    go_ret
    exact ⟨rfl, HB.out⟩

set_option maxHeartbeats 1000000 in
theorem sat_ref (A B : Option Addr) (n c m d : Nat) (xs : List Int) (a : List Bool) (w : World) (h : Ints w A n c xs) (h' : Bools w B m d a) (hi : InLits m xs) (r : Bool) (hr : Hid (satB a xs = r)) :
    Calls Try.prog 23 #[.slice B m d, .slice A n c] w (RetQ (.bool r) w) := by
  have hbd := h.bd
  have hbd' := h'.bd
  have hlen := Lib.hid h.len
  have HI := Lib.hid hi
  clear hi
  go_enter Try.func23, Try.ntmps23
  go_wp2_with fail
  go_loop [5] (fun i => ∃ k : Nat, k ≤ n ∧ i = .int .i64 k ∧ Hid (satB a (xs.drop k) = r)) (fun i => n - (intOf i).toNat)
  case atStart => exact ⟨0, Nat.zero_le _, rfl, hr.out⟩
  case round =>
    obtain ⟨k, hk, rfl, hn⟩ := hrel
    by_cases hlt : k < n
    · obtain ⟨b, off, x, rfl, hb, hcell, x1, x2, hy⟩ := h.round hlt
      have hx := HI.out x (List.mem_of_getElem? hy.out)
      obtain ⟨j, hj⟩ : ∃ j : Nat, x.natAbs = j + 1 := ⟨x.natAbs - 1, by omega⟩
      have hjm : j < m := by omega
      obtain ⟨b', off', y, rfl, hb', hcell', hy'⟩ := h'.round (k := j) hjm
      have hn2 : Hid (((y == decide (0 < x)) || satB a (xs.drop (k + 1))) = r) := by
        have := hn.out
        rw [drop_cons_of hy.out, satB, List.any_cons, litB, hj, show j + 1 - 1 = j by omega, hy'.out] at this
        exact this
      have z5 : (j : Int) < (m : Int) := by omega
      have z6 : (0 : Int) ≤ (j : Int) := by omega
      by_cases hpos : 0 < x
      · have z4 : x - 1 = (j : Int) := by omega
        have z7 : ¬ x < 0 := by omega
        have hn3 : Hid ((y || satB a (xs.drop (k + 1))) = r) := by
          have := hn2.out
          rw [show decide (0 < x) = true from decide_eq_true hpos] at this
          cases y <;> exact this
        clear hj hx hn2
        cases y
        · go_wp2_with fail
          go_round
          case rel => exact ⟨k + 1, by omega, by go_num, by have := hn3.out; simp at this; exact this⟩
          case measure => simp [intOf]; omega
        · have : true = r := by rw [← hn3.out]; rfl
          subst this
          go_wp2_with fail
          go_ret
          exact RetQ.of0 rfl
      · have z4 : -x - 1 = (j : Int) := by omega
        have z7 : x < 0 := by omega
        have hn3 : Hid (((!y) || satB a (xs.drop (k + 1))) = r) := by
          have := hn2.out
          rw [show decide (0 < x) = false from decide_eq_false hpos] at this
          cases y <;> exact this
        have z9 : -(m : Int) ≤ x := hx.2.1
        clear hj hx hn2
        cases y
        · have : true = r := by rw [← hn3.out]; rfl
          subst this
          go_wp2_with fail
          go_ret
          exact RetQ.of0 rfl
        · go_wp2_with fail
          go_round
          case rel => exact ⟨k + 1, by omega, by go_num, by have := hn3.out; simp at this; exact this⟩
          case measure => simp [intOf]; omega
    · have : false = r := by rw [← hn.out, List.drop_of_length_le (by have := hlen.out; omega)]; rfl
      subst this
      go_wp2_with fail
      go_ret
      exact RetQ.of0 rfl

set_option maxHeartbeats 400000 in
theorem all_ref (A B : Option Addr) (n c m d : Nat) (xss : List (List Int)) (a : List Bool) (w : World) (h : Grid w A n c xss) (h' : Bools w B m d a) (hi : ∀ xs ∈ xss, InLits m xs) (r : Bool) (hr : Hid (allB xss a = r)) :
    Calls Try.prog 22 #[.slice A n c, .slice B m d] w (RetQ (.bool r) w) := by
  have hbd := h.bd
  have hlen := Lib.hid h.len
  have HI := Lib.hid hi
  clear hi
  go_enter Try.func22, Try.ntmps22
  go_wp2_with fail
  go_loopw [5] (fun i wr => ∃ k : Nat, k ≤ n ∧ i = .int .i64 k ∧ Hid (allB (xss.drop k) a = r) ∧ Hid (∃ m, wr = w.drewN m)) (fun i _ => n - (intOf i).toNat)
  case atStart => exact ⟨0, Nat.zero_le _, rfl, hr.out, ⟨0, rfl⟩⟩
  case round =>
    obtain ⟨k, hk, rfl, hn, hB⟩ := hrel
    have hx : Grid wr A n c xss := by obtain ⟨m, rfl⟩ := hB.out; exact h.drewN m
    have hx' : Bools wr B m d a := by obtain ⟨m, rfl⟩ := hB.out; exact h'.drewN m
    by_cases hlt : k < n
    · obtain ⟨b, off, A', n', c', xs, rfl, hb, hcell, hi, hy⟩ := hx.round hlt
      obtain ⟨q, hq⟩ : ∃ q, Hid (satB a xs = q) := ⟨_, rfl⟩
      have hn2 : Hid ((q && allB (xss.drop (k + 1)) a) = r) := by
        have := hn.out
        rw [drop_cons_of hy.out, allB, List.all_cons, hq.out] at this
        exact this
      go_wp2_with fail
      refine (sat_ref _ _ _ _ _ _ _ _ _ hi hx' (HI.out xs (List.mem_of_getElem? hy.out)) _ hq).mono ?_
      rintro e w1 ⟨rfl, m1, rfl⟩
      cases q
      · have : false = r := by rw [← hn2.out]; rfl
        subst this
        go_wp2_with fail
        go_ret
        obtain ⟨m2, rfl⟩ := hB.out
        rw [World.drewN_drewN]
        exact RetQ.of _ rfl
      · go_wp2_with fail
        go_roundw
        case rel => exact ⟨k + 1, by omega, by go_num, by have := hn2.out; simp at this; exact this, by obtain ⟨m, rfl⟩ := hB.out; exact ⟨_, World.drewN_drewN _ _ _⟩⟩
        case measure => simp [intOf]; omega
    · have : true = r := by rw [← hn.out, List.drop_of_length_le (by have := hlen.out; omega)]; rfl
      subst this
      go_wp2_with fail
      go_ret
      obtain ⟨m2, rfl⟩ := hB.out
      exact RetQ.of _ rfl
end Go.Proofs.Ytecgmgidfjbamaa
