/- Contract of slices.DeleteFunc at ints with any closure that only reads. -/
import Derived.Test.YtlfgcblijfflfaaGreatClone
import Derived.Test.YtlfgcblijfflfaaGreatPool
import Derived.Test.YtlfgcblijfflfaaGreatCellsW
import Derived.Lib.SliceRun
import Derived.Deep.Upon
import Derived.Shelf.SlSortFuncK.RowK2
import Derived.Test.YtlfgcblijfflfaaGreatSlices
namespace Go.Proofs.YtlfgcblijfflfaaGreat
open Go.RowKit
set_option linter.unusedSimpArgs false

theorem idxF_cutP (p : Int → Bool) : ∀ (xs : List Int) (k : Nat), (idxF p xs k = -1 ∧ xs.filter (fun y => !p y) = xs) ∨ ∃ i, idxF p xs k = (k + i : Nat) ∧ i < xs.length ∧ (xs.take (i + 1)).filter (fun y => !p y) = xs.take i
  | [], _ => .inl ⟨rfl, rfl⟩
  | y :: t, k => by
    rw [idxF]
    cases h : p y
    · rcases idxF_cutP p t (k + 1) with ⟨h1, h2⟩ | ⟨i, h1, h2, h3⟩
      · exact .inl ⟨by simpa using h1, by rw [List.filter_cons, h, h2]; rfl⟩
      · refine .inr ⟨i + 1, by simp only [Bool.false_eq_true, if_false]; rw [h1]; congr 1; omega, by simpa using h2, ?_⟩
        rw [List.take_succ_cons, List.filter_cons, h, h3]
        rfl
    · exact .inr ⟨0, by simp, by simp, by simp [h]⟩
theorem Own.clearedG {e : TypeId} {w : World} {base n c g p : Nat} {xs : List Value} (h : Own e w base (some ⟨g, 0, none⟩) n c xs) (hp : p ≤ n) (l : List Value) : Own e (w.setCells g p l) base (some ⟨g, 0, none⟩) p c (xs.take p) := by
  rcases h.form with ⟨h0, _⟩ | ⟨g', cur, h0, hg, hh, hle, hcm, hsz, htk⟩
  · cases h0
  · cases h0
    obtain ⟨cur', k1, k2, k3⟩ := heap_setCells g l p w hh
    refine ⟨by simp [h.len]; omega, .inr ⟨g, c, cur', rfl, hg, k1, by omega, hcm, by omega, ?_⟩⟩
    apply List.ext_getElem?
    intro k
    by_cases hk : k < p
    · have e1 : (xs.take p)[k]? = xs[k]? := List.getElem?_take_of_lt hk
      rw [List.getElem?_take_of_lt (by simpa using hk), e1, ← htk, List.getElem?_take_of_lt (by omega), Array.getElem?_toList, Array.getElem?_toList, k3 k hk]
    · rw [List.getElem?_eq_none (by simp; omega), List.getElem?_eq_none (by simp; omega)]
theorem grown_transG {a b c : World} {row : Option Nat} (h : a.grownBy b row) (h' : b.grownBy c row) : a.grownBy c row :=
  ⟨h'.os.trans h.os, h'.tape.trans h.tape, h'.output.trans h.output, Nat.le_trans h.size h'.size, fun k hk hne => (h'.block k (Nat.lt_of_lt_of_le hk h.size) hne).trans (h.block k hk hne)⟩
theorem grown_belowG {a b : World} (h : Below a.heap.size a b) (row : Option Nat) : a.grownBy b row := ⟨h.1, h.2, h.3, h.4, fun k hk _ => h.block k hk⟩

set_option maxHeartbeats 4000000 in
set_option maxRecDepth 100000 in
theorem deleteFunc_some (fx : Nat) (ef : Enters Tryz.prog fx) (lb : Value) (base g n c : Nat) (xs : List Int) (p : Int → Bool) (w : World) (h : Own 3 w base (some ⟨g, 0, none⟩) n c (xs.map (Value.int .i64))) (hi : ∀ z ∈ xs, I64 z)
    (hp : ∀ W y, w.grownBy W (some g) → y ∈ xs → Calls Tryz.prog fx #[.int .i64 y, lb] W (RetQ (.bool (p y)) W)) (hn : n ≤ 1000000) :
    Calls Tryz.prog 26 #[.slice (some ⟨g, 0, none⟩) n c, .func (.func fx) #[] #[lb]] w fun e w' => ∃ n', e = .returned (.slice (some ⟨g, 0, none⟩) n' c) ∧ Own 3 w' base (some ⟨g, 0, none⟩) n' c ((xs.filter (fun y => !p y)).map (Value.int .i64)) ∧ w.grownBy w' (some g) := by
  have hI := h.ints hi
  have hbd := hI.bd
  have hlen := Lib.hid hI.len
  have H := Lib.hid h
  have ed : ∀ args w, (callFunc fx args).run Tryz.prog w = .ok (.enter fx args) w := ef
  have HPR := Lib.hid hp
  have hgb : Hid (base ≤ g) := by
    rcases h.form with ⟨h0, _⟩ | ⟨g', cur, h0, hg, _⟩
    · cases h0
    · cases h0; exact hg
  have HP : Hid (Pred fx #[lb] xs p w) := fun W y hW hy => (hp W y (grown_belowG hW (some g)) hy).mono fun _ _ hh => hh.v
  have HX := Lib.hid hI
  have HI := Lib.hid hi
  obtain ⟨r, hr⟩ : ∃ r, Hid (idxF p xs 0 = r) := ⟨_, rfl⟩
  have hcut := Lib.hid (idxF_cutP p xs 0)
  clear h hI hi hp
  go_enter Tryz.func26, Tryz.ntmps26
  go_wp2_with fail
  refine (indexFunc_ints _ _ _ xs w HX.out _ _ ef _ HP.out r hr).mono ?_
  rintro e w1 ⟨rfl, hb1⟩
  have O1 := Lib.hid (H.out.keep hb1)
  have G1 := Lib.hid (grown_belowG hb1 (some g))
  clear hb1 HP
  rcases hcut.out with ⟨h1, h2⟩ | ⟨i, h1, hilt, h3⟩
  · obtain rfl : -1 = r := by rw [← hr.out, h1]
    go_wp2_with fail
    go_ret
    exact ⟨n, rfl, by rw [h2]; exact O1.out, G1.out⟩
  · rw [Nat.zero_add] at h1
    obtain rfl : (i : Int) = r := by rw [← hr.out, h1]
    have hin : i < n := by rw [hlen.out] at hilt; exact hilt
    have H3 := Lib.hid h3
    have di : ((i : Int) == -1) = false := by rw [beq_eq_false_iff_ne]; omega
    clear h1 h3 hilt hcut
    go_wp2_with fail
    go_loopw [5, 6] (fun a b wr => ∃ (pp q : Nat) (ys : List Int), pp < q ∧ q ≤ n ∧ a = .int .i64 pp ∧ b = .int .i64 q ∧ Hid (Own 3 wr base (some ⟨g, 0, none⟩) n c (ys.map (Value.int .i64))) ∧ Hid (∀ z ∈ ys, I64 z) ∧ Hid (w.grownBy wr (some g)) ∧ Hid (ys.take pp = (xs.take q).filter (fun y => !p y) ∧ ys.drop q = xs.drop q)) (fun _ b _ => n - (intOf b).toNat)
    case atStart => exact ⟨i, i + 1, xs, by omega, by omega, rfl, by first | rfl | go_num, O1, HI, G1, H3.out.symm, rfl⟩
    case round =>
      obtain ⟨pp, q, ys, hpq, hqn, rfl, rfl, hO, hY, hG, hE⟩ := hrel
      have hyl : Hid (ys.length = n) := by have := hO.out.len; rw [List.length_map] at this; exact this
      by_cases hqlt : q < n
      · obtain ⟨g1, u, hge, _, hgl, hcu, hfu, huk⟩ := hO.out.at_ hqlt
        cases hge
        obtain ⟨g1, u2, hge, _, _, hcp, hfp, _⟩ := hO.out.at_ (k := pp) (by omega)
        cases hge
        rw [List.getElem?_map] at huk
        obtain ⟨y, hyq, rfl⟩ := Option.map_eq_some_iff.1 huk.out
        have HYQ := Lib.hid hyq
        have hxo : Hid (xs[q]? = some y) := by have h1 := hE.out.2; have h2 := congrArg (fun l => l[0]?) h1; simp only [List.getElem?_drop, Nat.add_zero] at h2; rw [← h2]; exact hyq
        have hyI := hY.out y (List.mem_of_getElem? hyq)
        have hdr : Hid (ys.drop (q + 1) = xs.drop (q + 1)) := by have h1 := hE.out.2; have h2 := congrArg (List.drop 1) h1; rw [List.drop_drop, List.drop_drop] at h2; exact h2
        have hft : Hid ((xs.take (q + 1)).filter (fun y => !p y) = ys.take pp ++ (if p y then [] else [y])) := by
          rw [take_snoc_of hxo.out, List.filter_append, ← hE.out.1]
          cases hyx : (p y)
          · simp [hyx, Hid]
          · simp [hyx, Hid]
        have y1 : (0 : Int) ≤ (q : Int) := by omega
        have y2 : (q : Int) < (n : Int) := by omega
        have y3 : (0 : Int) ≤ (pp : Int) := by omega
        have y4 : (pp : Int) < (n : Int) := by omega
        have HXO := hxo
        clear hyq huk hxo hE
        go_wp2_with fail
        refine (HPR.out wr y hG.out (List.mem_of_getElem? HXO.out)).mono ?_
        rintro e w3 ⟨rfl, m3, hw3⟩
        have hb3 : Below wr.heap.size wr w3 := by rw [hw3]; exact below_drewN _ _
        have O3 := Lib.hid (hO.out.keep hb3)
        have G3 := Lib.hid (grown_transG hG.out (grown_belowG hb3 (some g)))
        have cp3 := keepBox hb3 hcp
        have fp3 : w3.frozen? ⟨g, pp, none⟩ = false := by rw [hw3]; exact hfp
        have gl3 : g < w3.heap.size := (cell_lt cp3).1
        clear hw3 hb3 hcu hcp hfp hfu hgl
        cases hyx : (p y)
        · have O4 : Hid (Own 3 (w3.setCell ⟨g, pp, none⟩ (.int .i64 y)) base (some ⟨g, 0, none⟩) n c ((ys.set pp y).map (Value.int .i64))) := by rw [List.map_set]; exact O3.out.set_ pp _
          have G4 := Lib.hid (grown_transG G3.out (O3.out.grown_set pp (.int .i64 y)))
          have hE4 : Hid ((ys.set pp y).take (pp + 1) = (xs.take (q + 1)).filter (fun y => !p y) ∧ (ys.set pp y).drop (q + 1) = xs.drop (q + 1)) := by
            refine ⟨?_, ?_⟩
            · rw [hft.out, hyx, take_snoc_of (List.getElem?_set_self (by rw [hyl.out]; omega)), List.take_set_of_le (Nat.le_refl _)]; rfl
            · rw [List.drop_set_of_lt (by omega)]; exact hdr.out
          have hY4 : Hid (∀ z ∈ ys.set pp y, I64 z) := fun z hz => by
            rcases List.mem_or_eq_of_mem_set hz with hz | rfl
            · exact hY.out z hz
            · exact hyI
          go_wp2_with fail
          go_roundw
          case rel => exact ⟨pp + 1, q + 1, ys.set pp y, by omega, by omega, by go_num, by go_num, O4, hY4, G4, hE4⟩
          case measure => simp [intOf]; omega
        · have hE4 : Hid (ys.take pp = (xs.take (q + 1)).filter (fun y => !p y) ∧ ys.drop (q + 1) = xs.drop (q + 1)) := ⟨by rw [hft.out, hyx]; simp, hdr.out⟩
          go_wp2_with fail
          go_roundw
          case rel => exact ⟨pp, q + 1, ys, by omega, by omega, rfl, by go_num, O3, hY, G3, hE4⟩
          case measure => simp [intOf]; omega
      · have hres : Hid (ys.take pp = xs.filter (fun y => !p y)) := by have h1 := hE.out.1; rw [List.take_of_length_le (l := xs) (by rw [hlen.out]; omega)] at h1; exact h1
        have u1 : (c : Int) ≠ (pp : Int) := by omega
        have u2 : ¬ c = pp := by omega
        have u3 : (pp : Int) ≤ (n : Int) := by omega
        have u4 : (0 : Int) ≤ (pp : Int) := by omega
        have u5 : (pp : Int) ≤ (c : Int) := by omega
        have hcl : ∀ ty, (Builtin.clear_ #[22] ty #[.slice (some ⟨g, pp, none⟩) (n - pp) (c - pp)]).run Tryz.prog wr = .ok (.tuple #[]) (wr.setCells g pp (List.replicate (n - pp) (.int .i64 0))) := fun ty =>
          Lib.run_clear_slice wr _ _ ty _ Tryz.underlying22 (fun w => by kernel_rfl) rfl rfl g pp _ _ (by omega) (fun k hk => by
            obtain ⟨g1, u, hge, _, _, cz0, fz0, _⟩ := hO.out.at_ (k := pp + k) (by omega)
            cases hge
            rw [cz0]; rfl) (fun k hk => by
            obtain ⟨g1, u, hge, _, _, cz0, fz0, _⟩ := hO.out.at_ (k := pp + k) (by omega)
            cases hge
            exact fz0)
        have O5 : Hid (Own 3 (wr.setCells g pp (List.replicate (n - pp) (.int .i64 0))) base (some ⟨g, 0, none⟩) pp c ((xs.filter (fun y => !p y)).map (Value.int .i64))) := by
          have := hO.out.clearedG (p := pp) (by omega) (List.replicate (n - pp) (.int .i64 0))
          rw [← List.map_take, hres.out] at this
          exact this
        have G5 := Lib.hid (grown_transG hG.out (grown_setCells wr g pp (List.replicate (n - pp) (.int .i64 0))))
        go_wp2_with fail
        go_ret
        exact ⟨pp, rfl, O5.out, G5.out⟩

set_option maxHeartbeats 1000000 in
theorem deleteFunc_any (fx : Nat) (ef : Enters Tryz.prog fx) (lb : Value) (base n c : Nat) (A : Option Addr) (xs : List Int) (p : Int → Bool) (w : World) (h : Own 3 w base A n c (xs.map (Value.int .i64))) (hi : ∀ z ∈ xs, I64 z)
    (hp : ∀ W y, w.grownBy W (blockOf A) → y ∈ xs → Calls Tryz.prog fx #[.int .i64 y, lb] W (RetQ (.bool (p y)) W)) (hn : n ≤ 1000000) :
    Calls Tryz.prog 26 #[.slice A n c, .func (.func fx) #[] #[lb]] w fun e w' => ∃ n', e = .returned (.slice A n' c) ∧ Own 3 w' base A n' c ((xs.filter (fun y => !p y)).map (Value.int .i64)) ∧ w.grownBy w' (blockOf A) := by
  rcases h.form with ⟨h1, h2, h3, h4⟩ | ⟨k, cur, hA, _⟩
  · have hI := Lib.hid (h.ints hi)
    subst h1 h2 h3
    obtain rfl : xs = [] := by simpa using h4
    have HP : Hid (Pred fx #[lb] [] p w) := fun W y hW hy => by simp at hy
    clear h hp
    go_enter Tryz.func26, Tryz.ntmps26
    go_wp2_with fail
    refine (indexFunc_ints _ _ _ [] w hI.out _ _ ef _ HP.out (-1) rfl).mono ?_
    rintro e w1 ⟨rfl, hb1⟩
    go_wp2_with fail
    go_ret
    exact ⟨0, rfl, Own.nil _ _ _, grown_belowG hb1 _⟩
  · subst hA
    exact deleteFunc_some fx ef lb base k n c xs p w h hi hp hn
end Go.Proofs.YtlfgcblijfflfaaGreat
