/- Contract of the reference's Number. -/
import Derived.Test.YtabjbpkojbdgaaaDoorProg
import Derived.Test.YtabjbpkojbdgaaaDoorBase
import Derived.Test.YtabjbpkojbdgaaaDoorNumPlain
import Derived.Lib.IndexBytes
namespace Go.Proofs.YtabjbpkojbdgaaaDoor
open Go.RowKit
set_option linter.unusedSimpArgs false
set_option linter.unusedVariables false

theorem list_at {s : ByteArray} {l : List UInt8} (h : Hid (s.data.toList = l)) {k : Nat} {b : UInt8} (hb : l[k]? = some b) : ∃ hk : k < s.size, s[k]'hk = b := by
  have h' := h.out
  subst h'
  obtain ⟨hk, e⟩ := List.getElem?_eq_some_iff.1 hb
  rw [Array.length_toList] at hk
  refine ⟨hk, ?_⟩
  rw [Array.getElem_toList] at e
  exact e

set_option maxHeartbeats 1000000 in
set_option maxRecDepth 100000 in
theorem number_pos (s : ByteArray) (w : World) (hs : s.size ≤ 1000000) (r : Option Int) (hr : Hid (numF s.data.toList = r)) (hne : s.data.toList.head? ≠ some 45) :
    Calls Tryd.prog 23 #[.string s] w (RetQ (.tuple #[.int .i64 (r.getD 0), .bool r.isSome]) w) := by
  obtain ⟨l, hl⟩ : ∃ l, Hid (s.data.toList = l) := ⟨_, rfl⟩
  have hsz : s.size = l.length := by rw [← hl.out, Array.length_toList]; rfl
  rw [hl.out] at hr hne
  have HDG : Hid (dgsF l = l) := by unfold dgsF; rw [if_neg hne]; exact rfl
  have HSZ := Lib.hid hsz
  cases l with
  | nil =>
    have hrn : r = none := by rw [← hr.out]; rfl
    subst hrn
    have u1 : s.size = 0 := hsz
    clear hsz hne
    go_enter Tryd.func23, Tryd.ntmps23
    go_wp2_with fail
    exact bodyPost_ret (v := .tuple #[.int .i64 0, .bool false]) (by simp [results, Tryd.results23, go_sem]) rfl (RetQ.of0 rfl)
  | cons b t =>
    obtain ⟨hk, hb⟩ := list_at hl (k := 0) (b := b) rfl
    have hb45 : b ≠ 45 := by simpa using hne
    have d45 : ((b.toNat : Int) == 45) = false := beq_eq_false_iff_ne.2 fun e => hb45 (UInt8.toNat_inj.1 (by have : (45 : UInt8).toNat = 45 := rfl; omega))
    have u2 : (0 : Int) < (s.size : Int) := by omega
    by_cases h7 : 7 < s.size
    · have hrn : r = none := by rw [← hr.out, numF, if_pos (Or.inl (by omega))]
      subst hrn
      have u1 : (7 : Int) < (s.size : Int) := by omega
      clear hsz hne
      go_enter Tryd.func23, Tryd.ntmps23
      go_wp2_with fail
      exact bodyPost_ret (v := .tuple #[.int .i64 0, .bool false]) (by simp [results, Tryd.results23, go_sem]) rfl (RetQ.of0 rfl)
    · have u1 : ¬ (7 : Int) < (s.size : Int) := by omega
      have d0 : ((s.size : Int) == 0) = false := beq_eq_false_iff_ne.2 (by omega)
      by_cases hz : 1 < s.size ∧ b = 48
      · have hrn : r = none := by rw [← hr.out, numF, if_pos (Or.inr (Or.inr (Or.inl (by rw [HDG.out]; exact ⟨by omega, by rw [hz.2]; rfl⟩))))]
        subst hrn
        obtain ⟨hz1, rfl⟩ := hz
        have u3 : (1 : Int) < (s.size : Int) := by omega
        clear hsz hne
        go_enter Tryd.func23, Tryd.ntmps23
        go_wp2_with fail
        exact bodyPost_ret (v := .tuple #[.int .i64 0, .bool false]) (by simp [results, Tryd.results23, go_sem]) rfl (RetQ.of0 rfl)
      · have HZ := Lib.hid hz
        have dq : (s.toList == [45, 48]) = false := by rw [ByteArray.toList_eq, hl.out]; exact beq_eq_false_iff_ne.2 (fun e => hb45 (List.cons.inj e).1)
        by_cases h1 : 1 < s.size
        · have u3 : (1 : Int) < (s.size : Int) := by omega
          have d48 : ((b.toNat : Int) == 48) = false := beq_eq_false_iff_ne.2 fun e => hz ⟨h1, UInt8.toNat_inj.1 (by have : (48 : UInt8).toNat = 48 := rfl; omega)⟩
          clear hz hsz hne
          go_enter Tryd.func23, Tryd.ntmps23
          go_wp2_with fail
          go_loop [5, 6] (fun a q => ∃ k acc : Nat, k ≤ s.size ∧ a = .int .i64 acc ∧ q = .int .i64 k ∧ acc < 10 ^ k ∧ Hid (valD acc ((b :: t).drop k) = valD 0 (b :: t)) ∧ Hid (((b :: t).drop k).all digB = (b :: t).all digB)) (fun _ q => s.size - (intOf q).toNat)
          case atStart => exact ⟨0, 0, Nat.zero_le _, rfl, rfl, by decide, rfl, rfl⟩
          case round =>
            obtain ⟨k, acc, hk1, rfl, rfl, hac, hv, ha⟩ := hrel
            by_cases hlt : k < s.size
            · have hkl : k < (b :: t).length := by rw [← HSZ.out]; exact hlt
              obtain ⟨c, hc⟩ : ∃ c, (b :: t)[k]? = some c := ⟨_, List.getElem?_eq_getElem hkl⟩
              obtain ⟨hk2, hcs⟩ := list_at hl hc
              have hdr := drop_cons_of hc
              have hp : (10 : Nat) ^ k ≤ 10 ^ 6 := Nat.pow_le_pow_right (by omega) (by omega)
              have hp' : (10 : Nat) ^ 6 = 1000000 := by decide
              have hps := Nat.pow_succ 10 k
              have v1 : (k : Int) < (s.size : Int) := by omega
              have v2 : (0 : Int) ≤ (k : Int) := by omega
              by_cases hd : digB c = true
              · rw [digB_iff] at hd
                have w1 : ¬ (c.toNat : Int) < 48 := by omega
                have w2 : ¬ (57 : Int) < (c.toNat : Int) := by omega
                have hvN : Hid (valD (acc * 10 + (c.toNat - 48)) ((b :: t).drop (k + 1)) = valD 0 (b :: t)) := by have := hv.out; rw [hdr] at this; exact this
                have haN : Hid (((b :: t).drop (k + 1)).all digB = (b :: t).all digB) := by have := ha.out; rw [hdr, List.all_cons, digB_iff.2 hd, Bool.true_and] at this; exact this
                have hc256 : c.toNat < 256 := c.toNat_lt
                have hacc : acc < 1000000 := by omega
                have hacN : Hid (acc * 10 + (c.toNat - 48) < 10 ^ (k + 1)) := by show _ < _; omega
                clear hv ha hdr hp hp' hps hac hc hkl
                go_wp2_with fail
                go_round
                case rel => exact ⟨k + 1, acc * 10 + (c.toNat - 48), by omega, by go_num, by go_num, hacN.out, hvN, haN⟩
                case measure => simp [intOf] <;> omega
              · have hrn : r = none := by
                  rw [← hr.out]
                  unfold numF
                  have hall : (dgsF (b :: t)).all digB = false := by rw [HDG.out, ← ha.out, hdr, List.all_cons, show digB c = false from by simpa using hd]; rfl
                  split
                  · rfl
                  · rw [if_neg (by rw [hall]; simp)]
                subst hrn
                clear hv ha hdr hp hp' hps hac hc hkl
                by_cases hlo : c.toNat < 48
                · have w1 : (c.toNat : Int) < 48 := by omega
                  go_wp2_with fail
                  exact bodyPost_ret (v := .tuple #[.int .i64 0, .bool false]) (by simp [results, Tryd.results23, go_sem]) rfl (RetQ.of0 rfl)
                · have w1 : ¬ (c.toNat : Int) < 48 := by omega
                  have w2 : (57 : Int) < (c.toNat : Int) := by
                    have : ¬ (48 ≤ c.toNat ∧ c.toNat ≤ 57) := fun h => hd (digB_iff.2 h)
                    omega
                  go_wp2_with fail
                  exact bodyPost_ret (v := .tuple #[.int .i64 0, .bool false]) (by simp [results, Tryd.results23, go_sem]) rfl (RetQ.of0 rfl)
            · obtain rfl : k = s.size := by omega
              have hdn : (b :: t).drop s.size = [] := List.drop_of_length_le (by rw [HSZ.out]; exact Nat.le_refl _)
              have hvv : acc = valD 0 (b :: t) := by have := hv.out; rw [hdn] at this; exact this
              have hrs : r = some (acc : Int) := by
                rw [← hr.out]
                unfold numF
                have hall : (dgsF (b :: t)).all digB = true := by rw [HDG.out, ← ha.out, hdn]; rfl
                rw [if_neg, if_pos hall, if_neg (by simpa using hb45), HDG.out, hvv]
                rw [HDG.out]
                rintro (h | h | h | h)
                · have := HSZ.out; omega
                · cases h
                · exact HZ.out ⟨by have := HSZ.out; omega, by simpa using h.2⟩
                · exact hb45 (List.cons.inj h).1
              subst hrs
              clear hv ha hvv hdn hac
              go_wp2_with fail
              exact bodyPost_ret (v := .tuple #[.int .i64 acc, .bool true]) (by simp [results, Tryd.results23, go_sem]) rfl (RetQ.of0 rfl)
        · have u3 : ¬ (1 : Int) < (s.size : Int) := by omega
          clear hz hsz hne
          go_enter Tryd.func23, Tryd.ntmps23
          go_wp2_with fail
          go_loop [5, 6] (fun a q => ∃ k acc : Nat, k ≤ s.size ∧ a = .int .i64 acc ∧ q = .int .i64 k ∧ acc < 10 ^ k ∧ Hid (valD acc ((b :: t).drop k) = valD 0 (b :: t)) ∧ Hid (((b :: t).drop k).all digB = (b :: t).all digB)) (fun _ q => s.size - (intOf q).toNat)
          case atStart => exact ⟨0, 0, Nat.zero_le _, rfl, rfl, by decide, rfl, rfl⟩
          case round =>
            obtain ⟨k, acc, hk1, rfl, rfl, hac, hv, ha⟩ := hrel
            by_cases hlt : k < s.size
            · have hkl : k < (b :: t).length := by rw [← HSZ.out]; exact hlt
              obtain ⟨c, hc⟩ : ∃ c, (b :: t)[k]? = some c := ⟨_, List.getElem?_eq_getElem hkl⟩
              obtain ⟨hk2, hcs⟩ := list_at hl hc
              have hdr := drop_cons_of hc
              have hp : (10 : Nat) ^ k ≤ 10 ^ 6 := Nat.pow_le_pow_right (by omega) (by omega)
              have hp' : (10 : Nat) ^ 6 = 1000000 := by decide
              have hps := Nat.pow_succ 10 k
              have v1 : (k : Int) < (s.size : Int) := by omega
              have v2 : (0 : Int) ≤ (k : Int) := by omega
              by_cases hd : digB c = true
              · rw [digB_iff] at hd
                have w1 : ¬ (c.toNat : Int) < 48 := by omega
                have w2 : ¬ (57 : Int) < (c.toNat : Int) := by omega
                have hvN : Hid (valD (acc * 10 + (c.toNat - 48)) ((b :: t).drop (k + 1)) = valD 0 (b :: t)) := by have := hv.out; rw [hdr] at this; exact this
                have haN : Hid (((b :: t).drop (k + 1)).all digB = (b :: t).all digB) := by have := ha.out; rw [hdr, List.all_cons, digB_iff.2 hd, Bool.true_and] at this; exact this
                have hc256 : c.toNat < 256 := c.toNat_lt
                have hacc : acc < 1000000 := by omega
                have hacN : Hid (acc * 10 + (c.toNat - 48) < 10 ^ (k + 1)) := by show _ < _; omega
                clear hv ha hdr hp hp' hps hac hc hkl
                go_wp2_with fail
                go_round
                case rel => exact ⟨k + 1, acc * 10 + (c.toNat - 48), by omega, by go_num, by go_num, hacN.out, hvN, haN⟩
                case measure => simp [intOf] <;> omega
              · have hrn : r = none := by
                  rw [← hr.out]
                  unfold numF
                  have hall : (dgsF (b :: t)).all digB = false := by rw [HDG.out, ← ha.out, hdr, List.all_cons, show digB c = false from by simpa using hd]; rfl
                  split
                  · rfl
                  · rw [if_neg (by rw [hall]; simp)]
                subst hrn
                clear hv ha hdr hp hp' hps hac hc hkl
                by_cases hlo : c.toNat < 48
                · have w1 : (c.toNat : Int) < 48 := by omega
                  go_wp2_with fail
                  exact bodyPost_ret (v := .tuple #[.int .i64 0, .bool false]) (by simp [results, Tryd.results23, go_sem]) rfl (RetQ.of0 rfl)
                · have w1 : ¬ (c.toNat : Int) < 48 := by omega
                  have w2 : (57 : Int) < (c.toNat : Int) := by
                    have : ¬ (48 ≤ c.toNat ∧ c.toNat ≤ 57) := fun h => hd (digB_iff.2 h)
                    omega
                  go_wp2_with fail
                  exact bodyPost_ret (v := .tuple #[.int .i64 0, .bool false]) (by simp [results, Tryd.results23, go_sem]) rfl (RetQ.of0 rfl)
            · obtain rfl : k = s.size := by omega
              have hdn : (b :: t).drop s.size = [] := List.drop_of_length_le (by rw [HSZ.out]; exact Nat.le_refl _)
              have hvv : acc = valD 0 (b :: t) := by have := hv.out; rw [hdn] at this; exact this
              have hrs : r = some (acc : Int) := by
                rw [← hr.out]
                unfold numF
                have hall : (dgsF (b :: t)).all digB = true := by rw [HDG.out, ← ha.out, hdn]; rfl
                rw [if_neg, if_pos hall, if_neg (by simpa using hb45), HDG.out, hvv]
                rw [HDG.out]
                rintro (h | h | h | h)
                · have := HSZ.out; omega
                · cases h
                · exact HZ.out ⟨by have := HSZ.out; omega, by simpa using h.2⟩
                · exact hb45 (List.cons.inj h).1
              subst hrs
              clear hv ha hvv hdn hac
              go_wp2_with fail
              exact bodyPost_ret (v := .tuple #[.int .i64 acc, .bool true]) (by simp [results, Tryd.results23, go_sem]) rfl (RetQ.of0 rfl)

set_option maxHeartbeats 1000000 in
set_option maxRecDepth 100000 in
theorem number_neg (s : ByteArray) (w : World) (hs : s.size ≤ 1000000) (r : Option Int) (hr : Hid (numF s.data.toList = r)) (hne : s.data.toList.head? = some 45) :
    Calls Tryd.prog 23 #[.string s] w (RetQ (.tuple #[.int .i64 (r.getD 0), .bool r.isSome]) w) := by
  obtain ⟨l, hls⟩ : ∃ l, Hid (s.data.toList = 45 :: l) := by
    cases h : s.data.toList with
    | nil => rw [h] at hne; cases hne
    | cons x t => rw [h] at hne; simp at hne; exact ⟨t, by rw [hne]; exact rfl⟩
  have hszs : s.size = l.length + 1 := by have := congrArg List.length hls.out; rw [Array.length_toList] at this; simpa using this
  obtain ⟨d, hd0⟩ : ∃ d, s.extract 1 s.size = d := ⟨_, rfl⟩
  have hl : Hid (d.data.toList = l) := by
    show _ = _
    rw [← hd0, Lib.extract_to_end, hls.out]
    rfl
  have hsz : d.size = l.length := by rw [← hl.out, Array.length_toList]; rfl
  rw [hls.out] at hr
  have HDG : Hid (dgsF (45 :: l) = l) := rfl
  have HSZ := Lib.hid hsz
  have HSS := Lib.hid hszs
  obtain ⟨hk0, hb0⟩ := list_at hls (k := 0) (b := 45) rfl
  have u0 : (0 : Int) < (s.size : Int) := by omega
  have u00 : (1 : Int) ≤ (s.size : Int) := by omega
  have hsd : s.size = d.size + 1 := by omega
  have HSD := Lib.hid hsd
  cases l with
  | nil =>
    have hrn : r = none := by rw [← hr.out]; rfl
    subst hrn
    have u1 : s.size = 1 := hszs
    have u2 : d.size = 0 := hsz
    clear hszs hsz hsd hne
    go_enter Tryd.func23, Tryd.ntmps23
    go_wp2_with fail
    exact bodyPost_ret (v := .tuple #[.int .i64 0, .bool false]) (by simp [results, Tryd.results23, go_sem]) rfl (RetQ.of0 rfl)
  | cons b t =>
    obtain ⟨hk, hb⟩ := list_at hl (k := 0) (b := b) rfl
    have u2 : (0 : Int) < (d.size : Int) := by omega
    by_cases h7 : 7 < s.size
    · have hrn : r = none := by rw [← hr.out, numF, if_pos (Or.inl (by have := HSS.out; simp at this ⊢; omega))]
      subst hrn
      have u1 : (7 : Int) < (s.size : Int) := by omega
      clear hszs hsz hsd hne
      go_enter Tryd.func23, Tryd.ntmps23
      go_wp2_with fail
      exact bodyPost_ret (v := .tuple #[.int .i64 0, .bool false]) (by simp [results, Tryd.results23, go_sem]) rfl (RetQ.of0 rfl)
    · have u1 : ¬ (7 : Int) < (s.size : Int) := by omega
      have d0 : ((d.size : Int) == 0) = false := beq_eq_false_iff_ne.2 (by omega)
      by_cases hz : 1 < d.size ∧ b = 48
      · have hrn : r = none := by rw [← hr.out, numF, if_pos (Or.inr (Or.inr (Or.inl (by rw [HDG.out]; exact ⟨by omega, by rw [hz.2]; rfl⟩))))]
        subst hrn
        obtain ⟨hz1, rfl⟩ := hz
        have u3 : (1 : Int) < (d.size : Int) := by omega
        clear hszs hsz hsd hne
        go_enter Tryd.func23, Tryd.ntmps23
        go_wp2_with fail
        exact bodyPost_ret (v := .tuple #[.int .i64 0, .bool false]) (by simp [results, Tryd.results23, go_sem]) rfl (RetQ.of0 rfl)
      · have HZ := Lib.hid hz
        by_cases h48' : b :: t = [48]
        · have hrn : r = none := by rw [← hr.out, h48', numF, if_pos (Or.inr (Or.inr (Or.inr rfl)))]
          subst hrn
          have dq : (s.toList == [45, 48]) = true := by rw [ByteArray.toList_eq, hls.out, h48']; rfl
          have u3 : ¬ (1 : Int) < (d.size : Int) := by have := HSZ.out; rw [h48'] at this; simp at this; omega
          clear hszs hsz hsd hne hz
          go_enter Tryd.func23, Tryd.ntmps23
          go_wp2_with fail
          exact bodyPost_ret (v := .tuple #[.int .i64 0, .bool false]) (by simp [results, Tryd.results23, go_sem]) rfl (RetQ.of0 rfl)
        · have h48 := Lib.hid h48'
          have hd6 : d.size ≤ 6 := by omega
          have dq : (s.toList == [45, 48]) = false := by rw [ByteArray.toList_eq, hls.out]; exact beq_eq_false_iff_ne.2 (fun e => h48' (List.cons.inj e).2)
          by_cases h1 : 1 < d.size
          · have u3 : (1 : Int) < (d.size : Int) := by omega
            have d48 : ((b.toNat : Int) == 48) = false := beq_eq_false_iff_ne.2 fun e => hz ⟨h1, UInt8.toNat_inj.1 (by have : (48 : UInt8).toNat = 48 := rfl; omega)⟩
            clear hz hsz hne hszs hsd h48'
            go_enter Tryd.func23, Tryd.ntmps23
            go_wp2_with fail
            go_loop [5, 6] (fun a q => ∃ k acc : Nat, k ≤ d.size ∧ a = .int .i64 acc ∧ q = .int .i64 k ∧ acc < 10 ^ k ∧ Hid (valD acc ((b :: t).drop k) = valD 0 (b :: t)) ∧ Hid (((b :: t).drop k).all digB = (b :: t).all digB)) (fun _ q => d.size - (intOf q).toNat)
            case atStart => exact ⟨0, 0, Nat.zero_le _, rfl, rfl, by decide, rfl, rfl⟩
            case round =>
              obtain ⟨k, acc, hk1, rfl, rfl, hac, hv, ha⟩ := hrel
              by_cases hlt : k < d.size
              · have hkl : k < (b :: t).length := by rw [← HSZ.out]; exact hlt
                obtain ⟨c, hc⟩ : ∃ c, (b :: t)[k]? = some c := ⟨_, List.getElem?_eq_getElem hkl⟩
                obtain ⟨hk2, hcs⟩ := list_at hl hc
                have hdr := drop_cons_of hc
                have hp : (10 : Nat) ^ k ≤ 10 ^ 6 := Nat.pow_le_pow_right (by omega) (by omega)
                have hp' : (10 : Nat) ^ 6 = 1000000 := by decide
                have hps := Nat.pow_succ 10 k
                have v1 : (k : Int) < (d.size : Int) := by omega
                have v2 : (0 : Int) ≤ (k : Int) := by omega
                by_cases hd : digB c = true
                · rw [digB_iff] at hd
                  have w1 : ¬ (c.toNat : Int) < 48 := by omega
                  have w2 : ¬ (57 : Int) < (c.toNat : Int) := by omega
                  have hvN : Hid (valD (acc * 10 + (c.toNat - 48)) ((b :: t).drop (k + 1)) = valD 0 (b :: t)) := by have := hv.out; rw [hdr] at this; exact this
                  have haN : Hid (((b :: t).drop (k + 1)).all digB = (b :: t).all digB) := by have := ha.out; rw [hdr, List.all_cons, digB_iff.2 hd, Bool.true_and] at this; exact this
                  have hc256 : c.toNat < 256 := c.toNat_lt
                  have hacc : acc < 1000000 := by omega
                  have hacN : Hid (acc * 10 + (c.toNat - 48) < 10 ^ (k + 1)) := by show _ < _; omega
                  clear hv ha hdr hp hp' hps hac hc hkl
                  go_wp2_with fail
                  go_round
                  case rel => exact ⟨k + 1, acc * 10 + (c.toNat - 48), by omega, by go_num, by go_num, hacN.out, hvN, haN⟩
                  case measure => simp [intOf] <;> omega
                · have hrn : r = none := by
                    rw [← hr.out]
                    unfold numF
                    have hall : (dgsF (45 :: b :: t)).all digB = false := by rw [HDG.out, ← ha.out, hdr, List.all_cons, show digB c = false from by simpa using hd]; rfl
                    split
                    · rfl
                    · rw [if_neg (by rw [hall]; simp)]
                  subst hrn
                  clear hv ha hdr hp hp' hps hac hc hkl
                  by_cases hlo : c.toNat < 48
                  · have w1 : (c.toNat : Int) < 48 := by omega
                    go_wp2_with fail
                    exact bodyPost_ret (v := .tuple #[.int .i64 0, .bool false]) (by simp [results, Tryd.results23, go_sem]) rfl (RetQ.of0 rfl)
                  · have w1 : ¬ (c.toNat : Int) < 48 := by omega
                    have w2 : (57 : Int) < (c.toNat : Int) := by
                      have : ¬ (48 ≤ c.toNat ∧ c.toNat ≤ 57) := fun h => hd (digB_iff.2 h)
                      omega
                    go_wp2_with fail
                    exact bodyPost_ret (v := .tuple #[.int .i64 0, .bool false]) (by simp [results, Tryd.results23, go_sem]) rfl (RetQ.of0 rfl)
              · obtain rfl : k = d.size := by omega
                have hac2 := Lib.hid hac
                have hdn : (b :: t).drop d.size = [] := List.drop_of_length_le (by rw [HSZ.out]; exact Nat.le_refl _)
                have hvv : acc = valD 0 (b :: t) := by have := hv.out; rw [hdn] at this; exact this
                have hrs : r = some (-(acc : Int)) := by
                  rw [← hr.out]
                  unfold numF
                  have hall : (dgsF (45 :: b :: t)).all digB = true := by rw [HDG.out, ← ha.out, hdn]; rfl
                  rw [if_neg, if_pos hall, if_pos (show (45 :: b :: t).head? = some 45 from rfl), HDG.out, hvv]
                  rw [HDG.out]
                  rintro (h | h | h | h)
                  · have := HSZ.out; rw [List.length_cons] at h; omega
                  · cases h
                  · exact HZ.out ⟨by have := HSZ.out; omega, by simpa using h.2⟩
                  · exact h48.out (List.cons.inj h).2
                subst hrs
                clear hv ha hvv hdn hac
                have z9 : (d.size : Int) < (s.size : Int) := by have := HSD.out; omega
                have z8 : (acc : Int) ≤ 9999999 := by
                  have hp : (10 : Nat) ^ d.size ≤ 10 ^ 7 := Nat.pow_le_pow_right (by omega) (by omega)
                  have hp' : (10 : Nat) ^ 7 = 10000000 := by decide
                  have := hac2.out
                  omega
                go_wp2_with fail
                exact bodyPost_ret (v := .tuple #[.int .i64 (-(acc : Int)), .bool true]) (by simp [results, Tryd.results23, go_sem]) rfl (RetQ.of0 rfl)
          · have u3 : ¬ (1 : Int) < (d.size : Int) := by omega
            clear hz hsz hne hszs hsd h48'
            go_enter Tryd.func23, Tryd.ntmps23
            go_wp2_with fail
            go_loop [5, 6] (fun a q => ∃ k acc : Nat, k ≤ d.size ∧ a = .int .i64 acc ∧ q = .int .i64 k ∧ acc < 10 ^ k ∧ Hid (valD acc ((b :: t).drop k) = valD 0 (b :: t)) ∧ Hid (((b :: t).drop k).all digB = (b :: t).all digB)) (fun _ q => d.size - (intOf q).toNat)
            case atStart => exact ⟨0, 0, Nat.zero_le _, rfl, rfl, by decide, rfl, rfl⟩
            case round =>
              obtain ⟨k, acc, hk1, rfl, rfl, hac, hv, ha⟩ := hrel
              by_cases hlt : k < d.size
              · have hkl : k < (b :: t).length := by rw [← HSZ.out]; exact hlt
                obtain ⟨c, hc⟩ : ∃ c, (b :: t)[k]? = some c := ⟨_, List.getElem?_eq_getElem hkl⟩
                obtain ⟨hk2, hcs⟩ := list_at hl hc
                have hdr := drop_cons_of hc
                have hp : (10 : Nat) ^ k ≤ 10 ^ 6 := Nat.pow_le_pow_right (by omega) (by omega)
                have hp' : (10 : Nat) ^ 6 = 1000000 := by decide
                have hps := Nat.pow_succ 10 k
                have v1 : (k : Int) < (d.size : Int) := by omega
                have v2 : (0 : Int) ≤ (k : Int) := by omega
                by_cases hd : digB c = true
                · rw [digB_iff] at hd
                  have w1 : ¬ (c.toNat : Int) < 48 := by omega
                  have w2 : ¬ (57 : Int) < (c.toNat : Int) := by omega
                  have hvN : Hid (valD (acc * 10 + (c.toNat - 48)) ((b :: t).drop (k + 1)) = valD 0 (b :: t)) := by have := hv.out; rw [hdr] at this; exact this
                  have haN : Hid (((b :: t).drop (k + 1)).all digB = (b :: t).all digB) := by have := ha.out; rw [hdr, List.all_cons, digB_iff.2 hd, Bool.true_and] at this; exact this
                  have hc256 : c.toNat < 256 := c.toNat_lt
                  have hacc : acc < 1000000 := by omega
                  have hacN : Hid (acc * 10 + (c.toNat - 48) < 10 ^ (k + 1)) := by show _ < _; omega
                  clear hv ha hdr hp hp' hps hac hc hkl
                  go_wp2_with fail
                  go_round
                  case rel => exact ⟨k + 1, acc * 10 + (c.toNat - 48), by omega, by go_num, by go_num, hacN.out, hvN, haN⟩
                  case measure => simp [intOf] <;> omega
                · have hrn : r = none := by
                    rw [← hr.out]
                    unfold numF
                    have hall : (dgsF (45 :: b :: t)).all digB = false := by rw [HDG.out, ← ha.out, hdr, List.all_cons, show digB c = false from by simpa using hd]; rfl
                    split
                    · rfl
                    · rw [if_neg (by rw [hall]; simp)]
                  subst hrn
                  clear hv ha hdr hp hp' hps hac hc hkl
                  by_cases hlo : c.toNat < 48
                  · have w1 : (c.toNat : Int) < 48 := by omega
                    go_wp2_with fail
                    exact bodyPost_ret (v := .tuple #[.int .i64 0, .bool false]) (by simp [results, Tryd.results23, go_sem]) rfl (RetQ.of0 rfl)
                  · have w1 : ¬ (c.toNat : Int) < 48 := by omega
                    have w2 : (57 : Int) < (c.toNat : Int) := by
                      have : ¬ (48 ≤ c.toNat ∧ c.toNat ≤ 57) := fun h => hd (digB_iff.2 h)
                      omega
                    go_wp2_with fail
                    exact bodyPost_ret (v := .tuple #[.int .i64 0, .bool false]) (by simp [results, Tryd.results23, go_sem]) rfl (RetQ.of0 rfl)
              · obtain rfl : k = d.size := by omega
                have hac2 := Lib.hid hac
                have hdn : (b :: t).drop d.size = [] := List.drop_of_length_le (by rw [HSZ.out]; exact Nat.le_refl _)
                have hvv : acc = valD 0 (b :: t) := by have := hv.out; rw [hdn] at this; exact this
                have hrs : r = some (-(acc : Int)) := by
                  rw [← hr.out]
                  unfold numF
                  have hall : (dgsF (45 :: b :: t)).all digB = true := by rw [HDG.out, ← ha.out, hdn]; rfl
                  rw [if_neg, if_pos hall, if_pos (show (45 :: b :: t).head? = some 45 from rfl), HDG.out, hvv]
                  rw [HDG.out]
                  rintro (h | h | h | h)
                  · have := HSZ.out; rw [List.length_cons] at h; omega
                  · cases h
                  · exact HZ.out ⟨by have := HSZ.out; omega, by simpa using h.2⟩
                  · exact h48.out (List.cons.inj h).2
                subst hrs
                clear hv ha hvv hdn hac
                have z9 : (d.size : Int) < (s.size : Int) := by have := HSD.out; omega
                have z8 : (acc : Int) ≤ 9999999 := by
                  have hp : (10 : Nat) ^ d.size ≤ 10 ^ 7 := Nat.pow_le_pow_right (by omega) (by omega)
                  have hp' : (10 : Nat) ^ 7 = 10000000 := by decide
                  have := hac2.out
                  omega
                go_wp2_with fail
                exact bodyPost_ret (v := .tuple #[.int .i64 (-(acc : Int)), .bool true]) (by simp [results, Tryd.results23, go_sem]) rfl (RetQ.of0 rfl)

/-- Number. -/
theorem number_ref (s : ByteArray) (w : World) (hs : s.size ≤ 1000000) (r : Option Int) (hr : Hid (numF s.data.toList = r)) :
    Calls Tryd.prog 23 #[.string s] w (RetQ (.tuple #[.int .i64 (r.getD 0), .bool r.isSome]) w) := by
  by_cases h : s.data.toList.head? = some 45
  · exact number_neg s w hs r hr h
  · exact number_pos s w hs r hr h
end Go.Proofs.YtabjbpkojbdgaaaDoor
