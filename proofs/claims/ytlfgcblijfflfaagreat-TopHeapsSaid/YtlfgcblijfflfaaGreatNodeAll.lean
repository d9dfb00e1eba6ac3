/- NodeAll: the texts Known, NodeStep, NodSt, NodFr, Node, HCls in one. -/
import Derived.Test.YtlfgcblijfflfaaGreatHeapAll
import Derived.Test.YtlfgcblijfflfaaGreatSlices
import Derived.Maps.OwnSet
import Derived.DeepKeys4
import Derived.Test.YtlfgcblijfflfaaGreatSorted
import Derived.Test.YtlfgcblijfflfaaGreatCloneR
import Derived.Test.YtlfgcblijfflfaaGreatClone
import Derived.Test.YtlfgcblijfflfaaGreatTail
import Derived.BigQuiet
import Derived.Deep.OwnRows
/- A map from pairs of ints to ints of the call's own: the variables of the rests; the sums of weights from each literal on. -/
namespace Go.Proofs.YtlfgcblijfflfaaGreat
open Go.RowKit Go.Maps Go.WideMaps
set_option linter.unusedSimpArgs false
set_option linter.unusedVariables false

theorem keyOf_pair {P : Program} {k e : TypeId} (hk : P.underlying k = some (.array 2 e)) (he : P.underlying e = some (.int .i64)) (hkt : P.keyType k = true) (hc : P.cellsOf k = 2) (hce : P.cellsOf e = 1) (hsz : 0 < P.types.size) (x y : Int) (wx : (Lit.int .i64 x).wf = true) (wy : (Lit.int .i64 y).wf = true) :
    keyOf P k (.agg #[.int .i64 x, .int .i64 y]) = some (.string (keyBytes [.int .i64 x, .int .i64 y])) := by
  obtain ⟨m, hm⟩ : ∃ m, P.types.size = m + 1 := ⟨P.types.size - 1, by omega⟩
  have hf : (Value.agg #[.int .i64 x, .int .i64 y]).formed P k = true := by simp [Value.formed, hk, hc]
  have hcc : (Value.agg #[.int .i64 x, .int .i64 y]).cells.toList = [.int .i64 x, .int .i64 y] := rfl
  have h1 : P.keyLits (m + 1) e [.int .i64 x] = some [.int .i64 x] := by simp [Program.keyLits, he, wx]
  have h2 : P.keyLits (m + 1) e [.int .i64 y] = some [.int .i64 y] := by simp [Program.keyLits, he, wy]
  have h3 : P.keyLits (m + 1 + 1) k [.int .i64 x, .int .i64 y] = some [.int .i64 x, .int .i64 y] := by
    unfold Program.keyLits
    simp only [hk, hc, List.length_cons, List.length_nil, if_true]
    rw [show List.range 2 = [0, 1] from rfl]
    simp [hce, h1, h2]
  unfold keyOf
  simp only [hk, hkt, hf, hm, hcc, h3, Bool.and_self, if_true]
  rfl
theorem laidOut_k : laidOutB Tryz.prog = true := by kernel_rfl
theorem row_k : (127 : TypeId) < Tryz.prog.types.size := of_decide_eq_true (by kernel_rfl)
theorem wide_k : (match Tryz.prog.underlying 127 with | some (.array _ _) | some (.struct _) => true | _ => false) = true := by rw [Tryz.underlying127]
theorem deep_k : Tryz.prog.keyTypeAt 2 127 = true := by kernel_rfl
set_option maxRecDepth 100000 in
theorem keyed_k : Keyed Tryz.prog 127 := Keyed.of_law (deep_law_laid laidOut_k (m := 2) (by omega) row_k deep_k wide_k)
theorem zero_k (w : World) : (zeroValue 3).run Tryz.prog w = .ok (.int .i64 0) w := by kernel_rfl
/-- What the key of a rest reads as. -/
def kN (x y : Int) : Lit := .string (keyBytes [.int .i64 x, .int .i64 y])
theorem kN_of {x y : Int} (hx : I64 x) (hy : I64 y) : keyOf Tryz.prog 127 (.agg #[.int .i64 x, .int .i64 y]) = some (kN x y) :=
  keyOf_pair Tryz.underlying127 Tryz.underlying3 (by kernel_rfl) (by kernel_rfl) (by kernel_rfl) (Nat.lt_of_le_of_lt (Nat.zero_le _) row_k) x y (WalkArith.wf_i64 hx) (WalkArith.wf_i64 hy)
theorem kN_inj {x y x' y' : Int} (hx : I64 x) (hy : I64 y) (hx' : I64 x') (hy' : I64 y') (h : kN x y = kN x' y') : x = x' ∧ y = y' := by
  have h1 := kN_of hx hy
  have h2 := kN_of hx' hy'
  rw [h] at h1
  have := keyed_k.inj h1 h2
  simp at this
  exact this
/-- A map of rests of the call's own. -/
def MapN (w : World) (b n : Nat) (D : DataW Unit) : Prop := w.ownsMap Tryz.prog 127 (plainElem Tryz.prog 3) b n D
theorem MapN.keep {w w' : World} {b n : Nat} {D : DataW Unit} (h : MapN w b n D) (hb : w'.heap[b]? = w.heap[b]?) : MapN w' b n D := by
  obtain ⟨es, clock, h1, F, hs, hD⟩ := h
  exact ⟨es, clock, hb.trans h1, F, hs, hD⟩
theorem idN_app (l : List (Nat × Int)) (i : Nat) (a : Int) (j : Nat) (c : Int) : idN (l ++ [(i, a)]) j c = match idN l j c with | some k => some k | none => if (i, a) = (j, c) then some l.length else none := by
  induction l with
  | nil => simp [idN]
  | cons x r ih =>
    show (if x = (j, c) then some 0 else (idN (r ++ [(i, a)]) j c).map (· + 1)) = match (if x = (j, c) then some 0 else (idN r j c).map (· + 1)) with | some k => some k | none => if (i, a) = (j, c) then some (r.length + 1) else none
    rw [ih]
    by_cases e : x = (j, c)
    · simp [e]
    · simp only [e, if_false]
      cases idN r j c with
      | some k => rfl
      | none =>
        by_cases e2 : (i, a) = (j, c) <;> simp [e2]
/-- What is known of a rest: its variable, or none. -/
def knV (b : Nat) (ns : List (Nat × Int)) (i : Nat) (a : Int) : Int := match idN ns i a with | some k => (b : Int) + k + 1 | none => 0
/-- The map knows these rests. -/
def KnD (b : Nat) (D : DataW Unit) (ns : List (Nat × Int)) : Prop := (∀ (i : Nat) (a : Int), I64 i → I64 a → D.atKey (kN i a) (.lit (.int .i64 0)) = .lit (.int .i64 (knV b ns i a)) ∧ Maps.has D (kN i a) = (idN ns i a).isSome)
theorem KnD.put {w : World} {m n b : Nat} {D : DataW Unit} {ns : List (Nat × Int)} {i : Nat} {a v : Int} (h : MapN w m n D) (hD : KnD b D ns) (h0 : idN ns i a = none) (hi : I64 i) (ha : I64 a) (hv : v = (b : Int) + ns.length + 1) : KnD b (D.put (kN i a) (.lit (.int .i64 v))) (ns ++ [(i, a)]) := by
  have hm := (World.ownsMap.tidy h keyed_k).isMap
  have hk : WideAt.IsKeyLit (kN i a) := keyed_k.key (kN_of hi ha)
  intro j c hj hc
  by_cases e : (j, c) = (i, a)
  · obtain ⟨rfl, rfl⟩ := Prod.mk.inj e
    rw [Maps.atKey_put_same hm (k := kN j c) hk, Maps.has_put_same hm (k := kN j c) hk]
    unfold knV
    rw [idN_app, h0]
    simp [hv]
  · have hne : kN j c ≠ kN i a := fun e2 => by
      obtain ⟨e3, e4⟩ := kN_inj hj hc hi ha e2
      exact e (by rw [Int.ofNat.inj e3, e4])
    rw [Maps.atKey_put_other hne, Maps.has_put_other hne]
    have := hD j c hj hc
    unfold knV
    rw [idN_app]
    have e2 : ¬ (i, a) = (j, c) := fun e3 => e e3.symm
    simp only [e2, if_false]
    refine ⟨?_, ?_⟩
    · rw [this.1]
      unfold knV
      cases idN ns j c <;> rfl
    · rw [this.2]
      cases idN ns j c <;> rfl
theorem KnD.nil (b : Nat) : KnD b (.map []) [] := fun i a hi ha => ⟨rfl, rfl⟩
/-- The sums of weights from each literal on. -/
def mostF (ts : List (Int × Int)) : List Int := (List.range (ts.length + 1)).map fun j => wtT (ts.drop j)
def mostU (ts : List (Int × Int)) (i : Nat) : List Int := (List.range (ts.length + 1)).map fun j => if i ≤ j then wtT (ts.drop j) else 0
theorem most_at {ts : List (Int × Int)} {i : Nat} (h : i ≤ ts.length) : (mostF ts)[i]? = some (wtT (ts.drop i)) := by
  unfold mostF
  rw [List.getElem?_map, List.getElem?_range (by omega)]
  rfl
theorem most_end (ts : List (Int × Int)) : mostU ts ts.length = List.replicate (ts.length + 1) 0 := by
  refine List.ext_getElem (by simp [mostU]) fun k h1 h2 => ?_
  simp only [mostU, List.getElem_map, List.getElem_range, List.getElem_replicate]
  split
  · rw [List.drop_eq_nil_of_le (by assumption)]; rfl
  · rfl
theorem most_zero (ts : List (Int × Int)) : mostU ts 0 = mostF ts := by unfold mostU mostF; simp
theorem mostU_at {ts : List (Int × Int)} {i : Nat} (h : i + 1 ≤ ts.length) : (mostU ts (i + 1))[i + 1]? = some (wtT (ts.drop (i + 1))) := by
  unfold mostU
  rw [List.getElem?_map, List.getElem?_range (by omega)]
  simp
theorem most_step {ts : List (Int × Int)} {i : Nat} {t : Int × Int} (ht : ts[i]? = some t) : (mostU ts (i + 1)).set i (wtT (ts.drop (i + 1)) + t.2) = mostU ts i := by
  have hil := (List.getElem?_eq_some_iff.1 ht).1
  have hd : wtT (ts.drop i) = t.2 + wtT (ts.drop (i + 1)) := by
    rw [List.drop_eq_getElem_cons hil, (List.getElem?_eq_some_iff.1 ht).2]
    rfl
  refine List.ext_getElem (by simp [mostU]) fun k h1 h2 => ?_
  rw [List.getElem_set]
  simp only [mostU, List.getElem_map, List.getElem_range]
  split
  · rename_i e
    subst e
    rw [if_pos (Nat.le_refl _), hd]
    omega
  · by_cases h3 : i + 1 ≤ k
    · rw [if_pos h3, if_pos (by omega)]
    · rw [if_neg h3, if_neg (by omega)]
end Go.Proofs.YtlfgcblijfflfaaGreat

/- A rest's two ways, one after the other, plainly. -/
namespace Go.Proofs.YtlfgcblijfflfaaGreat
set_option linter.unusedSimpArgs false
set_option linter.unusedVariables false

/-- One way of a rest (y: 1 where the literal holds, 0 where it does not matter). -/
def stepN (ts : List (Int × Int)) (b f i : Nat) (a : Int) (t : Int × Int) (v y : Int) (st : Nst) : Nst :=
  ⟨(nodF ts b f (i + 1) (a - y * t.2) st).1.ns, adN (nodF ts b f (i + 1) (a - y * t.2) st).1.cs v (t.1 * (1 - 2 * y)) (nodF ts b f (i + 1) (a - y * t.2) st).2.1 (nodF ts b f (i + 1) (a - y * t.2) st).2.2⟩
/-- The state behind so many ways. -/
def stsN (ts : List (Int × Int)) (b f i : Nat) (a : Int) (t : Int × Int) (v : Int) (s : Nst) : Nat → Nst
  | 0 => ⟨s.ns ++ [(i, a)], s.cs⟩
  | j + 1 => stepN ts b f i a t v (1 - (j : Int)) (stsN ts b f i a t v s j)
theorem nodF_one {ts : List (Int × Int)} {b f i : Nat} {a : Int} {s : Nst} (h : a ≤ 0) : nodF ts b f i a s = (s, 1, true) := by
  unfold nodF
  rw [if_pos h]
theorem nodF_never {ts : List (Int × Int)} {b f i : Nat} {a : Int} {s : Nst} (h : 0 < a) (h2 : wtT (ts.drop i) < a) : nodF ts b f i a s = (s, -1, true) := by
  unfold nodF
  rw [if_neg (by omega), if_pos h2]
theorem nodF_known {ts : List (Int × Int)} {b f i k : Nat} {a : Int} {s : Nst} (h : 0 < a) (h2 : a ≤ wtT (ts.drop i)) (hk : idN s.ns i a = some k) : nodF ts b f i a s = (s, (b : Int) + k + 1, false) := by
  unfold nodF
  rw [if_neg (by omega), if_neg (by omega), hk]
theorem nodF_new {ts : List (Int × Int)} {b f i : Nat} {a : Int} {s : Nst} {t : Int × Int} (h : 0 < a) (h2 : a ≤ wtT (ts.drop i)) (hk : idN s.ns i a = none) (ht : ts[i]? = some t) :
    nodF ts b (f + 1) i a s = (stsN ts b f i a t ((b : Int) + s.ns.length + 1) s 2, (b : Int) + s.ns.length + 1, false) := by
  have e1 : a - (1 - ((0 : Nat) : Int)) * t.2 = a - t.2 := by simp
  have e2 : t.1 * (1 - 2 * (1 - ((0 : Nat) : Int))) = -t.1 := by simp
  have e3 : a - (1 - (((0 + 1 : Nat)) : Int)) * t.2 = a := by simp
  have e4 : t.1 * (1 - 2 * (1 - (((0 + 1 : Nat)) : Int))) = t.1 := by simp
  unfold nodF
  rw [if_neg (by omega), if_neg (by omega), hk, ht]
  show _ = (stepN ts b f i a t _ (1 - (((0 + 1 : Nat)) : Int)) (stepN ts b f i a t _ (1 - ((0 : Nat) : Int)) ⟨s.ns ++ [(i, a)], s.cs⟩), _, false)
  unfold stepN
  rw [e1, e2, e3, e4]
/-- What each state keeps. -/
structure StOk (ts : List (Int × Int)) (b i : Nat) (a : Int) (k0 c m : Nat) (st : Nst) : Prop where
  ok : NstOk ts b st
  at_ : st.ns[k0]? = some (i, a)
  cs : st.cs.length + c ≤ 2 * st.ns.length
  ns : st.ns.length ≤ m
theorem StOk.first {ts : List (Int × Int)} {b i : Nat} {a : Int} {s : Nst} {m : Nat} (h : NstOk ts b s) (hi : i < ts.length) (ha : 0 < a) (hc : s.cs.length ≤ 2 * s.ns.length) (hm : s.ns.length ≤ m) : StOk ts b i a s.ns.length 2 (m + 1) ⟨s.ns ++ [(i, a)], s.cs⟩ := by
  refine ⟨⟨fun c hc => ⟨(h.wf c hc).1.wide (by simp; omega), (h.wf c hc).2⟩, fun x hx => ?_, fun m hm => ?_⟩, by simp, by simp; omega, by simp; omega⟩
  · rcases List.mem_append.1 hx with hx | hx
    · exact h.rng x hx
    · rw [List.mem_singleton.1 hx]; exact ⟨ha, hi⟩
  · rw [allB_ext ts m s.ns _ hm (fun c hc => (h.wf c hc).1)]
    exact h.all m hm
theorem StOk.step {ts : List (Int × Int)} {b f i : Nat} {a v y : Int} {t : Int × Int} {k0 c m : Nat} {st : Nst} (h : StOk ts b i a k0 (c + 1) m st) (hb : 0 < b) (hpos : ∀ t ∈ ts, 0 < t.2) (hlt : ∀ t ∈ ts, t.1 ≠ 0 ∧ -(b : Int) ≤ t.1 ∧ t.1 ≤ b) (ht : ts[i]? = some t) (hf : ts.length ≤ i + 1 + f) (hv : v = (b : Int) + k0 + 1) (hy : y = 0 ∨ y = 1) :
    Ndd ts b (i + 1) (a - y * t.2) st (nodF ts b f (i + 1) (a - y * t.2) st).1 (nodF ts b f (i + 1) (a - y * t.2) st).2.1 (nodF ts b f (i + 1) (a - y * t.2) st).2.2 ∧
    (nodF ts b f (i + 1) (a - y * t.2) st).1.cs.length + (c + 1) ≤ 2 * (nodF ts b f (i + 1) (a - y * t.2) st).1.ns.length ∧
    (nodF ts b f (i + 1) (a - y * t.2) st).1.ns.length + 1 ≤ m + 2 ^ (ts.length - (i + 1)) ∧ StOk ts b i a k0 c (m + 2 ^ (ts.length - (i + 1)) - 1) (stepN ts b f i a t v y st) := by
  have hil := (List.getElem?_eq_some_iff.1 ht).1
  have htm := List.mem_of_getElem? ht
  have htl := hlt t htm
  have hdrop : ts.drop i = t :: ts.drop (i + 1) := by
    rw [List.drop_eq_getElem_cons hil]
    congr 1
    exact (List.getElem?_eq_some_iff.1 ht).2
  have d := nod_ok hb hpos hlt f (i + 1) (a - y * t.2) st h.ok hil (by omega)
  obtain ⟨x1, f1, g1⟩ := d.cs
  obtain ⟨l1, e1, _⟩ := d.ns
  have h1 := h.cs
  have h2 := h.ns
  have h3 := d.cnt
  have hk : (nodF ts b f (i + 1) (a - y * t.2) st).1.ns[k0]? = some (i, a) := by rw [e1, List.getElem?_append_left (List.getElem?_eq_some_iff.1 h.at_).1]; exact h.at_
  have hcl : (nodF ts b f (i + 1) (a - y * t.2) st).1.cs.length + (c + 1) ≤ 2 * (nodF ts b f (i + 1) (a - y * t.2) st).1.ns.length := by
    rw [f1, List.length_append]
    omega
  have hl2 : t.1 * (1 - 2 * y) ≠ 0 ∧ -(b : Int) ≤ t.1 * (1 - 2 * y) ∧ t.1 * (1 - 2 * y) ≤ b := by
    rcases hy with rfl | rfl
    · simp; omega
    · simp; omega
  obtain ⟨w1, ⟨x, z1, z2⟩, _, _⟩ := adN_ok (C := False) hb d (fun h => h.elim) (v := v) (l := t.1 * (1 - 2 * y)) (k0 := k0) hv hk hl2 (fun m _ hm => by
    rw [hdrop, sumT] at hm
    rcases hy with rfl | rfl
    · simp only [Int.mul_zero, Int.sub_zero, Int.mul_one, Int.zero_mul]
      cases hx : litB m t.1 with
      | true => exact .inl rfl
      | false => rw [hx] at hm; simp at hm; exact .inr hm
    · rw [show t.1 * (1 - 2 * 1) = -t.1 by omega, litB_neg _ htl.1, Int.one_mul]
      cases hx : litB m t.1 with
      | false => exact .inl rfl
      | true => rw [hx] at hm; simp at hm; exact .inr (by omega)) hpos hlt
  refine ⟨d, hcl, by omega, ⟨w1, hk, ?_, ?_⟩⟩
  · show (adN _ v _ _ _).length + c ≤ _
    rw [z1, List.length_append]
    show _ ≤ 2 * (nodF ts b f (i + 1) (a - y * t.2) st).1.ns.length
    omega
  · show (nodF ts b f (i + 1) (a - y * t.2) st).1.ns.length ≤ _
    omega
/-- The bounds of a call's result. -/
theorem ndd_bd {ts : List (Int × Int)} {b i : Nat} {a : Int} {s s' : Nst} {v : Int} {c : Bool} (h : Ndd ts b i a s s' v c) : -1 ≤ v ∧ v ≤ (b : Int) + s'.ns.length + 1 ∧ v ≠ 0 := by
  cases c with
  | true => rcases h.con rfl with ⟨rfl, _⟩ | ⟨rfl, _⟩ <;> omega
  | false =>
    obtain ⟨k, hk, hk2⟩ := h.var rfl
    have := (List.getElem?_eq_some_iff.1 hk2).1
    omega
end Go.Proofs.YtlfgcblijfflfaaGreat

/- The encoder of a sum: its state, and the contract of add. (Printed by wip/tools/nodst.py.) -/
namespace Go.Proofs.YtlfgcblijfflfaaGreat
open Go.RowKit
set_option linter.unusedSimpArgs false
set_option linter.unusedVariables false

theorem ownP_kN {e : TypeId} {w w' : World} {base low n c : Nat} {A : Option Addr} {xss : List (List Int)} {row : Option Nat} (h : OwnP 22 3 w base low A n c xss) (hg : w.grownBy w' row) (hr : ∀ k, row = some k → low ≤ k ∧ Typed e w k) (n1 : 22 ≠ e) (n2 : (3 : TypeId) ≠ e) : OwnP 22 3 w' base low A n c xss := by
  obtain ⟨vs, h1, h2⟩ := h
  refine ⟨vs, h1.kept hg ?_, h2.kept hg hr n2⟩
  cases row with
  | none => cases A with
    | none => exact .inl rfl
    | some a => exact .inr (by simp [blockOf])
  | some k => exact h1.ne_typed (hr k rfl).2 n1
/-- What was there is there, but for encoders and rows of rows. -/
def FrN (w w' : World) : Prop := w.heap.size ≤ w'.heap.size ∧ ∀ k, k < w.heap.size → ¬ Typed 101 w k → ¬ Typed 22 w k → w'.heap[k]? = w.heap[k]?
theorem FrN.of {w w' : World} (hb : Below w.heap.size w w') : FrN w w' := ⟨hb.size, fun k hk _ _ => hb.block k hk⟩
theorem FrN.grown {w w' : World} {row : Option Nat} (hg : w.grownBy w' row) (hr : ∀ k, row = some k → Typed 101 w k ∨ Typed 22 w k) : FrN w w' := ⟨hg.size, fun k hk h1 h2 => hg.block k hk (fun e => by rcases hr k e.symm with h | h; exact h1 h; exact h2 h)⟩
theorem FrN.trans {w w1 w2 : World} (h : FrN w w1) (h2 : FrN w1 w2) : FrN w w2 := ⟨Nat.le_trans h.1 h2.1, fun k hk a b => by
  have e1 := h.2 k hk a b
  have tt : ∀ t, Typed t w1 k → Typed t w k := fun t ⟨c, f, hc⟩ => ⟨c, f, by rw [← e1]; exact hc⟩
  rw [h2.2 k (Nat.lt_of_lt_of_le hk h.1) (fun hT => a (tt _ hT)) (fun hT => b (tt _ hT)), e1]⟩
theorem Blk.frN {w w' : World} {b : Nat} {t : TypeId} {cs : Array Value} (h : Blk w b t cs) (hf : FrN w w') (n1 : t ≠ 101) (n2 : t ≠ 22) : Blk w' b t cs :=
  (hf.2 b h.lt (fun hT => n1 (typed_one h hT)) (fun hT => n2 (typed_one h hT))).trans h
theorem Own.frN {w w' : World} {base n c : Nat} {A : Option Addr} {xs : List Value} (h : Own 3 w base A n c xs) (hf : FrN w w') : Own 3 w' base A n c xs := by
  refine ⟨h.1, ?_⟩
  rcases h.2 with h2 | ⟨g, cap, cur, hv, hg, hh, r⟩
  · exact .inl h2
  · exact .inr ⟨g, cap, cur, hv, hg, (hf.2 g (Array.getElem?_eq_some_iff.1 hh).1 (fun hT => absurd (typed_one hh hT) (by decide)) (fun hT => absurd (typed_one hh hT) (by decide))).trans hh, r⟩

/-- The words of an encoder that stay. -/
structure Nq where
  L : Option Addr
  cL : Nat
  O : Option Addr
  cO : Nat
  M : Option Addr
  cM : Nat
  a : Int
/-- The encoder's box and its clauses. -/
structure EncN (w0 w : World) (be bm : Nat) (q : Nq) (n : Nat) (vars : Int) (xss : List (List Int)) : Prop where
  b : Below w0.heap.size w0 w
  lo : w0.heap.size ≤ be
  e : ∃ C nC cC, Blk w be 101 #[.slice q.L n q.cL, .slice q.O n q.cO, .int .i64 q.a, .int .i64 vars, .slice C nC cC, .map (some bm), .slice q.M (n + 1) q.cM] ∧ OwnP 22 3 w w0.heap.size 0 C nC cC xss
theorem EncN.keep {w0 w w' : World} {be bm : Nat} {q : Nq} {n : Nat} {vars : Int} {xss : List (List Int)} (h : EncN w0 w be bm q n vars xss) (hb : Below w.heap.size w w') : EncN w0 w' be bm q n vars xss := by
  obtain ⟨C, nC, cC, h1, h2⟩ := h.e
  exact ⟨below_next h.b hb, h.lo, C, nC, cC, h1.keep hb, h2.keep hb⟩

theorem row_info_n : (Tryz.prog.info? 22).map (fun i => (i.zero, i.size, i.bytes)) = some (some (.slice none 0 0), 1, 24) := by kernel_rfl
def RetAddN (w0 : World) (be bm : Nat) (q : Nq) (n : Nat) (vars : Int) (xss : List (List Int)) (w : World) (e : Ending) (w' : World) : Prop := e = .returned (.tuple #[]) ∧ EncN w0 w' be bm q n vars xss ∧ FrN w w'
set_option maxHeartbeats 4000000 in
set_option maxRecDepth 100000 in
theorem addN_any {w0 w : World} {be bm : Nat} {q : Nq} {n : Nat} {vars : Int} {xss : List (List Int)} (A : Option Addr) (m c : Nat) (l : List Int) (h : EncN w0 w be bm q n vars xss) (hl : Ints w A m c l) (hlb : ∀ x ∈ l, -1000000 ≤ x ∧ x ≤ 1000000) (hm : m ≤ 100) (hx : xss.length ≤ 1000) :
    Calls Tryz.prog 52 #[.pointer (some ⟨be, 0, none⟩), .slice A m c] w (RetAddN w0 be bm q n vars (xss ++ [sortF l]) w) := by
  obtain ⟨i0, hi0, hz0, hz1, hz2⟩ := info_parts row_info_n
  have HLB := Lib.hid hlb
  obtain ⟨C, nC, cC, h1, h2⟩ := h.e
  have HLO : Hid (w0.heap.size ≤ be) := h.lo
  have HE := Lib.hid h1
  have HC := Lib.hid h2
  have HB := Lib.hid h.b
  have HL := Lib.hid hl
  have hnC : nC ≤ 1000 := by rw [← h2.len]; exact hx
  have HFR : Hid (FrN w w) := FrN.of (Below.refl _ _)
  clear h h1 h2 hl hx hlb
  go_enter Tryz.func52, Tryz.ntmps52
  go_wp2_with fail
  obtain ⟨wz, hwz⟩ : ∃ z : World, z = w.drew := ⟨_, rfl⟩
  have hbz : Below w.heap.size w wz := by rw [hwz]; exact below_drewN _ 1
  have HE_0 := Lib.hid (HE.out.keep hbz)
  have HC_0 := Lib.hid (HC.out.keep hbz)
  have HL_0 := Lib.hid (HL.out.keep hbz)
  have HB_0 := Lib.hid (below_next HB.out hbz)
  have HFR_0 := Lib.hid (HFR.out.trans (FrN.of hbz))
  clear HE HC HL HB HFR hbz
  have kz := HE_0.out.cell 4
  have kl := HE_0.out.lt
  simp at kz
  have hS : wz.cell? ⟨be, 4, none⟩ = some (.slice C nC cC) ∧ be < wz.heap.size := ⟨kz, kl⟩
  refine wp_region_tail (fun w' => w'.cell? ⟨be, 4, none⟩ = some (.slice C nC cC) ∧ be < w'.heap.size) [13] (by kernel_rfl) ?_
  change wpAnyT _ _ _ _ _ _ _ _ _ w.drew
  rw [← hwz]
  clear hwz
  refine take0 (i := 0) (oi := _) (v := ?_) rfl (by kernel_rfl) (by kernel_rfl) (by kernel_rfl) (fun _ _ _ h => h) rfl (Or.inl ⟨by rfl, ?_⟩) (fun _ => hS) ?_
  rotate_left
  · intro w0; go_simp; with_reducible rfl
  (try simp only [Act.put, List.setIfInBounds_toArray, List.set_cons_zero, List.set_cons_succ])
  refine take0 (i := 1) (oi := _) (v := ?_) rfl (by kernel_rfl) (by kernel_rfl) (by kernel_rfl) (fun _ _ _ h => h) rfl (Or.inl ⟨by rfl, ?_⟩) (fun _ => hS) ?_
  rotate_left
  · intro w0; go_simp; with_reducible rfl
  (try simp only [Act.put, List.setIfInBounds_toArray, List.set_cons_zero, List.set_cons_succ])
  refine take0 (i := 2) (oi := _) (v := ?_) rfl (by kernel_rfl) (by kernel_rfl) (by kernel_rfl) (fun _ _ _ h => h) rfl (Or.inl ⟨by rfl, ?_⟩) (fun _ => hS) ?_
  rotate_left
  · intro w0; go_simp; with_reducible rfl
  (try simp only [Act.put, List.setIfInBounds_toArray, List.set_cons_zero, List.set_cons_succ])
  refine take0 (i := 3) (oi := _) (v := ?_) rfl (by kernel_rfl) (by kernel_rfl) (by kernel_rfl) (fun _ _ _ h => h) rfl (Or.inl ⟨by rfl, ?_⟩) (fun _ => hS) ?_
  rotate_left
  · intro w0; go_simp; with_reducible rfl
  (try simp only [Act.put, List.setIfInBounds_toArray, List.set_cons_zero, List.set_cons_succ])
  refine take0 (i := 4) (oi := _) (v := ?_) rfl (by kernel_rfl) (by kernel_rfl) (by kernel_rfl) (fun _ _ _ h => h) rfl (Or.inl ⟨by rfl, ?_⟩) (fun _ => hS) ?_
  rotate_left
  · intro w0; go_simp; with_reducible rfl
  (try simp only [Act.put, List.setIfInBounds_toArray, List.set_cons_zero, List.set_cons_succ])
  refine takeS (i := 5) (oi := _) (v := ?_) rfl (by kernel_rfl) (by kernel_rfl) (by kernel_rfl) (fun _ _ _ h => h) rfl (by kernel_rfl) (by kernel_rfl) (Or.inl ⟨by rfl, ?_⟩) hS ?_
  rotate_left
  · intro w0 hSw; (try dsimp only at hSw); go_simp; with_reducible rfl
  (try simp only [Act.put, List.setIfInBounds_toArray, List.set_cons_zero, List.set_cons_succ])
  refine take0 (i := 6) (oi := _) (v := ?_) rfl (by kernel_rfl) (by kernel_rfl) (by kernel_rfl) (fun _ _ _ h => h) rfl (Or.inl ⟨by rfl, ?_⟩) (fun _ => hS) ?_
  rotate_left
  · intro w0; go_simp; with_reducible rfl
  (try simp only [Act.put, List.setIfInBounds_toArray, List.set_cons_zero, List.set_cons_succ])
  refine oneT (i := 7) (by kernel_rfl) rfl (by rfl) (fun K hK => ?_)
  go_simp
  refine (sorted_any A m c l wz HL_0.out HLB.out (by omega)).mono ?_
  rintro e w1 ⟨A1, m1, c1, rfl, hO1, hb1⟩
  have HO1 := Lib.hid hO1
  clear hO1 kz kl hS
  have HE_1 := Lib.hid (HE_0.out.keep hb1)
  have HC_1 := Lib.hid (HC_0.out.keep hb1)
  have HL_1 := Lib.hid (HL_0.out.keep hb1)
  have HB_1 := Lib.hid (below_next HB_0.out hb1)
  have HFR_1 := Lib.hid (HFR_0.out.trans (FrN.of hb1))
  clear HE_0 HC_0 HL_0 HB_0 HFR_0 hb1
  have kz := HE_1.out.cell 4
  have kl := HE_1.out.lt
  simp at kz
  have hS : w1.cell? ⟨be, 4, none⟩ = some (.slice C nC cC) ∧ be < w1.heap.size := ⟨kz, kl⟩
  refine hK _ _ (fun _ => hS) ?_
  clear hK
  (try simp only [Act.put, List.setIfInBounds_toArray, List.set_cons_zero, List.set_cons_succ])
  refine oneT (i := 8) (by kernel_rfl) rfl (by rfl) (fun K hK => ?_)
  go_simp
  obtain ⟨w2, hw2⟩ : ∃ z : World, z = w1.alloc (.cells #[.slice A1 m1 c1] 22) := ⟨_, rfl⟩
  have hb2 : Below w1.heap.size w1 w2 := by rw [hw2]; exact below_new _ _
  have HSL : Hid (Sl w2 (some ⟨w1.heap.size, 0, none⟩) 1 1 [.slice A1 m1 c1]) := by rw [hw2]; exact sl_one w1 22 (.slice A1 m1 c1) rfl
  have HO2 := Lib.hid (HO1.out.keep hb2)
  rw [← hw2]
  clear hw2 HO1 kz kl hS
  have HE_2 := Lib.hid (HE_1.out.keep hb2)
  have HC_2 := Lib.hid (HC_1.out.keep hb2)
  have HL_2 := Lib.hid (HL_1.out.keep hb2)
  have HB_2 := Lib.hid (below_next HB_1.out hb2)
  have HFR_2 := Lib.hid (HFR_1.out.trans (FrN.of hb2))
  clear HE_1 HC_1 HL_1 HB_1 HFR_1 hb2
  have kz := HE_2.out.cell 4
  have kl := HE_2.out.lt
  simp at kz
  have hS : w2.cell? ⟨be, 4, none⟩ = some (.slice C nC cC) ∧ be < w2.heap.size := ⟨kz, kl⟩
  refine hK _ _ (fun _ => hS) ?_
  clear hK
  (try simp only [Act.put, List.setIfInBounds_toArray, List.set_cons_zero, List.set_cons_succ])
  refine oneT (i := 9) (by kernel_rfl) rfl (by rfl) (fun K hK => ?_)
  obtain ⟨vs, ho1, ho2⟩ := HC_2.out
  have hsz := HB_2.out.size
  refine wp_append_sl _ (.tmp 9) (.tmp 12) 23 rfl w0.heap.size 22 i0 _ 24 Tryz.underlying23 hi0 hz0 hz1 hz2 rfl C nC cC _ rfl ho1 (some ⟨w1.heap.size, 0, none⟩) 1 1 _ rfl HSL.out (by simp [Value.oneCell']) (by simp only [maxLen]; omega) (by omega) hsz ?_
  intro C2 c2 w3 hC2 hg3 hat3
  have hrt := own_rows ho1 (low := 0) (Nat.zero_le _)
  have hlo2 : ∀ g, blockOf C = some g → w0.heap.size ≤ g ∧ Typed 22 w2 g := own_rows ho1 (Nat.le_refl _)
  have HI2 : Hid (Ints w2 A1 m1 c1 (sortF l)) := HO2.out.ints (fun x hx => HL_2.out.wf x ((sortF_perm l).mem_iff.1 hx))
  have HC3 : Hid (OwnP 22 3 w3 w0.heap.size 0 C2 (nC + 1) c2 (xss ++ [sortF l])) := OwnP.push ho1 ho2 (Nat.zero_le _) (by decide) HI2.out (Away.own HO2.out) hC2 hg3
  have HE3 : Hid (Blk w3 be 101 #[.slice q.L n q.cL, .slice q.O n q.cO, .int .i64 q.a, .int .i64 vars, .slice C nC cC, .map (some bm), .slice q.M (n + 1) q.cM]) := HE_2.out.grown hg3 (fun e => absurd (typed_one HE_2.out (hrt be e.symm).2) (by decide))
  have HB3 : Hid (Below w0.heap.size w0 w3) := HB_2.out.grown hg3 HB_2.out.size (fun j hj => (hlo2 j hj).1)
  have HFR3 : Hid (FrN w w3) := HFR_2.out.trans (FrN.grown hg3 (fun k hk => .inr (hlo2 k hk).2))
  clear hC2 hg3 hat3 hrt hlo2 ho1 ho2 kz kl hS HE_2 HC_2 HL_2 HB_2 HFR_2
  have kz := HE3.out.cell 4
  have kl := HE3.out.lt
  simp at kz
  have hS : w3.cell? ⟨be, 4, none⟩ = some (.slice C nC cC) ∧ be < w3.heap.size := ⟨kz, kl⟩
  refine hK _ _ (fun _ => hS) ?_
  clear hK
  (try simp only [Act.put, List.setIfInBounds_toArray, List.set_cons_zero, List.set_cons_succ])
  refine take0 (i := 10) (oi := _) (v := ?_) rfl (by kernel_rfl) (by kernel_rfl) (by kernel_rfl) (fun _ _ _ h => h) rfl (Or.inl ⟨by rfl, ?_⟩) (fun _ => hS) ?_
  rotate_left
  · intro w0; go_simp; with_reducible rfl
  (try simp only [Act.put, List.setIfInBounds_toArray, List.set_cons_zero, List.set_cons_succ])
  refine take0 (i := 11) (oi := _) (v := ?_) rfl (by kernel_rfl) (by kernel_rfl) (by kernel_rfl) (fun _ _ _ h => h) rfl (Or.inl ⟨by rfl, ?_⟩) (fun _ => hS) ?_
  rotate_left
  · intro w0; go_simp; with_reducible rfl
  (try simp only [Act.put, List.setIfInBounds_toArray, List.set_cons_zero, List.set_cons_succ])
  refine take0 (i := 12) (oi := _) (v := ?_) rfl (by kernel_rfl) (by kernel_rfl) (by kernel_rfl) (fun _ _ _ h => h) rfl (Or.inl ⟨by rfl, ?_⟩) (fun _ => hS) ?_
  rotate_left
  · intro w0; go_simp; with_reducible rfl
  (try simp only [Act.put, List.setIfInBounds_toArray, List.set_cons_zero, List.set_cons_succ])
  refine oneT (i := 13) (by kernel_rfl) rfl (by rfl) (fun K hK => ?_)
  have fz := HE3.out.frozen 4
  go_simp
  refine hK _ _ (noT_no (by kernel_rfl)) ?_
  clear hK
  (try simp only [Act.put, List.setIfInBounds_toArray, List.set_cons_zero, List.set_cons_succ])
  refine doneT (by kernel_rfl) ?_ _
  obtain ⟨w4, hw4⟩ : ∃ z : World, z = w3.setCell ⟨be, 4, none⟩ (.slice C2 (nC + 1) c2) := ⟨_, rfl⟩
  have hg4 : w3.grownBy w4 (some be) := by rw [hw4]; exact grown_setCell w3 ⟨be, 4, none⟩ _
  have HE4 : Hid (Blk w4 be 101 #[.slice q.L n q.cL, .slice q.O n q.cO, .int .i64 q.a, .int .i64 vars, .slice C2 (nC + 1) c2, .map (some bm), .slice q.M (n + 1) q.cM]) := by rw [hw4]; have := HE3.out.set_ 4 (.slice C2 (nC + 1) c2); simpa [Hid] using this
  have hrt : ∀ k, some be = some k → 0 ≤ k ∧ Typed 101 w3 k := fun k hk => by cases hk; exact ⟨Nat.zero_le _, Typed.of_blk HE3.out⟩
  have HC4 := Lib.hid (ownP_kN HC3.out hg4 hrt (by decide) (by decide))
  have HB4 : Hid (Below w0.heap.size w0 w4) := HB3.out.grown hg4 HB3.out.size (fun j hj => by cases hj; exact HLO.out)
  have HFR4 : Hid (FrN w w4) := HFR3.out.trans (FrN.grown hg4 (fun k hk => .inl (hrt k hk).2))
  rw [← hw4]
  clear hw4 hg4 hrt kz kl hS fz HE3 HC3 HB3 HFR3
  go_wp2_with fail
  go_end0
  exact ⟨rfl, ⟨HB4.out, HLO.out, C2, nC + 1, c2, HE4.out, HC4.out⟩, HFR4.out⟩
end Go.Proofs.YtlfgcblijfflfaaGreat

/- The state of heap's encoder: rows, words, and the map of rests; what stays when the map grows. -/
namespace Go.Proofs.YtlfgcblijfflfaaGreat
open Go.RowKit Go.Maps Go.WideMaps
set_option linter.unusedSimpArgs false
set_option linter.unusedVariables false

/-- No cells lie at the block of a map. -/
theorem mapN_cell {w : World} {b n : Nat} {D : DataW Unit} (h : MapN w b n D) (off : Nat) : w.cell? ⟨b, off, none⟩ = none := by
  obtain ⟨es, clock, h1, _⟩ := h
  unfold World.cell?
  rw [h1]
theorem mapN_typed {w : World} {b n : Nat} {D : DataW Unit} {t : TypeId} (h : MapN w b n D) : ¬ Typed t w b := by
  rintro ⟨c, f, hc⟩
  obtain ⟨es, clock, h1, _⟩ := h
  rw [h1] at hc
  cases hc
theorem mapN_lt {w : World} {b n : Nat} {D : DataW Unit} (h : MapN w b n D) : b < w.heap.size := by
  obtain ⟨es, clock, h1, _⟩ := h
  exact heap_lt h1
theorem ints_keptM {w w' : World} {A : Option Addr} {n c b : Nat} {xs : List Int} (h : Ints w A n c xs) (hb : ∀ off, w.cell? ⟨b, off, none⟩ = none) (hg : w.grownBy w' (some b)) : Ints w' A n c xs :=
  h.kept0 hg (fun hn => by
    obtain ⟨b', off, rfl, hlt, hc⟩ := h.sl.at_ hn
    right
    intro e
    have e' : b' = b := by simpa [blockOf] using e
    subst e'
    have h1 := hc 0 hn
    rw [hb] at h1
    have h2 : (xs.map (Value.int .i64))[0]? ≠ none := by
      rw [ne_eq, List.getElem?_eq_none_iff, h.sl.len]
      omega
    exact h2 h1.symm)
theorem own_keptM {e : TypeId} {w w' : World} {base n c b : Nat} {A : Option Addr} {xs : List Value} (h : Own e w base A n c xs) (hT : ¬ Typed e w b) (hg : w.grownBy w' (some b)) : Own e w' base A n c xs := by
  refine h.kept hg ?_
  cases hA : blockOf A with
  | none => exact .inl rfl
  | some g =>
    right
    intro e'
    have e2 : g = b := by simpa using e'
    subst e2
    exact hT (own_blk_lt h hA).2.2
theorem ownP_keptM {w w' : World} {base n c b : Nat} {A : Option Addr} {xss : List (List Int)} (h : OwnP 22 3 w base 0 A n c xss) {m : Nat} {D : DataW Unit} (hb : MapN w b m D) (hg : w.grownBy w' (some b)) : OwnP 22 3 w' base 0 A n c xss := by
  obtain ⟨vs, h1, h2⟩ := h
  refine ⟨vs, own_keptM h1 (mapN_typed hb) hg, h2.1, fun k v hv => ?_⟩
  obtain ⟨A', n', c', xs, e1, hx, hi, ha⟩ := h2.2 k v hv
  refine ⟨A', n', c', xs, e1, hx, ints_keptM hi (mapN_cell hb) hg, fun hn => (ha hn).kept hg ?_⟩
  obtain ⟨b', off, rfl, hlt, hc⟩ := hi.sl.at_ hn
  right
  intro e
  have e' : b' = b := by simpa [blockOf] using e
  subst e'
  rcases ha hn _ rfl with h9 | h9
  · simp at h9
  · exact mapN_typed hb h9
/-- What was there is there, but for encoders, rows of rows and the map. -/
def FrM (bm : Nat) (w w' : World) : Prop := w.heap.size ≤ w'.heap.size ∧ ∀ k, k < w.heap.size → k ≠ bm → ¬ Typed 101 w k → ¬ Typed 22 w k → w'.heap[k]? = w.heap[k]?
theorem FrM.ofN {bm : Nat} {w w' : World} (h : FrN w w') : FrM bm w w' := ⟨h.1, fun k hk _ h1 h2 => h.2 k hk h1 h2⟩
theorem FrM.of {bm : Nat} {w w' : World} (h : Below w.heap.size w w') : FrM bm w w' := .ofN (FrN.of h)
theorem FrM.map {bm : Nat} {w w' : World} (hg : w.grownBy w' (some bm)) : FrM bm w w' := ⟨hg.size, fun k hk h0 _ _ => hg.block k hk (fun e => h0 (by simpa using e))⟩
theorem FrM.trans {bm : Nat} {w w1 w2 : World} (h : FrM bm w w1) (h2 : FrM bm w1 w2) : FrM bm w w2 := ⟨Nat.le_trans h.1 h2.1, fun k hk z a b => by
  have e1 := h.2 k hk z a b
  have tt : ∀ t, Typed t w1 k → Typed t w k := fun t ⟨c, f, hc⟩ => ⟨c, f, by rw [← e1]; exact hc⟩
  rw [h2.2 k (Nat.lt_of_lt_of_le hk h.1) z (fun hT => a (tt _ hT)) (fun hT => b (tt _ hT)), e1]⟩
theorem Own.frM {w w' : World} {base n c bm : Nat} {A : Option Addr} {xs : List Value} (h : Own 3 w base A n c xs) (hf : FrM bm w w') (hm : ¬ Typed 3 w bm) : Own 3 w' base A n c xs := by
  refine ⟨h.1, ?_⟩
  rcases h.2 with h2 | ⟨g, cap, cur, hv, hg, hh, r⟩
  · exact .inl h2
  · exact .inr ⟨g, cap, cur, hv, hg, (hf.2 g (Array.getElem?_eq_some_iff.1 hh).1 (fun e => hm (by subst e; exact ⟨_, _, hh⟩)) (fun hT => absurd (typed_one hh hT) (by decide)) (fun hT => absurd (typed_one hh hT) (by decide))).trans hh, r⟩
theorem Blk.frM {w w' : World} {b bm : Nat} {t : TypeId} {cs : Array Value} (h : Blk w b t cs) (hf : FrM bm w w') (hm : ¬ Typed t w bm) (n1 : t ≠ 101) (n2 : t ≠ 22) : Blk w' b t cs :=
  (hf.2 b h.lt (fun e => hm (by subst e; exact Typed.of_blk h)) (fun hT => n1 (typed_one h hT)) (fun hT => n2 (typed_one h hT))).trans h
/-- The whole state of the encoder. -/
structure NodSt (w0 w : World) (be bm : Nat) (q : Nq) (ts : List (Int × Int)) (b : Nat) (s : Nst) : Prop where
  e : EncN w0 w be bm q ts.length ((b + s.ns.length : Nat) : Int) s.cs
  lm : w0.heap.size ≤ bm
  l : Own 3 w w0.heap.size q.L ts.length q.cL ((ts.map (·.1)).map (Value.int .i64))
  o : Own 3 w w0.heap.size q.O ts.length q.cO ((ts.map (·.2)).map (Value.int .i64))
  m : Own 3 w w0.heap.size q.M (ts.length + 1) q.cM ((mostF ts).map (Value.int .i64))
  k : ∃ D, MapN w bm s.ns.length D ∧ KnD b D s.ns
theorem NodSt.keep {w0 w w' : World} {be bm : Nat} {q : Nq} {ts : List (Int × Int)} {b : Nat} {s : Nst} (h : NodSt w0 w be bm q ts b s) (hb : Below w.heap.size w w') : NodSt w0 w' be bm q ts b s := by
  obtain ⟨D, h1, h2⟩ := h.k
  exact ⟨h.e.keep hb, h.lm, h.l.keep hb, h.o.keep hb, h.m.keep hb, D, h1.keep (hb.block bm (mapN_lt h1)), h2⟩
/-- A clause was added. -/
theorem NodSt.added {w0 w w' : World} {be bm : Nat} {q : Nq} {ts : List (Int × Int)} {b : Nat} {s : Nst} {cs : List (List Int)} (h : NodSt w0 w be bm q ts b s) (he : EncN w0 w' be bm q ts.length ((b + s.ns.length : Nat) : Int) cs) (hf : FrN w w') : NodSt w0 w' be bm q ts b ⟨s.ns, cs⟩ := by
  obtain ⟨D, h1, h2⟩ := h.k
  exact ⟨he, h.lm, h.l.frN hf, h.o.frN hf, h.m.frN hf, D, h1.keep (hf.2 bm (mapN_lt h1) (mapN_typed h1) (mapN_typed h1)), h2⟩
/-- The map was told of one more rest (ahead of it the number of variables was put up). -/
theorem NodSt.told {w0 w w1 w' : World} {be bm : Nat} {q : Nq} {ts : List (Int × Int)} {b : Nat} {s : Nst} (h : NodSt w0 w be bm q ts b s) {i : Nat} {a : Int} {D : DataW Unit} (hm : MapN w bm s.ns.length D) (hD : KnD b D s.ns)
    (hw1 : w1 = w.setCell ⟨be, 3, none⟩ (.int .i64 ((b + s.ns.length : Nat) + 1 : Int))) (h0 : idN s.ns i a = none) (hi : I64 i) (ha : I64 a) (hm' : MapN w' bm (s.ns.length + 1) (D.put (kN i a) (.lit (.int .i64 ((b : Int) + s.ns.length + 1))))) (hg : w1.grownBy w' (some bm)) :
    NodSt w0 w' be bm q ts b ⟨s.ns ++ [(i, a)], s.cs⟩ ∧ FrM bm w w' := by
  obtain ⟨C, nC, cC, h1, h2⟩ := h.e.e
  have hlo := h.e.lo
  have hg1 : w.grownBy w1 (some be) := by rw [hw1]; exact grown_setCell w ⟨be, 3, none⟩ _
  have hne : bm ≠ be := fun e => mapN_typed hm (e ▸ Typed.of_blk h1)
  have hm1 : MapN w1 bm s.ns.length D := hm.keep (hg1.block bm (mapN_lt hm) (fun e => hne (by simpa using e)))
  have hE1 : Blk w1 be 101 #[.slice q.L ts.length q.cL, .slice q.O ts.length q.cO, .int .i64 q.a, .int .i64 ((b + s.ns.length : Nat) + 1 : Int), .slice C nC cC, .map (some bm), .slice q.M (ts.length + 1) q.cM] := by
    rw [hw1]
    have := h1.set_ 3 (.int .i64 ((b + s.ns.length : Nat) + 1 : Int))
    simpa using this
  have hrt : ∀ k, some be = some k → 0 ≤ k ∧ Typed 101 w k := fun k hk => by cases hk; exact ⟨Nat.zero_le _, Typed.of_blk h1⟩
  have hP1 := ownP_kN h2 hg1 hrt (by decide) (by decide)
  have hn1 : ∀ {A : Option Addr} {base n c : Nat} {xs : List Value}, Own 3 w base A n c xs → Own 3 w' base A n c xs := fun ho =>
    own_keptM (ho.kept hg1 (ho.ne_typed (Typed.of_blk h1) (by decide))) (mapN_typed hm1) hg
  have hE2 : Blk w' be 101 #[.slice q.L ts.length q.cL, .slice q.O ts.length q.cO, .int .i64 q.a, .int .i64 ((b + s.ns.length : Nat) + 1 : Int), .slice C nC cC, .map (some bm), .slice q.M (ts.length + 1) q.cM] :=
    hE1.grown hg (fun e => hne (by simpa using e.symm))
  have hB1 : Below w0.heap.size w0 w1 := h.e.b.grown hg1 h.e.b.size (fun j hj => by cases hj; exact hlo)
  have hB2 : Below w0.heap.size w0 w' := hB1.grown hg hB1.size (fun j hj => by cases hj; exact h.lm)
  have ev : (((b + (s.ns ++ [(i, a)]).length : Nat)) : Int) = ((b + s.ns.length : Nat) + 1 : Int) := by simp; omega
  refine ⟨⟨⟨hB2, hlo, C, nC, cC, ?_, ownP_keptM hP1 hm1 hg⟩, h.lm, hn1 h.l, hn1 h.o, hn1 h.m, _, ?_, KnD.put hm hD h0 hi ha rfl⟩, ?_⟩
  · rw [ev]; exact hE2
  · rw [List.length_append]; exact hm'
  · refine ⟨Nat.le_trans hg1.size hg.size, fun k hk z a' b' => ?_⟩
    rw [hg.block k (Nat.lt_of_lt_of_le hk hg1.size) (fun e => z (by simpa using e)), hg1.block k hk (fun e => a' ((show be = k by simpa using e.symm) ▸ Typed.of_blk h1))]
end Go.Proofs.YtlfgcblijfflfaaGreat

/- Contract of (*encoder).node: the variable of a rest, with the clauses of its ways. (Printed by wip/tools/node.py.) -/
namespace Go.Proofs.YtlfgcblijfflfaaGreat
open Go.RowKit Go.Maps Go.WideMaps
set_option linter.unusedSimpArgs false
set_option linter.unusedVariables false

def RetNode (w0 : World) (be bm : Nat) (q : Nq) (ts : List (Int × Int)) (b : Nat) (r : Nst × Int × Bool) (w : World) (e : Ending) (w' : World) : Prop :=
  e = .returned (.tuple #[.int .i64 r.2.1, .bool r.2.2]) ∧ NodSt w0 w' be bm q ts b r.1 ∧ FrM bm w w'
def NodeOk (w0 : World) (be bm : Nat) (q : Nq) (ts : List (Int × Int)) (b f : Nat) : Prop :=
  ∀ (i : Nat) (a : Int) (s : Nst) (w : World), NodSt w0 w be bm q ts b s → NstOk ts b s → i ≤ ts.length → ts.length ≤ i + f → -20000 ≤ a → a ≤ 300000 → s.cs.length ≤ 2 * s.ns.length → s.ns.length + 2 ^ (ts.length - i) ≤ 100 →
    Calls Tryz.prog 51 #[.pointer (some ⟨be, 0, none⟩), .int .i64 (i : Int), .int .i64 a] w (RetNode w0 be bm q ts b (nodF ts b f i a s) w)
theorem own_ints_at {w : World} {base n c : Nat} {A : Option Addr} {xs : List Int} (h : Own 3 w base A n c (xs.map (Value.int .i64))) {k : Nat} (hk : k < n) : ∃ (g : Nat) (x : Int), A = some ⟨g, 0, none⟩ ∧ g < w.heap.size ∧ w.cell? ⟨g, k, none⟩ = some (.int .i64 x) ∧ Hid (xs[k]? = some x) := by
  obtain ⟨g, u, e, _, hg, hc, _, hx⟩ := h.at_ hk
  have := hx.out
  rw [List.getElem?_map, Option.map_eq_some_iff] at this
  obtain ⟨x, h1, rfl⟩ := this
  exact ⟨g, x, e, hg, hc, h1⟩

set_option maxHeartbeats 8000000 in
set_option maxRecDepth 100000 in
theorem node_step {w0 : World} {be bm : Nat} {q : Nq} {ts : List (Int × Int)} {b : Nat} (hb : 0 < b) (hb2 : b ≤ 20) (hpos : ∀ t ∈ ts, 0 < t.2 ∧ t.2 ≤ 10000) (hlt : ∀ t ∈ ts, t.1 ≠ 0 ∧ -(b : Int) ≤ t.1 ∧ t.1 ≤ b) (hn : ts.length ≤ 24) (f : Nat) (ih : ∀ f', f' < f → NodeOk w0 be bm q ts b f') : NodeOk w0 be bm q ts b f := by
  intro i a s w hN hO hi hf ha0 ha1 hc hns
  have HI := Lib.hid ih
  have HN := Lib.hid hN
  have HO := Lib.hid hO
  have HPOS := Lib.hid hpos
  have HLT := Lib.hid hlt
  have HC := Lib.hid hc
  obtain ⟨P, hP⟩ : ∃ z : Nat, Hid (2 ^ (ts.length - i) = z) := ⟨_, rfl⟩
  have hP1 : 1 ≤ P := by rw [← hP.out]; exact Nat.one_le_two_pow
  rw [hP.out] at hns
  obtain ⟨n, hnl⟩ : ∃ z : Nat, Hid (ts.length = z) := ⟨_, rfl⟩
  obtain ⟨C, nC, cC, hE, hC⟩ := hN.e.e
  have hnC : nC ≤ 200 := by have := hC.len; omega
  obtain ⟨gM, x6, hMe, hgM, hcM, hxM⟩ := own_ints_at hN.m (k := i) (by omega)
  have ex6 : x6 = wtT (ts.drop i) := by
    have h1 := hxM.out
    rw [most_at hi] at h1
    exact (Option.some.inj h1).symm
  have hvv : s.ns.length ≤ 100 := by omega
  have hwb := all_bd (M := 10000) (ts := ts.drop i) (fun t ht => hpos t (List.mem_of_mem_drop ht))
  obtain ⟨dw, hdw⟩ : ∃ z, Hid (wtT (ts.drop i) = z) := ⟨_, rfl⟩
  have k6 := hE.cell 6
  have k5 := hE.cell 5
  have k4 := hE.cell 4
  have k3 := hE.cell 3
  have kf3 := hE.frozen 3
  have kl := hE.lt
  rw [hMe, hnl.out] at k6
  simp only [List.getElem?_toArray, List.getElem?_cons_zero, List.getElem?_cons_succ] at k3 k4 k5 k6
  obtain ⟨vv, hvv2⟩ : ∃ z : Int, Hid (((b + s.ns.length : Nat) : Int) = z) := ⟨_, rfl⟩
  have hvb : 0 ≤ vv ∧ vv ≤ 120 := by rw [← hvv2.out]; omega
  rw [hvv2.out] at k3
  rw [ex6, hdw.out] at hcM
  rw [hnl.out] at hi hf hn
  have HE := Lib.hid hE
  have HCP := Lib.hid hC
  have HME : Hid (q.M = some ⟨gM, 0, none⟩) := hMe
  obtain ⟨D, hm, hD⟩ := hN.k
  have HM := Lib.hid hm
  have HD := Lib.hid hD
  have hI64i : I64 (i : Int) := by unfold I64; omega
  have hI64a : I64 a := by unfold I64; omega
  have hkey := kN_of hI64i hI64a
  have HKEY := Lib.hid hkey
  have q0 : (0 : Int) ≤ (i : Int) := by omega
  have q1 : (i : Int) < ((n + 1 : Nat) : Int) := by omega
  have q2 : (i : Int) < (n : Int) + 1 := by omega
  have d4 : decide ((400 : Int) < (nC : Int)) = false := decide_eq_false (by omega)
  have d5 : decide ((120 : Int) < vv) = false := decide_eq_false (by omega)
  clear hE hC hN hO hc hm hD hMe hxM ex6 hwb hpos hlt ih hkey
  by_cases h1 : a ≤ 0
  · rw [nodF_one h1]
    go_enter Tryz.func51, Tryz.ntmps51
    go_wp2_with fail
    go_ret2
    exact ⟨rfl, HN.out, FrM.of (Below.refl _ _)⟩
  have g1 : 0 < a := by omega
  by_cases h2 : dw < a
  · rw [nodF_never g1 (by rw [hdw.out]; exact h2)]
    go_enter Tryz.func51, Tryz.ntmps51
    go_wp2_with fail
    go_ret2
    exact ⟨rfl, HN.out, FrM.of (Below.refl _ _)⟩
  have h2' : Hid (a ≤ wtT (ts.drop i)) := by show _ ≤ _; rw [hdw.out]; omega
  obtain ⟨hat, hhas⟩ := HD.out i a hI64i hI64a
  have HAT := Lib.hid hat
  obtain ⟨ik, hik⟩ : ∃ z, Hid (idN s.ns i a = z) := ⟨_, rfl⟩
  rw [hik.out] at hhas
  have HHAS := Lib.hid hhas
  clear hat hhas
  cases ik with
  | some k => 
    rw [nodF_known g1 h2'.out hik.out]
    have hkv : knV b s.ns i a = (b : Int) + k + 1 := by unfold knV; rw [hik.out]
    go_enter Tryz.func51, Tryz.ntmps51
    go_wp2_with (first | (at_lookup; refine wpList_lookup_own_ok_int _ rfl _ _ 99 rfl 127 3 .i64 keyed_k Tryz.underlying99 Tryz.underlying3 (zero_k _) bm s.ns.length D rfl HM.out _ _ rfl HKEY.out ?_; intro c hc0 hwc; obtain rfl : c = knV b s.ns i a := (by have h9 := HAT.out; rw [hc0] at h9; cases h9; rfl); rw [HHAS.out]; clear hc0 hwc) | go_in)
    go_ret2
    exact ⟨by first | rfl | rw [hkv], HN.out, FrM.of (Below.refl _ _)⟩
  | none =>
    have hil : i < n := by
      rcases Nat.lt_or_ge i n with e | e
      · exact e
      · have h3 := h2'.out
        rw [List.drop_eq_nil_of_le (by have := hnl.out; omega)] at h3
        simp [wtT] at h3
        omega
    obtain ⟨f', rfl⟩ : ∃ z, f = z + 1 := ⟨f - 1, by omega⟩
    obtain ⟨t, ht⟩ : ∃ t, Hid (ts[i]? = some t) := ⟨_, List.getElem?_eq_getElem (by have := hnl.out; omega)⟩
    have htb := HPOS.out t (List.mem_of_getElem? ht.out)
    have htl := HLT.out t (List.mem_of_getElem? ht.out)
    have hlen1 : ts.length - i = (ts.length - (i + 1)) + 1 := by have := hnl.out; omega
    obtain ⟨P', hP'⟩ : ∃ z : Nat, Hid (2 ^ (ts.length - (i + 1)) = z) := ⟨_, rfl⟩
    have hPP : P = P' + P' := by rw [← hP.out, hlen1, Nat.pow_succ, hP'.out]; omega
    have hP1' : 1 ≤ P' := by rw [← hP'.out]; exact Nat.one_le_two_pow
    have HIH := Lib.hid (HI.out f' (by omega))
    rw [nodF_new g1 h2'.out hik.out ht.out]
    have hveq : (b : Int) + s.ns.length + 1 = vv + 1 := by rw [← hvv2.out]; push_cast; rfl
    rw [hveq]
    have S0 := Lib.hid (StOk.first (ts := ts) (b := b) (i := i) (a := a) HO.out (by rw [hnl.out]; exact hil) g1 HC.out (Nat.le_refl _))
    have hw64 : wrap64 (vv + 1) = vv + 1 := IntWalk.wrap64_in _ (by omega)
    have hw65 : IntKind.i64.wrap (vv + 1) = vv + 1 := IntWalk.i64_in _ (by omega)
    have hg1 : w.grownBy (w.setCell ⟨be, 3, none⟩ (.int .i64 (vv + 1))) (some be) := grown_setCell w ⟨be, 3, none⟩ _
    have hne : bm ≠ be := fun e => mapN_typed HM.out (e ▸ Typed.of_blk HE.out)
    have HM1 : Hid (MapN (w.setCell ⟨be, 3, none⟩ (.int .i64 (vv + 1))) bm s.ns.length D) := HM.out.keep (hg1.block bm (mapN_lt HM.out) (fun e => hne (by simpa using e)))
    have HTOLD : Hid (∀ w2 : World, MapN w2 bm (s.ns.length + 1) (D.put (kN i a) (.lit (.int .i64 (vv + 1)))) → World.grownBy (w.setCell ⟨be, 3, none⟩ (.int .i64 (vv + 1))) w2 (some bm) → NodSt w0 w2 be bm q ts b ⟨s.ns ++ [(i, a)], s.cs⟩ ∧ FrM bm w w2) := fun w2 h8 h9 =>
      HN.out.told HM.out HD.out (by rw [hvv2.out]) hik.out hI64i hI64a (by rw [hveq]; exact h8) h9
    clear hg1
    go_enter Tryz.func51, Tryz.ntmps51
    go_wp2_with (first | (at_lookup; refine wpList_lookup_own_ok_int _ rfl _ _ 99 rfl 127 3 .i64 keyed_k Tryz.underlying99 Tryz.underlying3 (zero_k _) bm s.ns.length D rfl HM.out _ _ rfl HKEY.out ?_; intro c hc0 hwc; obtain rfl : c = knV b s.ns i a := (by have h9 := HAT.out; rw [hc0] at h9; cases h9; rfl); rw [HHAS.out]; clear hc0 hwc) | (at_mapUpdate; refine wpList_mapUpdate_own _ rfl _ _ _ 99 rfl 127 3 keyed_k Tryz.underlying99 (plainElem (H := Unit) Tryz.prog 3) bm s.ns.length D rfl HM1.out (by unfold maxLen; omega) _ _ _ rfl rfl HKEY.out _ [] (plainElem_int Tryz.underlying3 (WalkArith.wf_i64 (by first | omega | (unfold I64; omega)))) ?_; intro w2 hown2 hg2; have HT2 := Lib.hid (HTOLD.out w2 hown2 hg2).1; have HF2 := Lib.hid (HTOLD.out w2 hown2 hg2).2; clear hown2 hg2 k3 k4 k5 k6 kf3 kl hcM hgM) | go_in)
    obtain ⟨wL, hwL⟩ : ∃ z : World, Hid (z = w2.alloc (.cells #[.int .i64 1, .int .i64 0] 3)) := ⟨_, rfl⟩
    have hbL : Below w2.heap.size w2 wL := by rw [hwL.out]; exact below_new _ _
    have HTL := Lib.hid (HT2.out.keep hbL)
    have HFL := Lib.hid (HF2.out.trans (FrM.of hbL))
    have HWL : Hid (Own 3 wL w2.heap.size (some ⟨w2.heap.size, 0, none⟩) 2 2 (([1, 0] : List Int).map (Value.int .i64))) := by rw [hwL.out]; exact own_new 3 w2 w2.heap.size (([1, 0] : List Int).map (Value.int .i64)) rfl (Nat.le_refl _) (by simp [maxLen])
    obtain ⟨gw, hgw⟩ : ∃ z : Nat, Hid (w2.heap.size = z) := ⟨_, rfl⟩
    rw [← hwL.out]
    rw [hgw.out] at HWL ⊢
    clear hwL hgw hbL HT2 HF2 HTOLD HM1
    go_loopw [82] (fun s82 wr => ∃ j m : Nat, j ≤ 2 ∧ s82 = .int .i64 j ∧ Hid (NodSt w0 wr be bm q ts b (stsN ts b f' i a t (vv + 1) s j)) ∧ Hid (StOk ts b i a s.ns.length (2 - j) m (stsN ts b f' i a t (vv + 1) s j)) ∧ Hid ((j = 0 → m = s.ns.length + 1) ∧ (j = 1 → m = s.ns.length + P') ∧ (j = 2 → m + 1 = s.ns.length + 2 * P')) ∧ Hid (FrM bm w wr) ∧ Hid (Own 3 wr gw (some ⟨gw, 0, none⟩) 2 2 (([1, 0] : List Int).map (Value.int .i64)))) (fun z _ => 2 - (intOf z).toNat)
    case atStart => exact ⟨0, _, by omega, rfl, HTL, S0, ⟨fun _ => rfl, fun h => by omega, fun h => by omega⟩, HFL, HWL⟩
    case round =>
      clear HTL S0 HFL HWL
      obtain ⟨j, m, hj, rfl, HN2, HS, HMB, HF, HW⟩ := hrel
      by_cases hjl : j < 2
      · obtain ⟨y, hy⟩ : ∃ z : Int, Hid (1 - (j : Int) = z) := ⟨_, rfl⟩
        have hyv : y = 0 ∨ y = 1 := by have := hy.out; omega
        obtain ⟨gW', x0, eW, hgW, hcW, hxW⟩ := own_ints_at HW.out (k := j) hjl
        cases eW
        obtain rfl : x0 = y := by
          have h8 := hxW.out
          have h9 := hy.out
          have hjj : j = 0 ∨ j = 1 := by omega
          rcases hjj with rfl | rfl
          · simp at h8 h9; omega
          · simp at h8 h9; omega
        obtain ⟨st, hst⟩ : ∃ z, Hid (stsN ts b f' i a t (vv + 1) s j = z) := ⟨_, rfl⟩
        have HSN : Hid (stsN ts b f' i a t (vv + 1) s (j + 1) = stepN ts b f' i a t (vv + 1) x0 st) := by
          show stepN ts b f' i a t (vv + 1) (1 - (j : Int)) (stsN ts b f' i a t (vv + 1) s j) = _
          rw [hy.out, hst.out]
        rw [hst.out] at HN2 HS
        obtain ⟨c', hc'⟩ : ∃ z : Nat, 2 - j = z + 1 := ⟨1 - j, by omega⟩
        rw [hc'] at HS
        have hlen2 : ts.length ≤ i + 1 + f' := by have := hnl.out; omega
        obtain ⟨d, hcl, hnl5, hok⟩ := StOk.step (f := f') (y := x0) (v := vv + 1) (t := t) HS.out hb (fun t ht => (HPOS.out t ht).1) HLT.out ht.out hlen2 (by rw [← hveq]) hyv
        have HOK := Lib.hid hok
        obtain ⟨gL, lit, hLe, hgL, hcL, hxL⟩ := own_ints_at HN2.out.l (k := i) (by have := hnl.out; omega)
        have el : lit = t.1 := by
          have h8 := hxL.out
          rw [List.getElem?_map, ht.out] at h8
          exact (Option.some.inj h8).symm
        obtain ⟨gO, o, hOe, hgO, hcO, hxO⟩ := own_ints_at HN2.out.o (k := i) (by have := hnl.out; omega)
        have eo : o = t.2 := by
          have h8 := hxO.out
          rw [List.getElem?_map, ht.out] at h8
          exact (Option.some.inj h8).symm
        rw [el] at hcL
        rw [eo] at hcO
        obtain ⟨a2, ha2⟩ : ∃ z, Hid (a - x0 * t.2 = z) := ⟨_, rfl⟩
        obtain ⟨l2, hl2⟩ : ∃ z, Hid (t.1 * (1 - 2 * x0) = z) := ⟨_, rfl⟩
        obtain ⟨yo, hyo⟩ : ∃ z, Hid (x0 * t.2 = z) := ⟨_, rfl⟩
        have hyob : 0 ≤ yo ∧ yo ≤ 10000 := by
          rw [← hyo.out]
          rcases hyv with h9 | h9
          · rw [h9]; simp
          · rw [h9]; omega
        have ha2b : -20000 ≤ a2 ∧ a2 ≤ 300000 := by have := ha2.out; rw [hyo.out] at this; omega
        have hl2b : -20 ≤ l2 ∧ l2 ≤ 20 := by
          rw [← hl2.out]
          rcases hyv with h9 | h9
          · rw [h9]; simp; omega
          · rw [h9]; simp; omega
        have hx1 : 0 ≤ x0 ∧ x0 ≤ 1 := by omega
        have hx2 : -1 ≤ 1 - 2 * x0 ∧ 1 - 2 * x0 ≤ 1 := by omega
        rw [ha2.out] at d hcl hnl5
        have hcall := HIH.out (i + 1) a2 st wr HN2.out HS.out.ok (by have := hnl.out; omega) hlen2 ha2b.1 ha2b.2 (by have := HS.out.cs; omega) (by
          have h7 := HS.out.ns
          have h8 := HMB.out
          rw [hP'.out]
          have hjj : j = 0 ∨ j = 1 := by omega
          rcases hjj with h9 | h9
          · have := h8.1 h9; omega
          · have := h8.2.1 h9; omega)
        rw [show (((i + 1 : Nat)) : Int) = (i : Int) + 1 by omega] at hcall
        obtain ⟨r, hr⟩ : ∃ z, Hid (nodF ts b f' (i + 1) a2 st = z) := ⟨_, rfl⟩
        rw [hr.out] at d hcl hnl5 hcall
        obtain ⟨s5, n5, c5⟩ := r
        simp only at d hcl hnl5
        have HSN2 : Hid (stsN ts b f' i a t (vv + 1) s (j + 1) = ⟨s5.ns, adN s5.cs (vv + 1) l2 n5 c5⟩) := by
          show _ = _
          rw [HSN.out]
          unfold stepN
          rw [ha2.out, hr.out, hl2.out]
        have hbd := ndd_bd d
        have hs5 : s5.ns.length ≤ 100 := by
          have h8 := HMB.out
          rw [hP'.out] at hnl5
          have hjj : j = 0 ∨ j = 1 := by omega
          rcases hjj with h9 | h9
          · have := h8.1 h9; omega
          · have := h8.2.1 h9; omega
        have hn5 : -1 ≤ n5 ∧ n5 ≤ 121 ∧ n5 ≠ 0 := by omega
        have HCL : Hid (s5.cs.length ≤ 200) := by show _ ≤ _; omega
        obtain ⟨C2, nC2, cC2, hE2, hC2⟩ := HN2.out.e.e
        have k0 := hE2.cell 0
        have k1 := hE2.cell 1
        have kl := hE2.lt
        rw [hLe, hnl.out] at k0
        rw [hOe, hnl.out] at k1
        simp only [List.getElem?_toArray, List.getElem?_cons_zero, List.getElem?_cons_succ] at k0 k1
        have q3 : (0 : Int) ≤ (j : Int) := by omega
        have q4 : (j : Int) < 2 := by omega
        have q5 : (i : Int) < (n : Int) := by omega
        have z1 : IntKind.i64.wrap (2 * x0) = 2 * x0 := IntWalk.i64_in _ (by omega)
        have z2 : IntKind.i64.wrap (1 - 2 * x0) = 1 - 2 * x0 := IntWalk.i64_in _ (by omega)
        have z3 : IntKind.i64.wrap (t.1 * (1 - 2 * x0)) = l2 := by rw [hl2.out]; exact IntWalk.i64_in _ (by omega)
        have z4 : IntKind.i64.wrap (x0 * t.2) = yo := by rw [hyo.out]; exact IntWalk.i64_in _ (by omega)
        have z5 : IntKind.i64.wrap (a - yo) = a2 := by rw [← hyo.out, ha2.out]; exact IntWalk.i64_in _ (by omega)
        have z7 : IntKind.i64.wrap (-(vv + 1)) = -(vv + 1) := IntWalk.i64_in _ (by omega)
        have HWK := HW
        have HSN3 := HSN
        clear d hcl hnl5 hok hbd hxL hxO hLe hOe hE2 hC2 hxW HSN el eo HS HW hgW
        go_wp2_with fail
        refine hcall.mono ?_
        rintro e w5 ⟨rfl, hN5, hF5⟩
        have HN5 := Lib.hid hN5
        have HF5 := Lib.hid (HF.out.trans hF5)
        have HW5 : Hid (Own 3 w5 gw (some ⟨gw, 0, none⟩) 2 2 (([1, 0] : List Int).map (Value.int .i64))) := HWK.out.frM hF5 (fun hT => by obtain ⟨D9, hm9, _⟩ := HN2.out.k; exact mapN_typed hm9 hT)
        have HNXT : Hid ((j + 1 = 0 → m + P' - 1 = s.ns.length + 1) ∧ (j + 1 = 1 → m + P' - 1 = s.ns.length + P') ∧ (j + 1 = 2 → m + P' - 1 + 1 = s.ns.length + 2 * P')) := by
          have h8 := HMB.out
          refine ⟨fun h9 => by omega, fun h9 => ?_, fun h9 => ?_⟩
          · have := h8.1 (by omega); omega
          · have := h8.2.1 (by omega); omega
        have HOK2 : Hid (StOk ts b i a s.ns.length (2 - (j + 1)) (m + P' - 1) (stsN ts b f' i a t (vv + 1) s (j + 1))) := by
          rw [show 2 - (j + 1) = c' by omega, HSN3.out, ← hP'.out]
          exact HOK.out
        clear hN5 hF5 HOK HSN3 k0 k1 kl hcL hcO hcW hcall HN2 HF HWK
        cases c5 with
        | false =>
          have HAD : Hid (stsN ts b f' i a t (vv + 1) s (j + 1) = ⟨s5.ns, s5.cs ++ [sortF [-(vv + 1), l2, n5]]⟩) := by show _ = _; rw [HSN2.out]; simp [adN]
          have hb3 : Below w5.heap.size w5 (w5.alloc (.cells #[.int .i64 (-(vv + 1)), .int .i64 l2, .int .i64 n5] 3)) := below_new _ _
          have hO3 : Own 3 (w5.alloc (.cells #[.int .i64 (-(vv + 1)), .int .i64 l2, .int .i64 n5] 3)) w5.heap.size (some ⟨w5.heap.size, 0, none⟩) 3 3 (([-(vv + 1), l2, n5] : List Int).map (Value.int .i64)) := own_new 3 w5 w5.heap.size (([-(vv + 1), l2, n5] : List Int).map (Value.int .i64)) rfl (Nat.le_refl _) (by simp [maxLen])
          have HN6 := Lib.hid (HN5.out.keep hb3)
          have hadd := addN_any (some ⟨w5.heap.size, 0, none⟩) 3 3 [-(vv + 1), l2, n5] HN6.out.e (hO3.ints (fun z hz => by simp at hz; unfold I64; omega)) (fun z hz => by simp at hz; omega) (by omega) (by have := HCL.out; show s5.cs.length ≤ 1000; omega)
          have HW6 : Hid (Own 3 (w5.alloc (.cells #[.int .i64 (-(vv + 1)), .int .i64 l2, .int .i64 n5] 3)) gw (some ⟨gw, 0, none⟩) 2 2 (([1, 0] : List Int).map (Value.int .i64))) := HW5.out.keep hb3
          have HF6 := Lib.hid (HF5.out.trans (FrM.of (bm := bm) hb3))
          clear hb3 hO3 HN5 HF5 HW5
          go_wp2_with fail
          refine hadd.mono ?_
          rintro e w7 ⟨rfl, hE7, hF7⟩
          have HN7 : Hid (NodSt w0 w7 be bm q ts b (stsN ts b f' i a t (vv + 1) s (j + 1))) := by rw [HAD.out]; exact HN6.out.added hE7 hF7
          have HW7 : Hid (Own 3 w7 gw (some ⟨gw, 0, none⟩) 2 2 (([1, 0] : List Int).map (Value.int .i64))) := HW6.out.frN hF7
          have HF7 : Hid (FrM bm w w7) := HF6.out.trans (FrM.ofN hF7)
          clear hE7 hF7 hadd HN6 HW6 HF6
          go_wp2_with fail
          go_roundw
          case rel => exact ⟨j + 1, m + P' - 1, by omega, by go_num, HN7, HOK2, HNXT, HF7, HW7⟩
          case measure => simp [intOf] <;> omega
        | true =>
          by_cases hneg : n5 < 0
          · have HAD : Hid (stsN ts b f' i a t (vv + 1) s (j + 1) = ⟨s5.ns, s5.cs ++ [sortF [-(vv + 1), l2]]⟩) := by show _ = _; rw [HSN2.out]; simp [adN, hneg]
            have hb3 : Below w5.heap.size w5 (w5.alloc (.cells #[.int .i64 (-(vv + 1)), .int .i64 l2] 3)) := below_new _ _
            have hO3 : Own 3 (w5.alloc (.cells #[.int .i64 (-(vv + 1)), .int .i64 l2] 3)) w5.heap.size (some ⟨w5.heap.size, 0, none⟩) 2 2 (([-(vv + 1), l2] : List Int).map (Value.int .i64)) := own_new 3 w5 w5.heap.size (([-(vv + 1), l2] : List Int).map (Value.int .i64)) rfl (Nat.le_refl _) (by simp [maxLen])
            have HN6 := Lib.hid (HN5.out.keep hb3)
            have hadd := addN_any (some ⟨w5.heap.size, 0, none⟩) 2 2 [-(vv + 1), l2] HN6.out.e (hO3.ints (fun z hz => by simp at hz; unfold I64; omega)) (fun z hz => by simp at hz; omega) (by omega) (by have := HCL.out; show s5.cs.length ≤ 1000; omega)
            have HW6 : Hid (Own 3 (w5.alloc (.cells #[.int .i64 (-(vv + 1)), .int .i64 l2] 3)) gw (some ⟨gw, 0, none⟩) 2 2 (([1, 0] : List Int).map (Value.int .i64))) := HW5.out.keep hb3
            have HF6 := Lib.hid (HF5.out.trans (FrM.of (bm := bm) hb3))
            clear hb3 hO3 HN5 HF5 HW5
            go_wp2_with fail
            refine hadd.mono ?_
            rintro e w7 ⟨rfl, hE7, hF7⟩
            have HN7 : Hid (NodSt w0 w7 be bm q ts b (stsN ts b f' i a t (vv + 1) s (j + 1))) := by rw [HAD.out]; exact HN6.out.added hE7 hF7
            have HW7 : Hid (Own 3 w7 gw (some ⟨gw, 0, none⟩) 2 2 (([1, 0] : List Int).map (Value.int .i64))) := HW6.out.frN hF7
            have HF7 : Hid (FrM bm w w7) := HF6.out.trans (FrM.ofN hF7)
            clear hE7 hF7 hadd HN6 HW6 HF6
            go_wp2_with fail
            go_roundw
            case rel => exact ⟨j + 1, m + P' - 1, by omega, by go_num, HN7, HOK2, HNXT, HF7, HW7⟩
            case measure => simp [intOf] <;> omega
          · have HN7 : Hid (NodSt w0 w5 be bm q ts b (stsN ts b f' i a t (vv + 1) s (j + 1))) := by
              rw [HSN2.out, show adN s5.cs (vv + 1) l2 n5 true = s5.cs by simp [adN, hneg]]
              exact HN5.out
            have dn : decide (n5 < 0) = false := decide_eq_false hneg
            go_wp2_with fail
            go_roundw
            case rel => exact ⟨j + 1, m + P' - 1, by omega, by go_num, HN7, HOK2, HNXT, HF5, HW5⟩
            case measure => simp [intOf] <;> omega

      · obtain rfl : j = 2 := by omega
        go_wp2_with fail
        go_ret2
        exact ⟨rfl, HN2.out, HF.out⟩

theorem node_any {w0 : World} {be bm : Nat} {q : Nq} {ts : List (Int × Int)} {b : Nat} (hb : 0 < b) (hb2 : b ≤ 20) (hpos : ∀ t ∈ ts, 0 < t.2 ∧ t.2 ≤ 10000) (hlt : ∀ t ∈ ts, t.1 ≠ 0 ∧ -(b : Int) ≤ t.1 ∧ t.1 ≤ b) (hn : ts.length ≤ 24) (f : Nat) : NodeOk w0 be bm q ts b f :=
  Nat.strongRecOn f fun f ih => node_step hb hb2 hpos hlt hn f ih
end Go.Proofs.YtlfgcblijfflfaaGreat

/- Contract of heap.Clauses: a sum's clauses. (Printed by wip/tools/hcls.py.) -/
namespace Go.Proofs.YtlfgcblijfflfaaGreat
open Go.RowKit Go.Maps Go.WideMaps
set_option linter.unusedSimpArgs false
set_option linter.unusedVariables false

def RetCls (r : Nat × List (List Int)) (w : World) (e : Ending) (w' : World) : Prop :=
  ∃ (C : Option Addr) (nC cC : Nat), e = .returned (.tuple #[.agg #[.int .i64 (r.1 : Int), .slice C nC cC], .agg #[.int .i64 0, .int .i64 0]]) ∧ OwnP 22 3 w' w.heap.size 0 C nC cC r.2 ∧ Below w.heap.size w w'
theorem ful_bd {ts : List (Int × Int)} {a : Int} (hn : ts.length ≤ 24) (hb : ∀ t ∈ ts, -1000 ≤ t.2 ∧ t.2 ≤ 1000) (ha : -10000 ≤ a ∧ a ≤ 10000) : (∀ t ∈ (fulF ts a).1, 0 < t.2 ∧ t.2 ≤ 1000) ∧ 0 ≤ (fulF ts a).2 ∧ (fulF ts a).2 ≤ 40000 := by
  have htm := tm_bd (M := 1000) hb
  have htb := tb_bd (M := 1000) (ts := ts) hb (by omega)
  have hnb := nrm_bd (M := 1000) (ts := tmF ts) (a := a - tbF ts) htm
  have hnz := (nrm_pos (ts := tmF ts) (a := a - tbF ts) (fun t ht => (htm t ht).1)).2.2.1
  have hfe : fulF ts a = satF (nrmF (tmF ts) (a - tbF ts)) := rfl
  rw [hfe]
  obtain ⟨⟨l, A⟩, hres⟩ : ∃ z, nrmF (tmF ts) (a - tbF ts) = z := ⟨_, rfl⟩
  rw [hres] at hnb hnz ⊢
  simp only at hnb hnz
  have hAb : 0 ≤ A ∧ A ≤ 40000 := by omega
  have hmp : ∀ t ∈ minT A l, 0 < t.2 ∧ t.2 ≤ 1000 := by
    rcases Int.lt_or_eq_of_le hAb.1 with h9 | h9
    · exact minT_bd h9 hnb.1
    · rw [hnz h9.symm]; simp [minT]
  have h9 := nrm_bd (M := 1000) (ts := minT A l) (a := A) hmp
  have e : satF (l, A) = nrmF (minT A l) A := rfl
  rw [e]
  exact ⟨h9.1, h9.2.1, by omega⟩
/-- The words of Clauses' loop. -/
structure ClSt (w W : World) (be bm : Nat) (q : Nq) (ts : List (Int × Int)) (b : Nat) (ms : List Int) : Prop where
  b0 : Below w.heap.size w W
  lo : w.heap.size ≤ be
  e : Blk W be 101 #[.slice q.L ts.length q.cL, .slice q.O ts.length q.cO, .int .i64 q.a, .int .i64 (b : Int), .slice none 0 0, .map (some bm), .slice q.M (ts.length + 1) q.cM]
  lm : w.heap.size ≤ bm
  l : Own 3 W w.heap.size q.L ts.length q.cL ((ts.map (·.1)).map (Value.int .i64))
  o : Own 3 W w.heap.size q.O ts.length q.cO ((ts.map (·.2)).map (Value.int .i64))
  m : Own 3 W w.heap.size q.M (ts.length + 1) q.cM (ms.map (Value.int .i64))
  k : MapN W bm 0 (.map [])
  dl : Dif q.L q.M
  do_ : Dif q.O q.M
  x0 : Blk W w.heap.size 54 #[.slice q.L ts.length q.cL, .slice q.O ts.length q.cO, .int .i64 q.a]
  x1 : Blk W (w.heap.size + 1) 25 #[.int .i64 0, .slice none 0 0]
  x2 : Blk W (w.heap.size + 1 + 1) 28 #[.int .i64 0, .int .i64 0]
theorem ClSt.keep {w W W' : World} {be bm : Nat} {q : Nq} {l : List (Int × Int)} {b : Nat} {ms : List Int} (h : ClSt w W be bm q l b ms) (hb : Below W.heap.size W W') : ClSt w W' be bm q l b ms :=
  ⟨below_next h.b0 hb, h.lo, h.e.keep hb, h.lm, h.l.keep hb, h.o.keep hb, h.m.keep hb, h.k.keep (hb.block bm (mapN_lt h.k)), h.dl, h.do_, h.x0.keep hb, h.x1.keep hb, h.x2.keep hb⟩
theorem ClSt.put {w W : World} {be bm g : Nat} {q : Nq} {l : List (Int × Int)} {b : Nat} {ms : List Int} (h : ClSt w W be bm q l b ms) (hq : q.M = some ⟨g, 0, none⟩) (k : Nat) (x : Int) : ClSt w (W.setCell ⟨g, k, none⟩ (.int .i64 x)) be bm q l b (ms.set k x) := by
  have hm := h.m
  have hdl := h.dl
  have hdo := h.do_
  rw [hq] at hm hdl hdo
  have hg : W.grownBy (W.setCell ⟨g, k, none⟩ (.int .i64 x)) (blockOf (some ⟨g, 0, none⟩)) := hm.grown_set k (.int .i64 x)
  have hnm : bm ≠ g := fun e => mapN_typed h.k (e ▸ (own_blk_lt hm rfl).2.2)
  refine ⟨below_grown h.b0 hm (Nat.le_refl _) hg, h.lo, h.e.ownGrown hm hg (by decide), h.lm, h.l.kept hg hdl, h.o.kept hg hdo, ?_, h.k.keep (hg.block bm (mapN_lt h.k) (fun e => hnm (by simpa [blockOf] using e))), h.dl, h.do_, h.x0.ownGrown hm hg (by decide), h.x1.ownGrown hm hg (by decide), h.x2.ownGrown hm hg (by decide)⟩
  rw [List.map_set, hq]
  exact hm.set_ k (.int .i64 x)
theorem ClSt.node {w W : World} {be bm : Nat} {q : Nq} {l : List (Int × Int)} {b : Nat} (h : ClSt w W be bm q l b (mostU l 0)) : NodSt w W be bm q l b ⟨[], []⟩ := by
  have hm := h.m
  rw [most_zero] at hm
  exact ⟨⟨h.b0, h.lo, none, 0, 0, h.e, OwnP.nil _ _ _ _ _⟩, h.lm, h.l, h.o, hm, _, h.k, KnD.nil b⟩
theorem made_ints (w : World) (n base : Nat) (hb : base ≤ w.heap.size) (hn : n ≤ maxLen) : Own 3 (w.alloc (.cells (madeCells #[.int .i64 0] n) 3)) base (some ⟨w.heap.size, 0, none⟩) n n ((List.replicate n (0 : Int)).map (Value.int .i64)) := by
  have hs := size_madeCells #[Value.int .i64 0] n
  have hl : (madeCells #[Value.int .i64 0] n).toList = (List.replicate n (0 : Int)).map (Value.int .i64) := by
    apply List.ext_getElem?
    intro i
    rw [Array.getElem?_toList]
    by_cases hi : i < n
    · simp [madeCells, hi, Nat.mod_one]
    · rw [Array.getElem?_eq_none (by rw [hs]; omega), List.getElem?_eq_none (by simp; omega)]
  refine ⟨by simp, .inr ⟨w.heap.size, n, madeCells #[Value.int .i64 0] n, rfl, hb, heap_alloc_new w _, Nat.le_refl _, hn, by rw [hs, Nat.mul_one], ?_⟩⟩
  rw [hl, Nat.mul_one]
  exact List.take_of_length_le (by simp)

/-- The clauses are written into the result's box, no fault into the other one. -/
theorem cls_stored {w W W9 : World} {C : Option Addr} {nC cC r : Nat} {xss : List (List Int)} {y0 y1 : Value} {vv : Int} (h1 : Blk W (w.heap.size + 1) 25 #[y0, y1]) (h2 : Blk W (w.heap.size + 1 + 1) 28 #[.int .i64 0, .int .i64 0]) (hb : Below w.heap.size w W)
    (hC : OwnP 22 3 W w.heap.size 0 C nC cC xss) (hv : (r : Int) = vv) (hW9 : W9 = (W.setCell ⟨w.heap.size + 1, 0, none⟩ (.int .i64 vv)).setCell ⟨w.heap.size + 1, 1, none⟩ (.slice C nC cC)) :
    (W9.setCell ⟨w.heap.size + 1 + 1, 0, none⟩ (.int .i64 0)).setCell ⟨w.heap.size + 1 + 1, 1, none⟩ (.int .i64 0) = W9 ∧ Blk W9 (w.heap.size + 1) 25 #[.int .i64 vv, .slice C nC cC] ∧ Blk W9 (w.heap.size + 1 + 1) 28 #[.int .i64 0, .int .i64 0] ∧
      RetCls (r, xss) w (.returned (.tuple #[.agg #[.int .i64 vv, .slice C nC cC], .agg #[.int .i64 0, .int .i64 0]])) W9 := by
  have g1 := grown_setCell W ⟨w.heap.size + 1, 0, none⟩ (.int .i64 vv)
  have K0 : Blk (W.setCell ⟨w.heap.size + 1, 0, none⟩ (.int .i64 vv)) (w.heap.size + 1) 25 #[.int .i64 vv, y1] := by have := h1.set_ 0 (.int .i64 vv); simpa using this
  have g2 := grown_setCell (W.setCell ⟨w.heap.size + 1, 0, none⟩ (.int .i64 vv)) ⟨w.heap.size + 1, 1, none⟩ (.slice C nC cC)
  have K5 : Blk W9 (w.heap.size + 1) 25 #[.int .i64 vv, .slice C nC cC] := by rw [hW9]; have := K0.set_ 1 (.slice C nC cC); simpa using this
  have hne : w.heap.size + 1 + 1 ≠ w.heap.size + 1 := by omega
  have K6 : Blk W9 (w.heap.size + 1 + 1) 28 #[.int .i64 0, .int .i64 0] := by rw [hW9]; exact (h2.far (p := ⟨w.heap.size + 1, 0, none⟩) hne _).far (p := ⟨w.heap.size + 1, 1, none⟩) hne _
  have hP1 := ownP_kN hC g1 (fun k hk => by cases hk; exact ⟨Nat.zero_le _, Typed.of_blk h1⟩) (by decide) (by decide)
  have hP2 := ownP_kN hP1 g2 (fun k hk => by cases hk; exact ⟨Nat.zero_le _, Typed.of_blk K0⟩) (by decide) (by decide)
  refine ⟨by rw [setCell_id K6 rfl, setCell_id K6 rfl], K5, K6, C, nC, cC, by rw [← hv], ?_, ?_⟩
  · rw [hW9]; exact hP2
  · rw [hW9]; exact below_put2 hb (g := w.heap.size + 1) (Nat.le_succ _) _ _

set_option maxHeartbeats 8000000 in
set_option maxRecDepth 100000 in
theorem clauses_any (L O : Option Addr) (n c d : Nat) (ts : List (Int × Int)) (a : Int) (b : Nat) (w : World) (h1 : Ints w L n c (ts.map (·.1))) (h2 : Ints w O n d (ts.map (·.2))) (hu : UpT b ts) (hb0 : 0 < b) (hb1 : b ≤ 20) (hn : n ≤ 4) (hb : ∀ t ∈ ts, -1000 ≤ t.2 ∧ t.2 ≤ 1000) (ha : -10000 ≤ a ∧ a ≤ 10000) :
    Calls Tryz.prog 18 #[.agg #[.slice L n c, .slice O n d, .int .i64 a], .int .i64 (b : Int)] w (RetCls (clsN (fulF ts a).1 b (fulF ts a).2) w) := by
  have hlen : Hid (ts.length = n) := by have := h1.len; rw [List.length_map] at this; exact this
  have hbd1 := h1.bd
  have hbd2 := h2.bd
  obtain ⟨wA, hwA⟩ : ∃ z : World, Hid (z = ((w.alloc (.cells #[.slice L n c, .slice O n d, .int .i64 a] 54)).alloc (.cells #[.int .i64 0, .slice none 0 0] 25)).alloc (.cells #[.int .i64 0, .int .i64 0] 28)) := ⟨_, rfl⟩
  obtain ⟨k1, k2, k3, hB, hS⟩ := blk3 (w := w) (wr := wA) (t := 54) (t' := 25) (t'' := 28) (cs := #[.slice L n c, .slice O n d, .int .i64 a]) (cs' := #[.int .i64 0, .slice none 0 0]) (cs'' := #[.int .i64 0, .int .i64 0]) (by rw [hwA.out]; exact Below.refl _ _)
  have H1 := Lib.hid (h1.keep hB)
  have H2 := Lib.hid (h2.keep hB)
  have HU := Lib.hid hu
  have HBD := Lib.hid hb
  have HC := check_heap L O n c d _ _ a b wA H1.out H2.out (by omega) (by omega) (by omega) hu.lits.1 hu.lits.2 (fun o ho => by obtain ⟨t, ht, rfl⟩ := List.mem_map.1 ho; have := hb t ht; omega) (by omega) (by omega)
  have hfo := ful_ok (a := a) hu
  have hfb := ful_bd (ts := ts) (a := a) (by have := hlen.out; omega) hb ha
  obtain ⟨⟨l, A⟩, hres⟩ : ∃ z, Hid (fulF ts a = z) := ⟨_, rfl⟩
  rw [hres.out] at hfo hfb ⊢
  simp only at hfo hfb ⊢
  have HFO := Lib.hid hfo
  have HFB := Lib.hid hfb.1
  have hAb := hfb.2
  have hl4 : l.length ≤ 4 := by have := hfo.2.2; have := hlen.out; omega
  have K1 := Lib.hid k1
  have K2 := Lib.hid k2
  have K3 := Lib.hid k3
  have HB := Lib.hid hB
  have HS := Lib.hid hS
  have c0 := k1.cell 0
  have c1 := k1.cell 1
  have c2 := k1.cell 2
  have cl := k1.lt
  simp at c0 c1 c2
  clear h1 h2 hu hb k1 k2 k3 hB hS
  go_enter Tryz.func18, Tryz.ntmps18
  go_wp2_with fail
  rw [← hwA.out]
  refine HC.mono ?_
  rintro e w1 ⟨rfl, hb1'⟩
  obtain ⟨w2, hw2⟩ : ∃ z : World, Hid (z = w1.alloc (.cells #[.int .i64 0, .int .i64 0] 28)) := ⟨_, rfl⟩
  have hb2 : Below wA.heap.size wA w2 := by rw [hw2.out]; exact below_next hb1' (below_new _ _)
  have J1 := Lib.hid (K1.out.keep hb2)
  have J2 := Lib.hid (K2.out.keep hb2)
  have J3 := Lib.hid (K3.out.keep hb2)
  have HB2 := Lib.hid (below_next HB.out hb2)
  have j1 := K1.out.keep hb1'
  have c0 := j1.cell 0
  have c1 := j1.cell 1
  have c2 := j1.cell 2
  have cl := j1.lt
  simp at c0 c1 c2
  have HFU := full_any L O n c d ts a w2 (H1.out.keep hb2) (H2.out.keep hb2) (HU.out.wide (by omega)) (by omega) HBD.out ha
  have HS2 : Hid (w.heap.size + 3 ≤ w2.heap.size) := Nat.le_trans HS.out hb2.size
  rw [hres.out] at HFU
  clear hb1' hb2 K1 K2 K3 HB H1 H2 HC j1 hfo hfb HU HBD HS
  go_wp2_with fail
  rw [← hw2.out]
  refine HFU.mono ?_
  rintro e w5 ⟨K, N, m, ck, cn, rfl, hK, hN, hD, hb5⟩
  simp only at hK hN
  have hml : Hid (l.length = m) := by have := hK.len; rw [List.length_map, List.length_map] at this; exact this
  have I1 := Lib.hid (J1.out.keep hb5)
  have I2 := Lib.hid (J2.out.keep hb5)
  have I3 := Lib.hid (J3.out.keep hb5)
  have HB5 := Lib.hid (below_next HB2.out hb5)
  have c0 := I1.out.cell 0
  have c1 := I1.out.cell 1
  have c2 := I1.out.cell 2
  have c3 := I1.out.frozen 0
  have c4 := I1.out.frozen 1
  have c5 := I1.out.frozen 2
  have cl := I1.out.lt
  simp at c0 c1 c2
  obtain ⟨W3, hW3⟩ : ∃ z : World, Hid (z = ((w5.setCell ⟨w.heap.size, 0, none⟩ (.slice K m ck)).setCell ⟨w.heap.size, 1, none⟩ (.slice N m cn)).setCell ⟨w.heap.size, 2, none⟩ (.int .i64 A)) := ⟨_, rfl⟩
  obtain ⟨_, K5, K6, B9, own3⟩ := heap_stored (w := w) (r' := w.heap.size + 1 + 1) I1.out I3.out (by omega) HB5.out (Nat.le_refl _) (.slice K m ck) (.slice N m cn) (.int .i64 A) hW3.out
  have K7 : Blk W3 (w.heap.size + 1) 25 #[.int .i64 0, .slice none 0 0] := by
    rw [hW3.out]
    have hne : w.heap.size + 1 ≠ w.heap.size := by omega
    exact ((I2.out.far (p := ⟨w.heap.size, 0, none⟩) hne _).far (p := ⟨w.heap.size, 1, none⟩) hne _).far (p := ⟨w.heap.size, 2, none⟩) hne _
  obtain ⟨W4, hW4⟩ : ∃ z : World, Hid (z = W3.alloc (.cells #[.int .i64 0, .int .i64 0] 28)) := ⟨_, rfl⟩
  have hb4 : Below W3.heap.size W3 W4 := by rw [hW4.out]; exact below_new _ _
  have X0 := Lib.hid (K5.keep hb4)
  have X1 := Lib.hid (K7.keep hb4)
  have X2 := Lib.hid (K6.keep hb4)
  have HK4 : Hid (Own 3 W4 w.heap.size K m ck ((l.map (·.1)).map (Value.int .i64))) := ((own3 hK).mono HB2.out.size).keep hb4
  have HN4 : Hid (Own 3 W4 w.heap.size N m cn ((l.map (·.2)).map (Value.int .i64))) := ((own3 hN).mono HB2.out.size).keep hb4
  have HB4 := Lib.hid (below_next B9 hb4)
  have HDK : Hid (∀ g, blockOf K = some g → g < W4.heap.size) := fun g hg => (own_blk_lt HK4.out hg).1
  have HDN : Hid (∀ g, blockOf N = some g → g < W4.heap.size) := fun g hg => (own_blk_lt HN4.out hg).1
  have hm4 : m ≤ 4 := by rw [← hml.out]; exact hl4
  have hKbd := HK4.out.sl.cap
  have hNbd := HN4.out.sl.cap
  obtain ⟨i0, hi0, hz0, hz1, hz2⟩ := info_parts int_info
  have hmm := @run_makeMap Tryz.prog
  have hmk : ∀ W : World, (Instr.makeSlice 22 (.int .i64 ((m : Int) + 1)) (.int .i64 ((m : Int) + 1))).run Tryz.prog W = .ok (.slice (some ⟨W.heap.size, 0, none⟩) (m + 1) (m + 1)) (W.alloc (.cells (madeCells #[.int .i64 0] (m + 1)) 3)) := fun W => by
    have := run_make_row 22 3 i0 (.int .i64 0) Tryz.underlying22 hi0 hz0 hz1 rfl .i64 .i64 (m + 1) (by rw [hz2]; omega) (by omega) W
    rw [show (((m + 1 : Nat)) : Int) = (m : Int) + 1 by omega] at this
    exact this
  have zm : IntKind.i64.wrap ((m : Int) + 1) = (m : Int) + 1 := IntWalk.i64_in _ (by omega)
  clear hK hN hD hb5 J1 J2 J3 HB2 HFU I1 I2 I3 HB5 own3 B9 K5 K6 K7 hb4 hw2
  go_wp2_with fail
  rw [← hW3.out, ← hW4.out]
  obtain ⟨W5, hwd⟩ : ∃ z : World, z = W4.drew := ⟨_, rfl⟩
  have hbd5 : Below W4.heap.size W4 W5 := by rw [hwd]; exact below_drewN _ 1
  have Y0 := Lib.hid (X0.out.keep hbd5)
  have Y1 := Lib.hid (X1.out.keep hbd5)
  have Y2 := Lib.hid (X2.out.keep hbd5)
  have HK5 := Lib.hid (HK4.out.keep hbd5)
  have HN5 := Lib.hid (HN4.out.keep hbd5)
  have HB5 := Lib.hid (below_next HB4.out hbd5)
  have HSZ : Hid (W4.heap.size ≤ W5.heap.size) := hbd5.size
  have HB4S : Hid (w.heap.size ≤ W4.heap.size) := HB4.out.size
  have y0 := Y0.out.cell 0
  have y1 := Y0.out.cell 1
  have y2 := Y0.out.cell 2
  have yl := Y0.out.lt
  simp only [List.getElem?_toArray, List.getElem?_cons_zero, List.getElem?_cons_succ] at y0 y1 y2
  have hS : W5.cell? ⟨w.heap.size, 0, none⟩ = some (.slice K m ck) ∧ W5.cell? ⟨w.heap.size, 1, none⟩ = some (.slice N m cn) ∧ W5.cell? ⟨w.heap.size, 2, none⟩ = some (.int .i64 A) ∧ w.heap.size < W5.heap.size := ⟨y0, y1, y2, yl⟩
  refine wp_region_tail (fun w' => w'.cell? ⟨w.heap.size, 0, none⟩ = some (.slice K m ck) ∧ w'.cell? ⟨w.heap.size, 1, none⟩ = some (.slice N m cn) ∧ w'.cell? ⟨w.heap.size, 2, none⟩ = some (.int .i64 A) ∧ w.heap.size < w'.heap.size) [] (by kernel_rfl) ?_
  change wpAnyT _ _ _ _ _ _ _ _ _ W4.drew
  rw [← hwd]
  clear hwd hbd5 c0 c1 c2 c3 c4 c5 cl HK4 HN4 HB4 X0 X1 X2 hW3 hW4 y0 y1 y2 yl

  refine takeS (i := 0) (oi := _) (v := ?_) rfl (by kernel_rfl) (by kernel_rfl) (by kernel_rfl) (fun _ _ _ h => h) rfl (by kernel_rfl) (by kernel_rfl) (Or.inl ⟨by rfl, ?_⟩) hS ?_
  rotate_left
  · intro w0 hSw; (try dsimp only at hSw); go_simp; with_reducible rfl
  (try simp only [Act.put, List.setIfInBounds_toArray, List.set_cons_zero, List.set_cons_succ])
  refine take0 (i := 1) (oi := _) (v := ?_) rfl (by kernel_rfl) (by kernel_rfl) (by kernel_rfl) (fun _ _ _ h => h) rfl (Or.inl ⟨by rfl, ?_⟩) (fun _ => hS) ?_
  rotate_left
  · intro w0; go_simp; with_reducible rfl
  (try simp only [Act.put, List.setIfInBounds_toArray, List.set_cons_zero, List.set_cons_succ])
  refine take0 (i := 2) (oi := _) (v := ?_) rfl (by kernel_rfl) (by kernel_rfl) (by kernel_rfl) (fun _ _ _ h => h) rfl (Or.inl ⟨by rfl, ?_⟩) (fun _ => hS) ?_
  rotate_left
  · intro w0; go_simp; with_reducible rfl
  (try simp only [Act.put, List.setIfInBounds_toArray, List.set_cons_zero, List.set_cons_succ])
  refine take0 (i := 4) (oi := _) (v := ?_) rfl (by kernel_rfl) (by kernel_rfl) (by kernel_rfl) (fun _ _ _ h => h) rfl (Or.inl ⟨by rfl, ?_⟩) (fun _ => hS) ?_
  rotate_left
  · intro w0; go_simp; with_reducible rfl
  (try simp only [Act.put, List.setIfInBounds_toArray, List.set_cons_zero, List.set_cons_succ])
  refine takeS (i := 5) (oi := _) (v := ?_) rfl (by kernel_rfl) (by kernel_rfl) (by kernel_rfl) (fun _ _ _ h => h) rfl (by kernel_rfl) (by kernel_rfl) (Or.inl ⟨by rfl, ?_⟩) hS ?_
  rotate_left
  · intro w0 hSw; (try dsimp only at hSw); go_simp; with_reducible rfl
  (try simp only [Act.put, List.setIfInBounds_toArray, List.set_cons_zero, List.set_cons_succ])
  refine take0 (i := 6) (oi := _) (v := ?_) rfl (by kernel_rfl) (by kernel_rfl) (by kernel_rfl) (fun _ _ _ h => h) rfl (Or.inl ⟨by rfl, ?_⟩) (fun _ => hS) ?_
  rotate_left
  · intro w0; go_simp; with_reducible rfl
  (try simp only [Act.put, List.setIfInBounds_toArray, List.set_cons_zero, List.set_cons_succ])
  refine take0 (i := 7) (oi := _) (v := ?_) rfl (by kernel_rfl) (by kernel_rfl) (by kernel_rfl) (fun _ _ _ h => h) rfl (Or.inl ⟨by rfl, ?_⟩) (fun _ => hS) ?_
  rotate_left
  · intro w0; go_simp; with_reducible rfl
  (try simp only [Act.put, List.setIfInBounds_toArray, List.set_cons_zero, List.set_cons_succ])
  refine twoT (i := 3) (j := 8) (by kernel_rfl) rfl (by rfl) rfl (by rfl) (fun Kq hK => ?_) (fun Kq hK => ?_)
  · go_simp
    obtain ⟨W6, hwa⟩ : ∃ z : World, z = W5.alloc (.map #[] 0) := ⟨_, rfl⟩
    have hba : Below W5.heap.size W5 W6 := by rw [hwa]; exact below_new _ _
    have HMP : Hid (MapN W6 W5.heap.size 0 (.map [])) := by rw [hwa]; exact World.ownsMap_made (H := Unit) W5 Tryz.prog 127 (plainElem Tryz.prog 3)
    replace Y0 := Lib.hid (Y0.out.keep hba)
    replace Y1 := Lib.hid (Y1.out.keep hba)
    replace Y2 := Lib.hid (Y2.out.keep hba)
    replace HK5 := Lib.hid (HK5.out.keep hba)
    replace HN5 := Lib.hid (HN5.out.keep hba)
    replace HB5 := Lib.hid (below_next HB5.out hba)
    have HZ6 : Hid (W5.heap.size ≤ W6.heap.size) := hba.size
    replace hS : W6.cell? ⟨w.heap.size, 0, none⟩ = some (.slice K m ck) ∧ W6.cell? ⟨w.heap.size, 1, none⟩ = some (.slice N m cn) ∧ W6.cell? ⟨w.heap.size, 2, none⟩ = some (.int .i64 A) ∧ w.heap.size < W6.heap.size := ⟨keepBox hba hS.1, keepBox hba hS.2.1, keepBox hba hS.2.2.1, Nat.lt_of_lt_of_le hS.2.2.2 hba.size⟩
    rw [← hwa]
    clear hwa
    clear hba
    refine hK _ _ (fun _ => hS) ?_
    clear hK
    (try simp only [Act.put, List.setIfInBounds_toArray, List.set_cons_zero, List.set_cons_succ])
    refine oneT (i := 8) (by kernel_rfl) rfl (by rfl) (fun Kq hK => ?_)
    go_simp
    obtain ⟨W7, hwa⟩ : ∃ z : World, z = W6.alloc (.cells (madeCells #[.int .i64 0] (m + 1)) 3) := ⟨_, rfl⟩
    have hba : Below W6.heap.size W6 W7 := by rw [hwa]; exact below_new _ _
    have HMM : Hid (Own 3 W7 w.heap.size (some ⟨W6.heap.size, 0, none⟩) (m + 1) (m + 1) ((List.replicate (m + 1) (0 : Int)).map (Value.int .i64))) := by rw [hwa]; exact made_ints W6 (m + 1) w.heap.size HB5.out.size (by simp [maxLen]; omega)
    replace HMP := Lib.hid (HMP.out.keep (hba.block _ (mapN_lt HMP.out)))
    replace Y0 := Lib.hid (Y0.out.keep hba)
    replace Y1 := Lib.hid (Y1.out.keep hba)
    replace Y2 := Lib.hid (Y2.out.keep hba)
    replace HK5 := Lib.hid (HK5.out.keep hba)
    replace HN5 := Lib.hid (HN5.out.keep hba)
    replace HB5 := Lib.hid (below_next HB5.out hba)
    have HZ7 : Hid (W6.heap.size ≤ W7.heap.size) := hba.size
    replace hS : W7.cell? ⟨w.heap.size, 0, none⟩ = some (.slice K m ck) ∧ W7.cell? ⟨w.heap.size, 1, none⟩ = some (.slice N m cn) ∧ W7.cell? ⟨w.heap.size, 2, none⟩ = some (.int .i64 A) ∧ w.heap.size < W7.heap.size := ⟨keepBox hba hS.1, keepBox hba hS.2.1, keepBox hba hS.2.2.1, Nat.lt_of_lt_of_le hS.2.2.2 hba.size⟩
    rw [← hwa]
    clear hwa
    clear hba
    refine hK _ _ (fun _ => hS) ?_
    clear hK
    (try simp only [Act.put, List.setIfInBounds_toArray, List.set_cons_zero, List.set_cons_succ])
    refine take0 (i := 9) (oi := _) (v := ?_) rfl (by kernel_rfl) (by kernel_rfl) (by kernel_rfl) (fun _ _ _ h => h) rfl (Or.inl ⟨by rfl, ?_⟩) (fun _ => hS) ?_
    rotate_left
    · intro w0; go_simp; with_reducible rfl
    (try simp only [Act.put, List.setIfInBounds_toArray, List.set_cons_zero, List.set_cons_succ])
    refine oneT (i := 10) (by kernel_rfl) rfl (by rfl) (fun Kq hK => ?_)
    go_simp
    obtain ⟨W8, hwa⟩ : ∃ z : World, z = W7.alloc (.cells #[.slice K m ck, .slice N m cn, .int .i64 A, .int .i64 (b : Int), .slice none 0 0, .map (some W5.heap.size), .slice (some ⟨W6.heap.size, 0, none⟩) (m + 1) (m + 1)] 101) := ⟨_, rfl⟩
    have hba : Below W7.heap.size W7 W8 := by rw [hwa]; exact below_new _ _
    have HEB : Hid (Blk W8 W7.heap.size 101 #[.slice K m ck, .slice N m cn, .int .i64 A, .int .i64 (b : Int), .slice none 0 0, .map (some W5.heap.size), .slice (some ⟨W6.heap.size, 0, none⟩) (m + 1) (m + 1)]) := by rw [hwa]; exact Blk.new _ _ _
    replace HMP := Lib.hid (HMP.out.keep (hba.block _ (mapN_lt HMP.out)))
    replace HMM := Lib.hid (HMM.out.keep hba)
    replace Y0 := Lib.hid (Y0.out.keep hba)
    replace Y1 := Lib.hid (Y1.out.keep hba)
    replace Y2 := Lib.hid (Y2.out.keep hba)
    replace HK5 := Lib.hid (HK5.out.keep hba)
    replace HN5 := Lib.hid (HN5.out.keep hba)
    replace HB5 := Lib.hid (below_next HB5.out hba)
    have HZ8 : Hid (W7.heap.size ≤ W8.heap.size) := hba.size
    replace hS : W8.cell? ⟨w.heap.size, 0, none⟩ = some (.slice K m ck) ∧ W8.cell? ⟨w.heap.size, 1, none⟩ = some (.slice N m cn) ∧ W8.cell? ⟨w.heap.size, 2, none⟩ = some (.int .i64 A) ∧ w.heap.size < W8.heap.size := ⟨keepBox hba hS.1, keepBox hba hS.2.1, keepBox hba hS.2.2.1, Nat.lt_of_lt_of_le hS.2.2.2 hba.size⟩
    rw [← hwa]
    clear hwa
    clear hba
    refine hK _ _ (fun _ => hS) ?_
    clear hK
    (try simp only [Act.put, List.setIfInBounds_toArray, List.set_cons_zero, List.set_cons_succ])
    refine take0 (i := 11) (oi := _) (v := ?_) rfl (by kernel_rfl) (by kernel_rfl) (by kernel_rfl) (fun _ _ _ h => h) rfl (Or.inl ⟨by rfl, ?_⟩) (fun _ => hS) ?_
    rotate_left
    · intro w0; go_simp; with_reducible rfl
    (try simp only [Act.put, List.setIfInBounds_toArray, List.set_cons_zero, List.set_cons_succ])
    refine doneT (by kernel_rfl) ?_ _
    have hdk : Dif K (some ⟨W6.heap.size, 0, none⟩) := .inr (fun e => by have h8 := HDK.out _ e; have h9 := HSZ.out; have h10 := HZ6.out; simp at h8; omega)
    have hdn : Dif N (some ⟨W6.heap.size, 0, none⟩) := .inr (fun e => by have h8 := HDN.out _ e; have h9 := HSZ.out; have h10 := HZ6.out; simp at h8; omega)
    have hlo1 : w.heap.size ≤ W7.heap.size := by have h8 := HB4S.out; have h9 := HSZ.out; have h10 := HZ6.out; have h11 := HZ7.out; omega
    have hlo2 : w.heap.size ≤ W5.heap.size := by have h8 := HB4S.out; have h9 := HSZ.out; have h10 := HZ6.out; have h11 := HZ7.out; omega
    obtain ⟨be, hbe⟩ : ∃ z, Hid (W7.heap.size = z) := ⟨_, rfl⟩
    obtain ⟨bm, hbm⟩ : ∃ z, Hid (W5.heap.size = z) := ⟨_, rfl⟩
    obtain ⟨gM, hgM⟩ : ∃ z, Hid (W6.heap.size = z) := ⟨_, rfl⟩
    rw [hbe.out] at HEB hlo1 ⊢
    rw [hbm.out] at HEB HMP hlo2 ⊢
    rw [hgM.out] at HEB HMM hdk hdn ⊢
    have HCL : Hid (ClSt w W8 be bm ⟨K, ck, N, cn, some ⟨gM, 0, none⟩, m + 1, A⟩ l b (mostU l m)) := by
      have e1 : mostU l m = List.replicate (m + 1) 0 := by rw [← hml.out, most_end]
      rw [e1]
      refine ⟨HB5.out, hlo1, ?_, hlo2, ?_, ?_, ?_, HMP.out, hdk, hdn, ?_, Y1.out, Y2.out⟩
      · rw [hml.out]; exact HEB.out
      · rw [hml.out]; exact HK5.out
      · rw [hml.out]; exact HN5.out
      · rw [hml.out]; exact HMM.out
      · rw [hml.out]; exact Y0.out
    clear hS Y0 Y1 Y2 HK5 HN5 HB5 HMM HMP HEB hbe hbm hgM hdk hdn HZ6 HZ7 HZ8 hmm hmk hlo1 hlo2 HDK HDN
    have hx1 := HCL.out.x0.cell 1
    have hxl := HCL.out.x0.lt
    simp only [List.getElem?_toArray, List.getElem?_cons_zero, List.getElem?_cons_succ, hml.out] at hx1
    go_wp2_with fail
    clear hx1 hxl
    go_loopw [9] (fun s9 wr => ∃ k : Nat, k ≤ m ∧ s9 = .int .i64 ((k : Int) - 1) ∧ Hid (ClSt w wr be bm ⟨K, ck, N, cn, some ⟨gM, 0, none⟩, m + 1, A⟩ l b (mostU l k))) (fun z _ => (intOf z + 1).toNat)
    case atStart => exact ⟨m, Nat.le_refl _, rfl, HCL⟩
    case round =>
      clear HCL
      obtain ⟨k, hk, rfl, HC⟩ := hrel
      by_cases hk0 : k = 0
      · subst hk0
        have dk : decide (((0 : Nat) : Int) - 1 ≥ 0) = false := by simp
        have dk2 : decide ((0 : Int) ≤ -1) = false := by simp
        have HN := Lib.hid HC.out.node
        have hx2 := HC.out.x0.cell 2
        have hxl := HC.out.x0.lt
        simp only [List.getElem?_toArray, List.getElem?_cons_zero, List.getElem?_cons_succ] at hx2
        have hnst : NstOk l b ⟨[], []⟩ := ⟨by simp, by simp, fun m hm => by simp [allB]⟩
        have hpow : 2 ^ (l.length - 0) ≤ 16 := by
          have : 2 ^ (l.length - 0) ≤ 2 ^ 4 := Nat.pow_le_pow_right (by omega) (by omega)
          omega
        have hpos : ∀ t ∈ l, 0 < t.2 ∧ t.2 ≤ 10000 := fun t ht => by have := HFB.out t ht; omega
        have hlt := HFO.out.1.1
        have hnode := node_any (w0 := w) (be := be) (bm := bm) (q := ⟨K, ck, N, cn, some ⟨gM, 0, none⟩, m + 1, A⟩) hb0 hb1 hpos hlt (by omega) l.length 0 A ⟨[], []⟩ wr HN.out hnst (Nat.zero_le _) (by omega) (by omega) (by omega) (Nat.le_refl _) (by show 0 + 2 ^ (l.length - 0) ≤ 100; omega)
        have d := nod_ok hb0 (fun t ht => (hpos t ht).1) hlt l.length 0 A ⟨[], []⟩ hnst (Nat.zero_le _) (by omega)
        have hcl : clsN l b A = (b + (nodF l b l.length 0 A ⟨[], []⟩).1.ns.length, if (nodF l b l.length 0 A ⟨[], []⟩).2.2 = false then (nodF l b l.length 0 A ⟨[], []⟩).1.cs ++ [[(nodF l b l.length 0 A ⟨[], []⟩).2.1]] else if (nodF l b l.length 0 A ⟨[], []⟩).2.1 < 0 then (nodF l b l.length 0 A ⟨[], []⟩).1.cs ++ [[]] else (nodF l b l.length 0 A ⟨[], []⟩).1.cs) := rfl
        obtain ⟨r, hr⟩ : ∃ z, Hid (nodF l b l.length 0 A ⟨[], []⟩ = z) := ⟨_, rfl⟩
        rw [hr.out] at hnode d hcl
        obtain ⟨s, v, cc⟩ := r
        simp only at d hcl
        have hbd9 := ndd_bd d
        obtain ⟨xx, ex, gx⟩ := d.cs
        have hcnt := d.cnt
        simp only [List.length_nil, List.nil_append, Nat.mul_zero, Nat.add_zero, Nat.zero_add] at ex gx hcnt
        rw [← ex] at gx
        have HCL9 : Hid (s.cs.length ≤ 30) := by show _ ≤ _; omega
        obtain ⟨vv, hvv⟩ : ∃ z : Int, Hid (((b + s.ns.length : Nat) : Int) = z) := ⟨_, rfl⟩
        have hvb : 0 ≤ vv ∧ vv ≤ 40 := by rw [← hvv.out]; omega
        have hvb2 : -1 ≤ v ∧ v ≤ 40 ∧ v ≠ 0 := by omega
        have HCL0 := Lib.hid hcl
        have HXX1 := Lib.hid HC.out.x1
        have HXX2 := Lib.hid HC.out.x2
        have HNM : Hid (∀ t, ¬ Typed t wr bm) := fun t => mapN_typed HC.out.k
        rw [show ((0 : Nat) : Int) = 0 from rfl] at hnode
        clear hnst hpow hpos hlt d hcl hbd9 ex gx hcnt HC
        go_wp2_with fail
        refine hnode.mono ?_
        rintro e w7 ⟨rfl, hN7, hF7⟩
        have HN7 := Lib.hid hN7
        have HX1b : Hid (Blk w7 (w.heap.size + 1) 25 #[.int .i64 0, .slice none 0 0]) := HXX1.out.frM hF7 (HNM.out _) (by decide) (by decide)
        have HX2b : Hid (Blk w7 (w.heap.size + 1 + 1) 28 #[.int .i64 0, .int .i64 0]) := HXX2.out.frM hF7 (HNM.out _) (by decide) (by decide)
        clear hN7 hF7 hnode hx2 hxl HXX1 HXX2 HNM HN
        cases cc with
        | false =>
          have HCLS : Hid (clsN l b A = (b + s.ns.length, s.cs ++ [[v]])) := by show _ = _; rw [HCL0.out]; simp
          have hb3 : Below w7.heap.size w7 (w7.alloc (.cells #[.int .i64 v] 3)) := below_new _ _
          have hO3 : Own 3 (w7.alloc (.cells #[.int .i64 v] 3)) w7.heap.size (some ⟨w7.heap.size, 0, none⟩) 1 1 (([v] : List Int).map (Value.int .i64)) := own_new 3 w7 w7.heap.size (([v] : List Int).map (Value.int .i64)) rfl (Nat.le_refl _) (by simp [maxLen])
          have HN8 := Lib.hid (HN7.out.keep hb3)
          have hadd := addN_any (some ⟨w7.heap.size, 0, none⟩) 1 1 [v] HN8.out.e (hO3.ints (fun z hz => by simp at hz; unfold I64; omega)) (fun z hz => by simp at hz; omega) (by omega) (by have := HCL9.out; show s.cs.length ≤ 1000; omega)
          have HX1a : Hid (Blk (w7.alloc (.cells #[.int .i64 v] 3)) (w.heap.size + 1) 25 #[.int .i64 0, .slice none 0 0]) := HX1b.out.keep hb3
          have HX2a : Hid (Blk (w7.alloc (.cells #[.int .i64 v] 3)) (w.heap.size + 1 + 1) 28 #[.int .i64 0, .int .i64 0]) := HX2b.out.keep hb3
          clear hb3 hO3 HN7 HX1b HX2b
          go_wp2_with fail
          refine hadd.mono ?_
          rintro e WN ⟨rfl, hEN, hFN⟩
          have HEN : Hid (EncN w WN be bm ⟨K, ck, N, cn, some ⟨gM, 0, none⟩, m + 1, A⟩ l.length ((b + s.ns.length : Nat) : Int) (s.cs ++ [[v]])) := by rw [show ([[v]] : List (List Int)) = [sortF [v]] by simp [sortF, insF]]; exact hEN
          have HXL : Hid ((s.cs ++ [[v]]).length ≤ 31) := by have := HCL9.out; show _ ≤ _; simp; omega
          have HX1 : Hid (Blk WN (w.heap.size + 1) 25 #[.int .i64 0, .slice none 0 0]) := HX1a.out.frN hFN (by decide) (by decide)
          have HX2 : Hid (Blk WN (w.heap.size + 1 + 1) 28 #[.int .i64 0, .int .i64 0]) := HX2a.out.frN hFN (by decide) (by decide)
          clear hEN hFN hadd HX1a HX2a
          obtain ⟨C, nC, cC, hE9, hC9⟩ := HEN.out.e
          have hnc : nC ≤ 31 := by have h9 := hC9.len; have h10 := HXL.out; omega
          have k3 := hE9.cell 3
          have k4 := hE9.cell 4
          have kl := hE9.lt
          simp only [List.getElem?_toArray, List.getElem?_cons_zero, List.getElem?_cons_succ] at k3 k4
          rw [hvv.out] at k3
          have g0 := HX1.out.cell 0
          have g1 := HX1.out.cell 1
          have g2 := HX1.out.frozen 0
          have g3 := HX1.out.frozen 1
          have g4 := HX1.out.lt
          have g5 := HX2.out.cell 0
          have g6 := HX2.out.cell 1
          have g7 := HX2.out.frozen 0
          have g8 := HX2.out.frozen 1
          have g9 := HX2.out.lt
          simp only [List.getElem?_toArray, List.getElem?_cons_zero, List.getElem?_cons_succ] at g0 g1 g5 g6
          obtain ⟨W9, hW9⟩ : ∃ z : World, Hid (z = (WN.setCell ⟨w.heap.size + 1, 0, none⟩ (.int .i64 vv)).setCell ⟨w.heap.size + 1, 1, none⟩ (.slice C nC cC)) := ⟨_, rfl⟩
          obtain ⟨Z, K5, K6, R9⟩ := cls_stored (r := b + s.ns.length) HX1.out HX2.out HEN.out.b hC9 hvv.out hW9.out
          have Z2 := Lib.hid Z
          have R2 : Hid (RetCls (clsN l b A) w (.returned (.tuple #[.agg #[.int .i64 vv, .slice C nC cC], .agg #[.int .i64 0, .int .i64 0]])) W9) := by rw [HCLS.out]; exact R9
          have s10 := K5.cell 0
          have s11 := K5.cell 1
          have s13 := K6.cell 0
          have s14 := K6.cell 1
          have sl3 := K5.lt
          have sl4 := K6.lt
          simp only [List.getElem?_toArray, List.getElem?_cons_zero, List.getElem?_cons_succ] at s10 s11 s13 s14
          have d1 : decide ((120 : Int) < vv) = false := decide_eq_false (by omega)
          have d2 : decide ((400 : Int) < (nC : Int)) = false := decide_eq_false (by omega)
          clear Z K5 K6 R9 hE9 hC9 HEN HX1 HX2
          go_wp2_with fail
          rw [← hW9.out, Z2.out]
          exact bodyPost_ret (v := .tuple #[.agg #[.int .i64 vv, .slice C nC cC], .agg #[.int .i64 0, .int .i64 0]]) (by simp [results, Tryz.results18, go_sem, s10, s11, s13, s14, sl3, sl4]) rfl R2.out
        | true =>
          by_cases hneg : v < 0
          · have HCLS : Hid (clsN l b A = (b + s.ns.length, s.cs ++ [[]])) := by show _ = _; rw [HCL0.out]; simp [hneg]
            have hadd := addN_any none 0 0 [] HN7.out.e (ints_nil w7) (fun z hz => by simp at hz) (by omega) (by have := HCL9.out; show s.cs.length ≤ 1000; omega)
            have HX1a := HX1b
            have HX2a := HX2b
            clear HN7 HX1b HX2b
            go_wp2_with fail
            refine hadd.mono ?_
            rintro e WN ⟨rfl, hEN, hFN⟩
            have HEN : Hid (EncN w WN be bm ⟨K, ck, N, cn, some ⟨gM, 0, none⟩, m + 1, A⟩ l.length ((b + s.ns.length : Nat) : Int) (s.cs ++ [[]])) := by rw [show ([[]] : List (List Int)) = [sortF []] by simp [sortF, insF]]; exact hEN
            have HXL : Hid ((s.cs ++ [[]]).length ≤ 31) := by have := HCL9.out; show _ ≤ _; simp; omega
            have HX1 : Hid (Blk WN (w.heap.size + 1) 25 #[.int .i64 0, .slice none 0 0]) := HX1a.out.frN hFN (by decide) (by decide)
            have HX2 : Hid (Blk WN (w.heap.size + 1 + 1) 28 #[.int .i64 0, .int .i64 0]) := HX2a.out.frN hFN (by decide) (by decide)
            clear hEN hFN hadd HX1a HX2a
            obtain ⟨C, nC, cC, hE9, hC9⟩ := HEN.out.e
            have hnc : nC ≤ 31 := by have h9 := hC9.len; have h10 := HXL.out; omega
            have k3 := hE9.cell 3
            have k4 := hE9.cell 4
            have kl := hE9.lt
            simp only [List.getElem?_toArray, List.getElem?_cons_zero, List.getElem?_cons_succ] at k3 k4
            rw [hvv.out] at k3
            have g0 := HX1.out.cell 0
            have g1 := HX1.out.cell 1
            have g2 := HX1.out.frozen 0
            have g3 := HX1.out.frozen 1
            have g4 := HX1.out.lt
            have g5 := HX2.out.cell 0
            have g6 := HX2.out.cell 1
            have g7 := HX2.out.frozen 0
            have g8 := HX2.out.frozen 1
            have g9 := HX2.out.lt
            simp only [List.getElem?_toArray, List.getElem?_cons_zero, List.getElem?_cons_succ] at g0 g1 g5 g6
            obtain ⟨W9, hW9⟩ : ∃ z : World, Hid (z = (WN.setCell ⟨w.heap.size + 1, 0, none⟩ (.int .i64 vv)).setCell ⟨w.heap.size + 1, 1, none⟩ (.slice C nC cC)) := ⟨_, rfl⟩
            obtain ⟨Z, K5, K6, R9⟩ := cls_stored (r := b + s.ns.length) HX1.out HX2.out HEN.out.b hC9 hvv.out hW9.out
            have Z2 := Lib.hid Z
            have R2 : Hid (RetCls (clsN l b A) w (.returned (.tuple #[.agg #[.int .i64 vv, .slice C nC cC], .agg #[.int .i64 0, .int .i64 0]])) W9) := by rw [HCLS.out]; exact R9
            have s10 := K5.cell 0
            have s11 := K5.cell 1
            have s13 := K6.cell 0
            have s14 := K6.cell 1
            have sl3 := K5.lt
            have sl4 := K6.lt
            simp only [List.getElem?_toArray, List.getElem?_cons_zero, List.getElem?_cons_succ] at s10 s11 s13 s14
            have d1 : decide ((120 : Int) < vv) = false := decide_eq_false (by omega)
            have d2 : decide ((400 : Int) < (nC : Int)) = false := decide_eq_false (by omega)
            clear Z K5 K6 R9 hE9 hC9 HEN HX1 HX2
            go_wp2_with fail
            rw [← hW9.out, Z2.out]
            exact bodyPost_ret (v := .tuple #[.agg #[.int .i64 vv, .slice C nC cC], .agg #[.int .i64 0, .int .i64 0]]) (by simp [results, Tryz.results18, go_sem, s10, s11, s13, s14, sl3, sl4]) rfl R2.out
          · have HCLS : Hid (clsN l b A = (b + s.ns.length, s.cs)) := by show _ = _; rw [HCL0.out]; simp [hneg]
            obtain ⟨WN, hWN⟩ : ∃ z, z = w7 := ⟨_, rfl⟩
            subst hWN
            have HEN : Hid (EncN w WN be bm ⟨K, ck, N, cn, some ⟨gM, 0, none⟩, m + 1, A⟩ l.length ((b + s.ns.length : Nat) : Int) s.cs) := HN7.out.e
            have HXL : Hid (s.cs.length ≤ 31) := by have := HCL9.out; show _ ≤ _; omega
            have HX1 := HX1b
            have HX2 := HX2b
            have dn : decide (v < 0) = false := decide_eq_false hneg
            clear HN7 HX1b HX2b
            obtain ⟨C, nC, cC, hE9, hC9⟩ := HEN.out.e
            have hnc : nC ≤ 31 := by have h9 := hC9.len; have h10 := HXL.out; omega
            have k3 := hE9.cell 3
            have k4 := hE9.cell 4
            have kl := hE9.lt
            simp only [List.getElem?_toArray, List.getElem?_cons_zero, List.getElem?_cons_succ] at k3 k4
            rw [hvv.out] at k3
            have g0 := HX1.out.cell 0
            have g1 := HX1.out.cell 1
            have g2 := HX1.out.frozen 0
            have g3 := HX1.out.frozen 1
            have g4 := HX1.out.lt
            have g5 := HX2.out.cell 0
            have g6 := HX2.out.cell 1
            have g7 := HX2.out.frozen 0
            have g8 := HX2.out.frozen 1
            have g9 := HX2.out.lt
            simp only [List.getElem?_toArray, List.getElem?_cons_zero, List.getElem?_cons_succ] at g0 g1 g5 g6
            obtain ⟨W9, hW9⟩ : ∃ z : World, Hid (z = (WN.setCell ⟨w.heap.size + 1, 0, none⟩ (.int .i64 vv)).setCell ⟨w.heap.size + 1, 1, none⟩ (.slice C nC cC)) := ⟨_, rfl⟩
            obtain ⟨Z, K5, K6, R9⟩ := cls_stored (r := b + s.ns.length) HX1.out HX2.out HEN.out.b hC9 hvv.out hW9.out
            have Z2 := Lib.hid Z
            have R2 : Hid (RetCls (clsN l b A) w (.returned (.tuple #[.agg #[.int .i64 vv, .slice C nC cC], .agg #[.int .i64 0, .int .i64 0]])) W9) := by rw [HCLS.out]; exact R9
            have s10 := K5.cell 0
            have s11 := K5.cell 1
            have s13 := K6.cell 0
            have s14 := K6.cell 1
            have sl3 := K5.lt
            have sl4 := K6.lt
            simp only [List.getElem?_toArray, List.getElem?_cons_zero, List.getElem?_cons_succ] at s10 s11 s13 s14
            have d1 : decide ((120 : Int) < vv) = false := decide_eq_false (by omega)
            have d2 : decide ((400 : Int) < (nC : Int)) = false := decide_eq_false (by omega)
            clear Z K5 K6 R9 hE9 hC9 HEN HX1 HX2
            go_wp2_with fail
            rw [← hW9.out, Z2.out]
            exact bodyPost_ret (v := .tuple #[.agg #[.int .i64 vv, .slice C nC cC], .agg #[.int .i64 0, .int .i64 0]]) (by simp [results, Tryz.results18, go_sem, s10, s11, s13, s14, sl3, sl4]) rfl R2.out
      · obtain ⟨j, rfl⟩ : ∃ j, k = j + 1 := ⟨k - 1, by omega⟩
        have ej : ((j + 1 : Nat) : Int) - 1 = (j : Int) := by omega
        rw [ej]
        obtain ⟨t, ht⟩ : ∃ t, Hid (l[j]? = some t) := ⟨_, List.getElem?_eq_getElem (by have := hml.out; omega)⟩
        have htb := HFB.out t (List.mem_of_getElem? ht.out)
        obtain ⟨g1, mv, e1, hg1, hcM, _, hxM⟩ := own_int_at HC.out.m (k := j + 1) (by have := hml.out; omega)
        cases e1
        have emv : mv = wtT (l.drop (j + 1)) := by
          have h9 := hxM.out
          rw [mostU_at (by have := hml.out; omega)] at h9
          exact (Option.some.inj h9).symm
        have hwb := all_bd (M := 1000) (ts := l.drop (j + 1)) (fun t ht => HFB.out t (List.mem_of_mem_drop ht))
        rw [← emv] at hwb
        have hll : (l.drop (j + 1)).length ≤ 4 := by rw [List.length_drop]; omega
        have hmb : 0 ≤ mv ∧ mv ≤ 4000 := by omega
        have HMS : Hid ((mostU l (j + 1)).set j (mv + t.2) = mostU l j) := by rw [emv]; exact most_step ht.out
        obtain ⟨gN, o, eN, hgN, hcN, _, hxN⟩ := own_int_at HC.out.o (k := j) (by have := hml.out; omega)
        have eo : o = t.2 := by
          have h9 := hxN.out
          rw [List.getElem?_map, ht.out] at h9
          exact (Option.some.inj h9).symm
        rw [eo] at hcN
        have eN2 : Hid (N = some ⟨gN, 0, none⟩) := eN
        obtain ⟨o2, ho2⟩ : ∃ z, Hid (t.2 = z) := ⟨_, rfl⟩
        rw [ho2.out] at htb hcN HMS
        clear hxM hxN eN eo emv hwb hll
        have q0 : (0 : Int) ≤ (j : Int) := by omega
        have q1 : (j : Int) < (m : Int) := by omega
        have q2 : (j : Int) + 1 < (m : Int) + 1 := by omega
        have q3 : (j : Int) < (m : Int) + 1 := by omega
        have q4 : (0 : Int) ≤ (j : Int) + 1 := by omega
        have zj : IntKind.i64.wrap ((j : Int) + 1) = (j : Int) + 1 := IntWalk.i64_in _ (by omega)
        have zv : IntKind.i64.wrap (mv + o2) = mv + o2 := IntWalk.i64_in _ (by omega)
        go_wp2_with fail
        obtain ⟨W0, hwd⟩ : ∃ z : World, z = wr.drew := ⟨_, rfl⟩
        have hbd0 : Below wr.heap.size wr W0 := by rw [hwd]; exact below_drewN _ 1
        have HC0 := Lib.hid (HC.out.keep hbd0)
        have hc0 := keepBox hbd0 hcM
        have hc1 := keepBox hbd0 hcN
        have hl0 := (cell_lt hc0).1
        have hl1 := (cell_lt hc1).1
        obtain ⟨g', u', eg, _, hgl, _, hz0, _⟩ := HC0.out.m.at_ (k := j) (by have := hml.out; omega)
        cases eg
        have hx1 := HC0.out.x0.cell 1
        have hx6 := HC0.out.e.cell 6
        have hxl := HC0.out.x0.lt
        have hel := HC0.out.e.lt
        simp only [List.getElem?_toArray, List.getElem?_cons_zero, List.getElem?_cons_succ, hml.out] at hx1 hx6
        rw [eN2.out] at hx1
        have hS : W0.cell? ⟨be, 6, none⟩ = some (.slice (some ⟨gM, 0, none⟩) (m + 1) (m + 1)) ∧ W0.cell? ⟨w.heap.size, 1, none⟩ = some (.slice (some ⟨gN, 0, none⟩) m cn) ∧ W0.cell? ⟨gM, j + 1, none⟩ = some (.int .i64 mv) ∧ W0.cell? ⟨gN, j, none⟩ = some (.int .i64 o2) ∧ w.heap.size < W0.heap.size ∧ be < W0.heap.size ∧ gM < W0.heap.size ∧ gN < W0.heap.size := ⟨hx6, hx1, hc0, hc1, hxl, hel, hl0, hl1⟩
        refine wp_region_tail (fun w' => w'.cell? ⟨be, 6, none⟩ = some (.slice (some ⟨gM, 0, none⟩) (m + 1) (m + 1)) ∧ w'.cell? ⟨w.heap.size, 1, none⟩ = some (.slice (some ⟨gN, 0, none⟩) m cn) ∧ w'.cell? ⟨gM, j + 1, none⟩ = some (.int .i64 mv) ∧ w'.cell? ⟨gN, j, none⟩ = some (.int .i64 o2) ∧ w.heap.size < w'.heap.size ∧ be < w'.heap.size ∧ gM < w'.heap.size ∧ gN < w'.heap.size) [20] (by kernel_rfl) ?_
        change wpAnyT _ _ _ _ _ _ _ _ _ wr.drew
        rw [← hwd]
        clear hwd hbd0 hcM hcN hg1 hgN HC
        refine take0 (i := 0) (oi := _) (v := ?_) rfl (by kernel_rfl) (by kernel_rfl) (by kernel_rfl) (fun _ _ _ h => h) rfl (Or.inl ⟨by rfl, ?_⟩) (fun _ => hS) ?_
        rotate_left
        · intro w0; go_simp; with_reducible rfl
        (try simp only [Act.put, List.setIfInBounds_toArray, List.set_cons_zero, List.set_cons_succ])
        refine take0 (i := 1) (oi := _) (v := ?_) rfl (by kernel_rfl) (by kernel_rfl) (by kernel_rfl) (fun _ _ _ h => h) rfl (Or.inl ⟨by rfl, ?_⟩) (fun _ => hS) ?_
        rotate_left
        · intro w0; go_simp; with_reducible rfl
        (try simp only [Act.put, List.setIfInBounds_toArray, List.set_cons_zero, List.set_cons_succ])
        refine take0 (i := 2) (oi := _) (v := ?_) rfl (by kernel_rfl) (by kernel_rfl) (by kernel_rfl) (fun _ _ _ h => h) rfl (Or.inl ⟨by rfl, ?_⟩) (fun _ => hS) ?_
        rotate_left
        · intro w0; go_simp; with_reducible rfl
        (try simp only [Act.put, List.setIfInBounds_toArray, List.set_cons_zero, List.set_cons_succ])
        refine takeS (i := 3) (oi := _) (v := ?_) rfl (by kernel_rfl) (by kernel_rfl) (by kernel_rfl) (fun _ _ _ h => h) rfl (by kernel_rfl) (by kernel_rfl) (Or.inl ⟨by rfl, ?_⟩) hS ?_
        rotate_left
        · intro w0 hSw; (try dsimp only at hSw); go_simp; with_reducible rfl
        (try simp only [Act.put, List.setIfInBounds_toArray, List.set_cons_zero, List.set_cons_succ])
        refine take0 (i := 4) (oi := _) (v := ?_) rfl (by kernel_rfl) (by kernel_rfl) (by kernel_rfl) (fun _ _ _ h => h) rfl (Or.inl ⟨by rfl, ?_⟩) (fun _ => hS) ?_
        rotate_left
        · intro w0; go_simp; with_reducible rfl
        (try simp only [Act.put, List.setIfInBounds_toArray, List.set_cons_zero, List.set_cons_succ])
        refine take0 (i := 5) (oi := _) (v := ?_) rfl (by kernel_rfl) (by kernel_rfl) (by kernel_rfl) (fun _ _ _ h => h) rfl (Or.inl ⟨by rfl, ?_⟩) (fun _ => hS) ?_
        rotate_left
        · intro w0; go_simp; with_reducible rfl
        (try simp only [Act.put, List.setIfInBounds_toArray, List.set_cons_zero, List.set_cons_succ])
        refine take0 (i := 6) (oi := _) (v := ?_) rfl (by kernel_rfl) (by kernel_rfl) (by kernel_rfl) (fun _ _ _ h => h) rfl (Or.inl ⟨by rfl, ?_⟩) (fun _ => hS) ?_
        rotate_left
        · intro w0; go_simp; with_reducible rfl
        (try simp only [Act.put, List.setIfInBounds_toArray, List.set_cons_zero, List.set_cons_succ])
        refine take0 (i := 7) (oi := _) (v := ?_) rfl (by kernel_rfl) (by kernel_rfl) (by kernel_rfl) (fun _ _ _ h => h) rfl (Or.inl ⟨by rfl, ?_⟩) (fun _ => hS) ?_
        rotate_left
        · intro w0; go_simp; with_reducible rfl
        (try simp only [Act.put, List.setIfInBounds_toArray, List.set_cons_zero, List.set_cons_succ])
        refine takeS (i := 8) (oi := _) (v := ?_) rfl (by kernel_rfl) (by kernel_rfl) (by kernel_rfl) (fun _ _ _ h => h) rfl (by kernel_rfl) (by kernel_rfl) (Or.inl ⟨by rfl, ?_⟩) hS ?_
        rotate_left
        · intro w0 hSw; (try dsimp only at hSw); go_simp; with_reducible rfl
        (try simp only [Act.put, List.setIfInBounds_toArray, List.set_cons_zero, List.set_cons_succ])
        refine take0 (i := 9) (oi := _) (v := ?_) rfl (by kernel_rfl) (by kernel_rfl) (by kernel_rfl) (fun _ _ _ h => h) rfl (Or.inl ⟨by rfl, ?_⟩) (fun _ => hS) ?_
        rotate_left
        · intro w0; go_simp; with_reducible rfl
        (try simp only [Act.put, List.setIfInBounds_toArray, List.set_cons_zero, List.set_cons_succ])
        refine take0 (i := 10) (oi := _) (v := ?_) rfl (by kernel_rfl) (by kernel_rfl) (by kernel_rfl) (fun _ _ _ h => h) rfl (Or.inl ⟨by rfl, ?_⟩) (fun _ => hS) ?_
        rotate_left
        · intro w0; go_simp; with_reducible rfl
        (try simp only [Act.put, List.setIfInBounds_toArray, List.set_cons_zero, List.set_cons_succ])
        refine take0 (i := 11) (oi := _) (v := ?_) rfl (by kernel_rfl) (by kernel_rfl) (by kernel_rfl) (fun _ _ _ h => h) rfl (Or.inl ⟨by rfl, ?_⟩) (fun _ => hS) ?_
        rotate_left
        · intro w0; go_simp; with_reducible rfl
        (try simp only [Act.put, List.setIfInBounds_toArray, List.set_cons_zero, List.set_cons_succ])
        refine takeS (i := 12) (oi := _) (v := ?_) rfl (by kernel_rfl) (by kernel_rfl) (by kernel_rfl) (fun _ _ _ h => h) rfl (by kernel_rfl) (by kernel_rfl) (Or.inl ⟨by rfl, ?_⟩) hS ?_
        rotate_left
        · intro w0 hSw; (try dsimp only at hSw); go_simp; with_reducible rfl
        (try simp only [Act.put, List.setIfInBounds_toArray, List.set_cons_zero, List.set_cons_succ])
        refine take0 (i := 13) (oi := _) (v := ?_) rfl (by kernel_rfl) (by kernel_rfl) (by kernel_rfl) (fun _ _ _ h => h) rfl (Or.inl ⟨by rfl, ?_⟩) (fun _ => hS) ?_
        rotate_left
        · intro w0; go_simp; with_reducible rfl
        (try simp only [Act.put, List.setIfInBounds_toArray, List.set_cons_zero, List.set_cons_succ])
        refine takeS (i := 14) (oi := _) (v := ?_) rfl (by kernel_rfl) (by kernel_rfl) (by kernel_rfl) (fun _ _ _ h => h) rfl (by kernel_rfl) (by kernel_rfl) (Or.inl ⟨by rfl, ?_⟩) hS ?_
        rotate_left
        · intro w0 hSw; (try dsimp only at hSw); go_simp; with_reducible rfl
        (try simp only [Act.put, List.setIfInBounds_toArray, List.set_cons_zero, List.set_cons_succ])
        refine take0 (i := 15) (oi := _) (v := ?_) rfl (by kernel_rfl) (by kernel_rfl) (by kernel_rfl) (fun _ _ _ h => h) rfl (Or.inl ⟨by rfl, ?_⟩) (fun _ => hS) ?_
        rotate_left
        · intro w0; go_simp; with_reducible rfl
        (try simp only [Act.put, List.setIfInBounds_toArray, List.set_cons_zero, List.set_cons_succ])
        refine take0 (i := 16) (oi := _) (v := ?_) rfl (by kernel_rfl) (by kernel_rfl) (by kernel_rfl) (fun _ _ _ h => h) rfl (Or.inl ⟨by rfl, ?_⟩) (fun _ => hS) ?_
        rotate_left
        · intro w0; go_simp; with_reducible rfl
        (try simp only [Act.put, List.setIfInBounds_toArray, List.set_cons_zero, List.set_cons_succ])
        refine takeS (i := 17) (oi := _) (v := ?_) rfl (by kernel_rfl) (by kernel_rfl) (by kernel_rfl) (fun _ _ _ h => h) rfl (by kernel_rfl) (by kernel_rfl) (Or.inl ⟨by rfl, ?_⟩) hS ?_
        rotate_left
        · intro w0 hSw; (try dsimp only at hSw); go_simp; with_reducible rfl
        (try simp only [Act.put, List.setIfInBounds_toArray, List.set_cons_zero, List.set_cons_succ])
        refine take0 (i := 18) (oi := _) (v := ?_) rfl (by kernel_rfl) (by kernel_rfl) (by kernel_rfl) (fun _ _ _ h => h) rfl (Or.inl ⟨by rfl, ?_⟩) (fun _ => hS) ?_
        rotate_left
        · intro w0; go_simp; with_reducible rfl
        (try simp only [Act.put, List.setIfInBounds_toArray, List.set_cons_zero, List.set_cons_succ])
        refine take0 (i := 19) (oi := _) (v := ?_) rfl (by kernel_rfl) (by kernel_rfl) (by kernel_rfl) (fun _ _ _ h => h) rfl (Or.inl ⟨by rfl, ?_⟩) (fun _ => hS) ?_
        rotate_left
        · intro w0; go_simp; with_reducible rfl
        (try simp only [Act.put, List.setIfInBounds_toArray, List.set_cons_zero, List.set_cons_succ])
        refine oneT (i := 20) (by kernel_rfl) rfl (by rfl) (fun Kq hK => ?_)
        go_simp
        refine hK _ _ (noT_no (by kernel_rfl)) ?_
        clear hK
        refine doneT (by kernel_rfl) ?_ _
        have HC9 : Hid (ClSt w (W0.setCell ⟨gM, j, none⟩ (.int .i64 (mv + o2))) be bm ⟨K, ck, N, cn, some ⟨gM, 0, none⟩, m + 1, A⟩ l b (mostU l j)) := by rw [← HMS.out]; exact HC0.out.put rfl j _
        obtain ⟨W9, hW9⟩ : ∃ z : World, z = W0.setCell ⟨gM, j, none⟩ (.int .i64 (mv + o2)) := ⟨_, rfl⟩
        rw [← hW9] at HC9 ⊢
        clear hW9 HC0 hS hx1 hx6 hxl hel hc0 hc1 hl0 hl1 hz0 hgl
        go_wp2_with fail
        go_roundw
        case rel => exact ⟨j, by omega, by first | rfl | go_num, HC9⟩
        case measure => simp [intOf] <;> omega
  · go_simp
    obtain ⟨W6, hwa⟩ : ∃ z : World, z = W5.alloc (.cells (madeCells #[.int .i64 0] (m + 1)) 3) := ⟨_, rfl⟩
    have hba : Below W5.heap.size W5 W6 := by rw [hwa]; exact below_new _ _
    have HMM : Hid (Own 3 W6 w.heap.size (some ⟨W5.heap.size, 0, none⟩) (m + 1) (m + 1) ((List.replicate (m + 1) (0 : Int)).map (Value.int .i64))) := by rw [hwa]; exact made_ints W5 (m + 1) w.heap.size HB5.out.size (by simp [maxLen]; omega)
    replace Y0 := Lib.hid (Y0.out.keep hba)
    replace Y1 := Lib.hid (Y1.out.keep hba)
    replace Y2 := Lib.hid (Y2.out.keep hba)
    replace HK5 := Lib.hid (HK5.out.keep hba)
    replace HN5 := Lib.hid (HN5.out.keep hba)
    replace HB5 := Lib.hid (below_next HB5.out hba)
    have HZ6 : Hid (W5.heap.size ≤ W6.heap.size) := hba.size
    replace hS : W6.cell? ⟨w.heap.size, 0, none⟩ = some (.slice K m ck) ∧ W6.cell? ⟨w.heap.size, 1, none⟩ = some (.slice N m cn) ∧ W6.cell? ⟨w.heap.size, 2, none⟩ = some (.int .i64 A) ∧ w.heap.size < W6.heap.size := ⟨keepBox hba hS.1, keepBox hba hS.2.1, keepBox hba hS.2.2.1, Nat.lt_of_lt_of_le hS.2.2.2 hba.size⟩
    rw [← hwa]
    clear hwa
    clear hba
    refine hK _ _ (fun _ => hS) ?_
    clear hK
    (try simp only [Act.put, List.setIfInBounds_toArray, List.set_cons_zero, List.set_cons_succ])
    refine oneT (i := 3) (by kernel_rfl) rfl (by rfl) (fun Kq hK => ?_)
    go_simp
    obtain ⟨W7, hwa⟩ : ∃ z : World, z = W6.alloc (.map #[] 0) := ⟨_, rfl⟩
    have hba : Below W6.heap.size W6 W7 := by rw [hwa]; exact below_new _ _
    have HMP : Hid (MapN W7 W6.heap.size 0 (.map [])) := by rw [hwa]; exact World.ownsMap_made (H := Unit) W6 Tryz.prog 127 (plainElem Tryz.prog 3)
    replace HMM := Lib.hid (HMM.out.keep hba)
    replace Y0 := Lib.hid (Y0.out.keep hba)
    replace Y1 := Lib.hid (Y1.out.keep hba)
    replace Y2 := Lib.hid (Y2.out.keep hba)
    replace HK5 := Lib.hid (HK5.out.keep hba)
    replace HN5 := Lib.hid (HN5.out.keep hba)
    replace HB5 := Lib.hid (below_next HB5.out hba)
    have HZ7 : Hid (W6.heap.size ≤ W7.heap.size) := hba.size
    replace hS : W7.cell? ⟨w.heap.size, 0, none⟩ = some (.slice K m ck) ∧ W7.cell? ⟨w.heap.size, 1, none⟩ = some (.slice N m cn) ∧ W7.cell? ⟨w.heap.size, 2, none⟩ = some (.int .i64 A) ∧ w.heap.size < W7.heap.size := ⟨keepBox hba hS.1, keepBox hba hS.2.1, keepBox hba hS.2.2.1, Nat.lt_of_lt_of_le hS.2.2.2 hba.size⟩
    rw [← hwa]
    clear hwa
    clear hba
    refine hK _ _ (fun _ => hS) ?_
    clear hK
    (try simp only [Act.put, List.setIfInBounds_toArray, List.set_cons_zero, List.set_cons_succ])
    refine take0 (i := 9) (oi := _) (v := ?_) rfl (by kernel_rfl) (by kernel_rfl) (by kernel_rfl) (fun _ _ _ h => h) rfl (Or.inl ⟨by rfl, ?_⟩) (fun _ => hS) ?_
    rotate_left
    · intro w0; go_simp; with_reducible rfl
    (try simp only [Act.put, List.setIfInBounds_toArray, List.set_cons_zero, List.set_cons_succ])
    refine oneT (i := 10) (by kernel_rfl) rfl (by rfl) (fun Kq hK => ?_)
    go_simp
    obtain ⟨W8, hwa⟩ : ∃ z : World, z = W7.alloc (.cells #[.slice K m ck, .slice N m cn, .int .i64 A, .int .i64 (b : Int), .slice none 0 0, .map (some W6.heap.size), .slice (some ⟨W5.heap.size, 0, none⟩) (m + 1) (m + 1)] 101) := ⟨_, rfl⟩
    have hba : Below W7.heap.size W7 W8 := by rw [hwa]; exact below_new _ _
    have HEB : Hid (Blk W8 W7.heap.size 101 #[.slice K m ck, .slice N m cn, .int .i64 A, .int .i64 (b : Int), .slice none 0 0, .map (some W6.heap.size), .slice (some ⟨W5.heap.size, 0, none⟩) (m + 1) (m + 1)]) := by rw [hwa]; exact Blk.new _ _ _
    replace HMP := Lib.hid (HMP.out.keep (hba.block _ (mapN_lt HMP.out)))
    replace HMM := Lib.hid (HMM.out.keep hba)
    replace Y0 := Lib.hid (Y0.out.keep hba)
    replace Y1 := Lib.hid (Y1.out.keep hba)
    replace Y2 := Lib.hid (Y2.out.keep hba)
    replace HK5 := Lib.hid (HK5.out.keep hba)
    replace HN5 := Lib.hid (HN5.out.keep hba)
    replace HB5 := Lib.hid (below_next HB5.out hba)
    have HZ8 : Hid (W7.heap.size ≤ W8.heap.size) := hba.size
    replace hS : W8.cell? ⟨w.heap.size, 0, none⟩ = some (.slice K m ck) ∧ W8.cell? ⟨w.heap.size, 1, none⟩ = some (.slice N m cn) ∧ W8.cell? ⟨w.heap.size, 2, none⟩ = some (.int .i64 A) ∧ w.heap.size < W8.heap.size := ⟨keepBox hba hS.1, keepBox hba hS.2.1, keepBox hba hS.2.2.1, Nat.lt_of_lt_of_le hS.2.2.2 hba.size⟩
    rw [← hwa]
    clear hwa
    clear hba
    refine hK _ _ (fun _ => hS) ?_
    clear hK
    (try simp only [Act.put, List.setIfInBounds_toArray, List.set_cons_zero, List.set_cons_succ])
    refine take0 (i := 11) (oi := _) (v := ?_) rfl (by kernel_rfl) (by kernel_rfl) (by kernel_rfl) (fun _ _ _ h => h) rfl (Or.inl ⟨by rfl, ?_⟩) (fun _ => hS) ?_
    rotate_left
    · intro w0; go_simp; with_reducible rfl
    (try simp only [Act.put, List.setIfInBounds_toArray, List.set_cons_zero, List.set_cons_succ])
    refine doneT (by kernel_rfl) ?_ _
    have hdk : Dif K (some ⟨W5.heap.size, 0, none⟩) := .inr (fun e => by have h8 := HDK.out _ e; have h9 := HSZ.out; have h10 := HZ6.out; simp at h8; omega)
    have hdn : Dif N (some ⟨W5.heap.size, 0, none⟩) := .inr (fun e => by have h8 := HDN.out _ e; have h9 := HSZ.out; have h10 := HZ6.out; simp at h8; omega)
    have hlo1 : w.heap.size ≤ W7.heap.size := by have h8 := HB4S.out; have h9 := HSZ.out; have h10 := HZ6.out; have h11 := HZ7.out; omega
    have hlo2 : w.heap.size ≤ W6.heap.size := by have h8 := HB4S.out; have h9 := HSZ.out; have h10 := HZ6.out; have h11 := HZ7.out; omega
    obtain ⟨be, hbe⟩ : ∃ z, Hid (W7.heap.size = z) := ⟨_, rfl⟩
    obtain ⟨bm, hbm⟩ : ∃ z, Hid (W6.heap.size = z) := ⟨_, rfl⟩
    obtain ⟨gM, hgM⟩ : ∃ z, Hid (W5.heap.size = z) := ⟨_, rfl⟩
    rw [hbe.out] at HEB hlo1 ⊢
    rw [hbm.out] at HEB HMP hlo2 ⊢
    rw [hgM.out] at HEB HMM hdk hdn ⊢
    have HCL : Hid (ClSt w W8 be bm ⟨K, ck, N, cn, some ⟨gM, 0, none⟩, m + 1, A⟩ l b (mostU l m)) := by
      have e1 : mostU l m = List.replicate (m + 1) 0 := by rw [← hml.out, most_end]
      rw [e1]
      refine ⟨HB5.out, hlo1, ?_, hlo2, ?_, ?_, ?_, HMP.out, hdk, hdn, ?_, Y1.out, Y2.out⟩
      · rw [hml.out]; exact HEB.out
      · rw [hml.out]; exact HK5.out
      · rw [hml.out]; exact HN5.out
      · rw [hml.out]; exact HMM.out
      · rw [hml.out]; exact Y0.out
    clear hS Y0 Y1 Y2 HK5 HN5 HB5 HMM HMP HEB hbe hbm hgM hdk hdn HZ6 HZ7 HZ8 hmm hmk hlo1 hlo2 HDK HDN
    have hx1 := HCL.out.x0.cell 1
    have hxl := HCL.out.x0.lt
    simp only [List.getElem?_toArray, List.getElem?_cons_zero, List.getElem?_cons_succ, hml.out] at hx1
    go_wp2_with fail
    clear hx1 hxl
    go_loopw [9] (fun s9 wr => ∃ k : Nat, k ≤ m ∧ s9 = .int .i64 ((k : Int) - 1) ∧ Hid (ClSt w wr be bm ⟨K, ck, N, cn, some ⟨gM, 0, none⟩, m + 1, A⟩ l b (mostU l k))) (fun z _ => (intOf z + 1).toNat)
    case atStart => exact ⟨m, Nat.le_refl _, rfl, HCL⟩
    case round =>
      clear HCL
      obtain ⟨k, hk, rfl, HC⟩ := hrel
      by_cases hk0 : k = 0
      · subst hk0
        have dk : decide (((0 : Nat) : Int) - 1 ≥ 0) = false := by simp
        have dk2 : decide ((0 : Int) ≤ -1) = false := by simp
        have HN := Lib.hid HC.out.node
        have hx2 := HC.out.x0.cell 2
        have hxl := HC.out.x0.lt
        simp only [List.getElem?_toArray, List.getElem?_cons_zero, List.getElem?_cons_succ] at hx2
        have hnst : NstOk l b ⟨[], []⟩ := ⟨by simp, by simp, fun m hm => by simp [allB]⟩
        have hpow : 2 ^ (l.length - 0) ≤ 16 := by
          have : 2 ^ (l.length - 0) ≤ 2 ^ 4 := Nat.pow_le_pow_right (by omega) (by omega)
          omega
        have hpos : ∀ t ∈ l, 0 < t.2 ∧ t.2 ≤ 10000 := fun t ht => by have := HFB.out t ht; omega
        have hlt := HFO.out.1.1
        have hnode := node_any (w0 := w) (be := be) (bm := bm) (q := ⟨K, ck, N, cn, some ⟨gM, 0, none⟩, m + 1, A⟩) hb0 hb1 hpos hlt (by omega) l.length 0 A ⟨[], []⟩ wr HN.out hnst (Nat.zero_le _) (by omega) (by omega) (by omega) (Nat.le_refl _) (by show 0 + 2 ^ (l.length - 0) ≤ 100; omega)
        have d := nod_ok hb0 (fun t ht => (hpos t ht).1) hlt l.length 0 A ⟨[], []⟩ hnst (Nat.zero_le _) (by omega)
        have hcl : clsN l b A = (b + (nodF l b l.length 0 A ⟨[], []⟩).1.ns.length, if (nodF l b l.length 0 A ⟨[], []⟩).2.2 = false then (nodF l b l.length 0 A ⟨[], []⟩).1.cs ++ [[(nodF l b l.length 0 A ⟨[], []⟩).2.1]] else if (nodF l b l.length 0 A ⟨[], []⟩).2.1 < 0 then (nodF l b l.length 0 A ⟨[], []⟩).1.cs ++ [[]] else (nodF l b l.length 0 A ⟨[], []⟩).1.cs) := rfl
        obtain ⟨r, hr⟩ : ∃ z, Hid (nodF l b l.length 0 A ⟨[], []⟩ = z) := ⟨_, rfl⟩
        rw [hr.out] at hnode d hcl
        obtain ⟨s, v, cc⟩ := r
        simp only at d hcl
        have hbd9 := ndd_bd d
        obtain ⟨xx, ex, gx⟩ := d.cs
        have hcnt := d.cnt
        simp only [List.length_nil, List.nil_append, Nat.mul_zero, Nat.add_zero, Nat.zero_add] at ex gx hcnt
        rw [← ex] at gx
        have HCL9 : Hid (s.cs.length ≤ 30) := by show _ ≤ _; omega
        obtain ⟨vv, hvv⟩ : ∃ z : Int, Hid (((b + s.ns.length : Nat) : Int) = z) := ⟨_, rfl⟩
        have hvb : 0 ≤ vv ∧ vv ≤ 40 := by rw [← hvv.out]; omega
        have hvb2 : -1 ≤ v ∧ v ≤ 40 ∧ v ≠ 0 := by omega
        have HCL0 := Lib.hid hcl
        have HXX1 := Lib.hid HC.out.x1
        have HXX2 := Lib.hid HC.out.x2
        have HNM : Hid (∀ t, ¬ Typed t wr bm) := fun t => mapN_typed HC.out.k
        rw [show ((0 : Nat) : Int) = 0 from rfl] at hnode
        clear hnst hpow hpos hlt d hcl hbd9 ex gx hcnt HC
        go_wp2_with fail
        refine hnode.mono ?_
        rintro e w7 ⟨rfl, hN7, hF7⟩
        have HN7 := Lib.hid hN7
        have HX1b : Hid (Blk w7 (w.heap.size + 1) 25 #[.int .i64 0, .slice none 0 0]) := HXX1.out.frM hF7 (HNM.out _) (by decide) (by decide)
        have HX2b : Hid (Blk w7 (w.heap.size + 1 + 1) 28 #[.int .i64 0, .int .i64 0]) := HXX2.out.frM hF7 (HNM.out _) (by decide) (by decide)
        clear hN7 hF7 hnode hx2 hxl HXX1 HXX2 HNM HN
        cases cc with
        | false =>
          have HCLS : Hid (clsN l b A = (b + s.ns.length, s.cs ++ [[v]])) := by show _ = _; rw [HCL0.out]; simp
          have hb3 : Below w7.heap.size w7 (w7.alloc (.cells #[.int .i64 v] 3)) := below_new _ _
          have hO3 : Own 3 (w7.alloc (.cells #[.int .i64 v] 3)) w7.heap.size (some ⟨w7.heap.size, 0, none⟩) 1 1 (([v] : List Int).map (Value.int .i64)) := own_new 3 w7 w7.heap.size (([v] : List Int).map (Value.int .i64)) rfl (Nat.le_refl _) (by simp [maxLen])
          have HN8 := Lib.hid (HN7.out.keep hb3)
          have hadd := addN_any (some ⟨w7.heap.size, 0, none⟩) 1 1 [v] HN8.out.e (hO3.ints (fun z hz => by simp at hz; unfold I64; omega)) (fun z hz => by simp at hz; omega) (by omega) (by have := HCL9.out; show s.cs.length ≤ 1000; omega)
          have HX1a : Hid (Blk (w7.alloc (.cells #[.int .i64 v] 3)) (w.heap.size + 1) 25 #[.int .i64 0, .slice none 0 0]) := HX1b.out.keep hb3
          have HX2a : Hid (Blk (w7.alloc (.cells #[.int .i64 v] 3)) (w.heap.size + 1 + 1) 28 #[.int .i64 0, .int .i64 0]) := HX2b.out.keep hb3
          clear hb3 hO3 HN7 HX1b HX2b
          go_wp2_with fail
          refine hadd.mono ?_
          rintro e WN ⟨rfl, hEN, hFN⟩
          have HEN : Hid (EncN w WN be bm ⟨K, ck, N, cn, some ⟨gM, 0, none⟩, m + 1, A⟩ l.length ((b + s.ns.length : Nat) : Int) (s.cs ++ [[v]])) := by rw [show ([[v]] : List (List Int)) = [sortF [v]] by simp [sortF, insF]]; exact hEN
          have HXL : Hid ((s.cs ++ [[v]]).length ≤ 31) := by have := HCL9.out; show _ ≤ _; simp; omega
          have HX1 : Hid (Blk WN (w.heap.size + 1) 25 #[.int .i64 0, .slice none 0 0]) := HX1a.out.frN hFN (by decide) (by decide)
          have HX2 : Hid (Blk WN (w.heap.size + 1 + 1) 28 #[.int .i64 0, .int .i64 0]) := HX2a.out.frN hFN (by decide) (by decide)
          clear hEN hFN hadd HX1a HX2a
          obtain ⟨C, nC, cC, hE9, hC9⟩ := HEN.out.e
          have hnc : nC ≤ 31 := by have h9 := hC9.len; have h10 := HXL.out; omega
          have k3 := hE9.cell 3
          have k4 := hE9.cell 4
          have kl := hE9.lt
          simp only [List.getElem?_toArray, List.getElem?_cons_zero, List.getElem?_cons_succ] at k3 k4
          rw [hvv.out] at k3
          have g0 := HX1.out.cell 0
          have g1 := HX1.out.cell 1
          have g2 := HX1.out.frozen 0
          have g3 := HX1.out.frozen 1
          have g4 := HX1.out.lt
          have g5 := HX2.out.cell 0
          have g6 := HX2.out.cell 1
          have g7 := HX2.out.frozen 0
          have g8 := HX2.out.frozen 1
          have g9 := HX2.out.lt
          simp only [List.getElem?_toArray, List.getElem?_cons_zero, List.getElem?_cons_succ] at g0 g1 g5 g6
          obtain ⟨W9, hW9⟩ : ∃ z : World, Hid (z = (WN.setCell ⟨w.heap.size + 1, 0, none⟩ (.int .i64 vv)).setCell ⟨w.heap.size + 1, 1, none⟩ (.slice C nC cC)) := ⟨_, rfl⟩
          obtain ⟨Z, K5, K6, R9⟩ := cls_stored (r := b + s.ns.length) HX1.out HX2.out HEN.out.b hC9 hvv.out hW9.out
          have Z2 := Lib.hid Z
          have R2 : Hid (RetCls (clsN l b A) w (.returned (.tuple #[.agg #[.int .i64 vv, .slice C nC cC], .agg #[.int .i64 0, .int .i64 0]])) W9) := by rw [HCLS.out]; exact R9
          have s10 := K5.cell 0
          have s11 := K5.cell 1
          have s13 := K6.cell 0
          have s14 := K6.cell 1
          have sl3 := K5.lt
          have sl4 := K6.lt
          simp only [List.getElem?_toArray, List.getElem?_cons_zero, List.getElem?_cons_succ] at s10 s11 s13 s14
          have d1 : decide ((120 : Int) < vv) = false := decide_eq_false (by omega)
          have d2 : decide ((400 : Int) < (nC : Int)) = false := decide_eq_false (by omega)
          clear Z K5 K6 R9 hE9 hC9 HEN HX1 HX2
          go_wp2_with fail
          rw [← hW9.out, Z2.out]
          exact bodyPost_ret (v := .tuple #[.agg #[.int .i64 vv, .slice C nC cC], .agg #[.int .i64 0, .int .i64 0]]) (by simp [results, Tryz.results18, go_sem, s10, s11, s13, s14, sl3, sl4]) rfl R2.out
        | true =>
          by_cases hneg : v < 0
          · have HCLS : Hid (clsN l b A = (b + s.ns.length, s.cs ++ [[]])) := by show _ = _; rw [HCL0.out]; simp [hneg]
            have hadd := addN_any none 0 0 [] HN7.out.e (ints_nil w7) (fun z hz => by simp at hz) (by omega) (by have := HCL9.out; show s.cs.length ≤ 1000; omega)
            have HX1a := HX1b
            have HX2a := HX2b
            clear HN7 HX1b HX2b
            go_wp2_with fail
            refine hadd.mono ?_
            rintro e WN ⟨rfl, hEN, hFN⟩
            have HEN : Hid (EncN w WN be bm ⟨K, ck, N, cn, some ⟨gM, 0, none⟩, m + 1, A⟩ l.length ((b + s.ns.length : Nat) : Int) (s.cs ++ [[]])) := by rw [show ([[]] : List (List Int)) = [sortF []] by simp [sortF, insF]]; exact hEN
            have HXL : Hid ((s.cs ++ [[]]).length ≤ 31) := by have := HCL9.out; show _ ≤ _; simp; omega
            have HX1 : Hid (Blk WN (w.heap.size + 1) 25 #[.int .i64 0, .slice none 0 0]) := HX1a.out.frN hFN (by decide) (by decide)
            have HX2 : Hid (Blk WN (w.heap.size + 1 + 1) 28 #[.int .i64 0, .int .i64 0]) := HX2a.out.frN hFN (by decide) (by decide)
            clear hEN hFN hadd HX1a HX2a
            obtain ⟨C, nC, cC, hE9, hC9⟩ := HEN.out.e
            have hnc : nC ≤ 31 := by have h9 := hC9.len; have h10 := HXL.out; omega
            have k3 := hE9.cell 3
            have k4 := hE9.cell 4
            have kl := hE9.lt
            simp only [List.getElem?_toArray, List.getElem?_cons_zero, List.getElem?_cons_succ] at k3 k4
            rw [hvv.out] at k3
            have g0 := HX1.out.cell 0
            have g1 := HX1.out.cell 1
            have g2 := HX1.out.frozen 0
            have g3 := HX1.out.frozen 1
            have g4 := HX1.out.lt
            have g5 := HX2.out.cell 0
            have g6 := HX2.out.cell 1
            have g7 := HX2.out.frozen 0
            have g8 := HX2.out.frozen 1
            have g9 := HX2.out.lt
            simp only [List.getElem?_toArray, List.getElem?_cons_zero, List.getElem?_cons_succ] at g0 g1 g5 g6
            obtain ⟨W9, hW9⟩ : ∃ z : World, Hid (z = (WN.setCell ⟨w.heap.size + 1, 0, none⟩ (.int .i64 vv)).setCell ⟨w.heap.size + 1, 1, none⟩ (.slice C nC cC)) := ⟨_, rfl⟩
            obtain ⟨Z, K5, K6, R9⟩ := cls_stored (r := b + s.ns.length) HX1.out HX2.out HEN.out.b hC9 hvv.out hW9.out
            have Z2 := Lib.hid Z
            have R2 : Hid (RetCls (clsN l b A) w (.returned (.tuple #[.agg #[.int .i64 vv, .slice C nC cC], .agg #[.int .i64 0, .int .i64 0]])) W9) := by rw [HCLS.out]; exact R9
            have s10 := K5.cell 0
            have s11 := K5.cell 1
            have s13 := K6.cell 0
            have s14 := K6.cell 1
            have sl3 := K5.lt
            have sl4 := K6.lt
            simp only [List.getElem?_toArray, List.getElem?_cons_zero, List.getElem?_cons_succ] at s10 s11 s13 s14
            have d1 : decide ((120 : Int) < vv) = false := decide_eq_false (by omega)
            have d2 : decide ((400 : Int) < (nC : Int)) = false := decide_eq_false (by omega)
            clear Z K5 K6 R9 hE9 hC9 HEN HX1 HX2
            go_wp2_with fail
            rw [← hW9.out, Z2.out]
            exact bodyPost_ret (v := .tuple #[.agg #[.int .i64 vv, .slice C nC cC], .agg #[.int .i64 0, .int .i64 0]]) (by simp [results, Tryz.results18, go_sem, s10, s11, s13, s14, sl3, sl4]) rfl R2.out
          · have HCLS : Hid (clsN l b A = (b + s.ns.length, s.cs)) := by show _ = _; rw [HCL0.out]; simp [hneg]
            obtain ⟨WN, hWN⟩ : ∃ z, z = w7 := ⟨_, rfl⟩
            subst hWN
            have HEN : Hid (EncN w WN be bm ⟨K, ck, N, cn, some ⟨gM, 0, none⟩, m + 1, A⟩ l.length ((b + s.ns.length : Nat) : Int) s.cs) := HN7.out.e
            have HXL : Hid (s.cs.length ≤ 31) := by have := HCL9.out; show _ ≤ _; omega
            have HX1 := HX1b
            have HX2 := HX2b
            have dn : decide (v < 0) = false := decide_eq_false hneg
            clear HN7 HX1b HX2b
            obtain ⟨C, nC, cC, hE9, hC9⟩ := HEN.out.e
            have hnc : nC ≤ 31 := by have h9 := hC9.len; have h10 := HXL.out; omega
            have k3 := hE9.cell 3
            have k4 := hE9.cell 4
            have kl := hE9.lt
            simp only [List.getElem?_toArray, List.getElem?_cons_zero, List.getElem?_cons_succ] at k3 k4
            rw [hvv.out] at k3
            have g0 := HX1.out.cell 0
            have g1 := HX1.out.cell 1
            have g2 := HX1.out.frozen 0
            have g3 := HX1.out.frozen 1
            have g4 := HX1.out.lt
            have g5 := HX2.out.cell 0
            have g6 := HX2.out.cell 1
            have g7 := HX2.out.frozen 0
            have g8 := HX2.out.frozen 1
            have g9 := HX2.out.lt
            simp only [List.getElem?_toArray, List.getElem?_cons_zero, List.getElem?_cons_succ] at g0 g1 g5 g6
            obtain ⟨W9, hW9⟩ : ∃ z : World, Hid (z = (WN.setCell ⟨w.heap.size + 1, 0, none⟩ (.int .i64 vv)).setCell ⟨w.heap.size + 1, 1, none⟩ (.slice C nC cC)) := ⟨_, rfl⟩
            obtain ⟨Z, K5, K6, R9⟩ := cls_stored (r := b + s.ns.length) HX1.out HX2.out HEN.out.b hC9 hvv.out hW9.out
            have Z2 := Lib.hid Z
            have R2 : Hid (RetCls (clsN l b A) w (.returned (.tuple #[.agg #[.int .i64 vv, .slice C nC cC], .agg #[.int .i64 0, .int .i64 0]])) W9) := by rw [HCLS.out]; exact R9
            have s10 := K5.cell 0
            have s11 := K5.cell 1
            have s13 := K6.cell 0
            have s14 := K6.cell 1
            have sl3 := K5.lt
            have sl4 := K6.lt
            simp only [List.getElem?_toArray, List.getElem?_cons_zero, List.getElem?_cons_succ] at s10 s11 s13 s14
            have d1 : decide ((120 : Int) < vv) = false := decide_eq_false (by omega)
            have d2 : decide ((400 : Int) < (nC : Int)) = false := decide_eq_false (by omega)
            clear Z K5 K6 R9 hE9 hC9 HEN HX1 HX2
            go_wp2_with fail
            rw [← hW9.out, Z2.out]
            exact bodyPost_ret (v := .tuple #[.agg #[.int .i64 vv, .slice C nC cC], .agg #[.int .i64 0, .int .i64 0]]) (by simp [results, Tryz.results18, go_sem, s10, s11, s13, s14, sl3, sl4]) rfl R2.out
      · obtain ⟨j, rfl⟩ : ∃ j, k = j + 1 := ⟨k - 1, by omega⟩
        have ej : ((j + 1 : Nat) : Int) - 1 = (j : Int) := by omega
        rw [ej]
        obtain ⟨t, ht⟩ : ∃ t, Hid (l[j]? = some t) := ⟨_, List.getElem?_eq_getElem (by have := hml.out; omega)⟩
        have htb := HFB.out t (List.mem_of_getElem? ht.out)
        obtain ⟨g1, mv, e1, hg1, hcM, _, hxM⟩ := own_int_at HC.out.m (k := j + 1) (by have := hml.out; omega)
        cases e1
        have emv : mv = wtT (l.drop (j + 1)) := by
          have h9 := hxM.out
          rw [mostU_at (by have := hml.out; omega)] at h9
          exact (Option.some.inj h9).symm
        have hwb := all_bd (M := 1000) (ts := l.drop (j + 1)) (fun t ht => HFB.out t (List.mem_of_mem_drop ht))
        rw [← emv] at hwb
        have hll : (l.drop (j + 1)).length ≤ 4 := by rw [List.length_drop]; omega
        have hmb : 0 ≤ mv ∧ mv ≤ 4000 := by omega
        have HMS : Hid ((mostU l (j + 1)).set j (mv + t.2) = mostU l j) := by rw [emv]; exact most_step ht.out
        obtain ⟨gN, o, eN, hgN, hcN, _, hxN⟩ := own_int_at HC.out.o (k := j) (by have := hml.out; omega)
        have eo : o = t.2 := by
          have h9 := hxN.out
          rw [List.getElem?_map, ht.out] at h9
          exact (Option.some.inj h9).symm
        rw [eo] at hcN
        have eN2 : Hid (N = some ⟨gN, 0, none⟩) := eN
        obtain ⟨o2, ho2⟩ : ∃ z, Hid (t.2 = z) := ⟨_, rfl⟩
        rw [ho2.out] at htb hcN HMS
        clear hxM hxN eN eo emv hwb hll
        have q0 : (0 : Int) ≤ (j : Int) := by omega
        have q1 : (j : Int) < (m : Int) := by omega
        have q2 : (j : Int) + 1 < (m : Int) + 1 := by omega
        have q3 : (j : Int) < (m : Int) + 1 := by omega
        have q4 : (0 : Int) ≤ (j : Int) + 1 := by omega
        have zj : IntKind.i64.wrap ((j : Int) + 1) = (j : Int) + 1 := IntWalk.i64_in _ (by omega)
        have zv : IntKind.i64.wrap (mv + o2) = mv + o2 := IntWalk.i64_in _ (by omega)
        go_wp2_with fail
        obtain ⟨W0, hwd⟩ : ∃ z : World, z = wr.drew := ⟨_, rfl⟩
        have hbd0 : Below wr.heap.size wr W0 := by rw [hwd]; exact below_drewN _ 1
        have HC0 := Lib.hid (HC.out.keep hbd0)
        have hc0 := keepBox hbd0 hcM
        have hc1 := keepBox hbd0 hcN
        have hl0 := (cell_lt hc0).1
        have hl1 := (cell_lt hc1).1
        obtain ⟨g', u', eg, _, hgl, _, hz0, _⟩ := HC0.out.m.at_ (k := j) (by have := hml.out; omega)
        cases eg
        have hx1 := HC0.out.x0.cell 1
        have hx6 := HC0.out.e.cell 6
        have hxl := HC0.out.x0.lt
        have hel := HC0.out.e.lt
        simp only [List.getElem?_toArray, List.getElem?_cons_zero, List.getElem?_cons_succ, hml.out] at hx1 hx6
        rw [eN2.out] at hx1
        have hS : W0.cell? ⟨be, 6, none⟩ = some (.slice (some ⟨gM, 0, none⟩) (m + 1) (m + 1)) ∧ W0.cell? ⟨w.heap.size, 1, none⟩ = some (.slice (some ⟨gN, 0, none⟩) m cn) ∧ W0.cell? ⟨gM, j + 1, none⟩ = some (.int .i64 mv) ∧ W0.cell? ⟨gN, j, none⟩ = some (.int .i64 o2) ∧ w.heap.size < W0.heap.size ∧ be < W0.heap.size ∧ gM < W0.heap.size ∧ gN < W0.heap.size := ⟨hx6, hx1, hc0, hc1, hxl, hel, hl0, hl1⟩
        refine wp_region_tail (fun w' => w'.cell? ⟨be, 6, none⟩ = some (.slice (some ⟨gM, 0, none⟩) (m + 1) (m + 1)) ∧ w'.cell? ⟨w.heap.size, 1, none⟩ = some (.slice (some ⟨gN, 0, none⟩) m cn) ∧ w'.cell? ⟨gM, j + 1, none⟩ = some (.int .i64 mv) ∧ w'.cell? ⟨gN, j, none⟩ = some (.int .i64 o2) ∧ w.heap.size < w'.heap.size ∧ be < w'.heap.size ∧ gM < w'.heap.size ∧ gN < w'.heap.size) [20] (by kernel_rfl) ?_
        change wpAnyT _ _ _ _ _ _ _ _ _ wr.drew
        rw [← hwd]
        clear hwd hbd0 hcM hcN hg1 hgN HC
        refine take0 (i := 0) (oi := _) (v := ?_) rfl (by kernel_rfl) (by kernel_rfl) (by kernel_rfl) (fun _ _ _ h => h) rfl (Or.inl ⟨by rfl, ?_⟩) (fun _ => hS) ?_
        rotate_left
        · intro w0; go_simp; with_reducible rfl
        (try simp only [Act.put, List.setIfInBounds_toArray, List.set_cons_zero, List.set_cons_succ])
        refine take0 (i := 1) (oi := _) (v := ?_) rfl (by kernel_rfl) (by kernel_rfl) (by kernel_rfl) (fun _ _ _ h => h) rfl (Or.inl ⟨by rfl, ?_⟩) (fun _ => hS) ?_
        rotate_left
        · intro w0; go_simp; with_reducible rfl
        (try simp only [Act.put, List.setIfInBounds_toArray, List.set_cons_zero, List.set_cons_succ])
        refine take0 (i := 2) (oi := _) (v := ?_) rfl (by kernel_rfl) (by kernel_rfl) (by kernel_rfl) (fun _ _ _ h => h) rfl (Or.inl ⟨by rfl, ?_⟩) (fun _ => hS) ?_
        rotate_left
        · intro w0; go_simp; with_reducible rfl
        (try simp only [Act.put, List.setIfInBounds_toArray, List.set_cons_zero, List.set_cons_succ])
        refine takeS (i := 3) (oi := _) (v := ?_) rfl (by kernel_rfl) (by kernel_rfl) (by kernel_rfl) (fun _ _ _ h => h) rfl (by kernel_rfl) (by kernel_rfl) (Or.inl ⟨by rfl, ?_⟩) hS ?_
        rotate_left
        · intro w0 hSw; (try dsimp only at hSw); go_simp; with_reducible rfl
        (try simp only [Act.put, List.setIfInBounds_toArray, List.set_cons_zero, List.set_cons_succ])
        refine take0 (i := 4) (oi := _) (v := ?_) rfl (by kernel_rfl) (by kernel_rfl) (by kernel_rfl) (fun _ _ _ h => h) rfl (Or.inl ⟨by rfl, ?_⟩) (fun _ => hS) ?_
        rotate_left
        · intro w0; go_simp; with_reducible rfl
        (try simp only [Act.put, List.setIfInBounds_toArray, List.set_cons_zero, List.set_cons_succ])
        refine take0 (i := 5) (oi := _) (v := ?_) rfl (by kernel_rfl) (by kernel_rfl) (by kernel_rfl) (fun _ _ _ h => h) rfl (Or.inl ⟨by rfl, ?_⟩) (fun _ => hS) ?_
        rotate_left
        · intro w0; go_simp; with_reducible rfl
        (try simp only [Act.put, List.setIfInBounds_toArray, List.set_cons_zero, List.set_cons_succ])
        refine take0 (i := 6) (oi := _) (v := ?_) rfl (by kernel_rfl) (by kernel_rfl) (by kernel_rfl) (fun _ _ _ h => h) rfl (Or.inl ⟨by rfl, ?_⟩) (fun _ => hS) ?_
        rotate_left
        · intro w0; go_simp; with_reducible rfl
        (try simp only [Act.put, List.setIfInBounds_toArray, List.set_cons_zero, List.set_cons_succ])
        refine take0 (i := 7) (oi := _) (v := ?_) rfl (by kernel_rfl) (by kernel_rfl) (by kernel_rfl) (fun _ _ _ h => h) rfl (Or.inl ⟨by rfl, ?_⟩) (fun _ => hS) ?_
        rotate_left
        · intro w0; go_simp; with_reducible rfl
        (try simp only [Act.put, List.setIfInBounds_toArray, List.set_cons_zero, List.set_cons_succ])
        refine takeS (i := 8) (oi := _) (v := ?_) rfl (by kernel_rfl) (by kernel_rfl) (by kernel_rfl) (fun _ _ _ h => h) rfl (by kernel_rfl) (by kernel_rfl) (Or.inl ⟨by rfl, ?_⟩) hS ?_
        rotate_left
        · intro w0 hSw; (try dsimp only at hSw); go_simp; with_reducible rfl
        (try simp only [Act.put, List.setIfInBounds_toArray, List.set_cons_zero, List.set_cons_succ])
        refine take0 (i := 9) (oi := _) (v := ?_) rfl (by kernel_rfl) (by kernel_rfl) (by kernel_rfl) (fun _ _ _ h => h) rfl (Or.inl ⟨by rfl, ?_⟩) (fun _ => hS) ?_
        rotate_left
        · intro w0; go_simp; with_reducible rfl
        (try simp only [Act.put, List.setIfInBounds_toArray, List.set_cons_zero, List.set_cons_succ])
        refine take0 (i := 10) (oi := _) (v := ?_) rfl (by kernel_rfl) (by kernel_rfl) (by kernel_rfl) (fun _ _ _ h => h) rfl (Or.inl ⟨by rfl, ?_⟩) (fun _ => hS) ?_
        rotate_left
        · intro w0; go_simp; with_reducible rfl
        (try simp only [Act.put, List.setIfInBounds_toArray, List.set_cons_zero, List.set_cons_succ])
        refine take0 (i := 11) (oi := _) (v := ?_) rfl (by kernel_rfl) (by kernel_rfl) (by kernel_rfl) (fun _ _ _ h => h) rfl (Or.inl ⟨by rfl, ?_⟩) (fun _ => hS) ?_
        rotate_left
        · intro w0; go_simp; with_reducible rfl
        (try simp only [Act.put, List.setIfInBounds_toArray, List.set_cons_zero, List.set_cons_succ])
        refine takeS (i := 12) (oi := _) (v := ?_) rfl (by kernel_rfl) (by kernel_rfl) (by kernel_rfl) (fun _ _ _ h => h) rfl (by kernel_rfl) (by kernel_rfl) (Or.inl ⟨by rfl, ?_⟩) hS ?_
        rotate_left
        · intro w0 hSw; (try dsimp only at hSw); go_simp; with_reducible rfl
        (try simp only [Act.put, List.setIfInBounds_toArray, List.set_cons_zero, List.set_cons_succ])
        refine take0 (i := 13) (oi := _) (v := ?_) rfl (by kernel_rfl) (by kernel_rfl) (by kernel_rfl) (fun _ _ _ h => h) rfl (Or.inl ⟨by rfl, ?_⟩) (fun _ => hS) ?_
        rotate_left
        · intro w0; go_simp; with_reducible rfl
        (try simp only [Act.put, List.setIfInBounds_toArray, List.set_cons_zero, List.set_cons_succ])
        refine takeS (i := 14) (oi := _) (v := ?_) rfl (by kernel_rfl) (by kernel_rfl) (by kernel_rfl) (fun _ _ _ h => h) rfl (by kernel_rfl) (by kernel_rfl) (Or.inl ⟨by rfl, ?_⟩) hS ?_
        rotate_left
        · intro w0 hSw; (try dsimp only at hSw); go_simp; with_reducible rfl
        (try simp only [Act.put, List.setIfInBounds_toArray, List.set_cons_zero, List.set_cons_succ])
        refine take0 (i := 15) (oi := _) (v := ?_) rfl (by kernel_rfl) (by kernel_rfl) (by kernel_rfl) (fun _ _ _ h => h) rfl (Or.inl ⟨by rfl, ?_⟩) (fun _ => hS) ?_
        rotate_left
        · intro w0; go_simp; with_reducible rfl
        (try simp only [Act.put, List.setIfInBounds_toArray, List.set_cons_zero, List.set_cons_succ])
        refine take0 (i := 16) (oi := _) (v := ?_) rfl (by kernel_rfl) (by kernel_rfl) (by kernel_rfl) (fun _ _ _ h => h) rfl (Or.inl ⟨by rfl, ?_⟩) (fun _ => hS) ?_
        rotate_left
        · intro w0; go_simp; with_reducible rfl
        (try simp only [Act.put, List.setIfInBounds_toArray, List.set_cons_zero, List.set_cons_succ])
        refine takeS (i := 17) (oi := _) (v := ?_) rfl (by kernel_rfl) (by kernel_rfl) (by kernel_rfl) (fun _ _ _ h => h) rfl (by kernel_rfl) (by kernel_rfl) (Or.inl ⟨by rfl, ?_⟩) hS ?_
        rotate_left
        · intro w0 hSw; (try dsimp only at hSw); go_simp; with_reducible rfl
        (try simp only [Act.put, List.setIfInBounds_toArray, List.set_cons_zero, List.set_cons_succ])
        refine take0 (i := 18) (oi := _) (v := ?_) rfl (by kernel_rfl) (by kernel_rfl) (by kernel_rfl) (fun _ _ _ h => h) rfl (Or.inl ⟨by rfl, ?_⟩) (fun _ => hS) ?_
        rotate_left
        · intro w0; go_simp; with_reducible rfl
        (try simp only [Act.put, List.setIfInBounds_toArray, List.set_cons_zero, List.set_cons_succ])
        refine take0 (i := 19) (oi := _) (v := ?_) rfl (by kernel_rfl) (by kernel_rfl) (by kernel_rfl) (fun _ _ _ h => h) rfl (Or.inl ⟨by rfl, ?_⟩) (fun _ => hS) ?_
        rotate_left
        · intro w0; go_simp; with_reducible rfl
        (try simp only [Act.put, List.setIfInBounds_toArray, List.set_cons_zero, List.set_cons_succ])
        refine oneT (i := 20) (by kernel_rfl) rfl (by rfl) (fun Kq hK => ?_)
        go_simp
        refine hK _ _ (noT_no (by kernel_rfl)) ?_
        clear hK
        refine doneT (by kernel_rfl) ?_ _
        have HC9 : Hid (ClSt w (W0.setCell ⟨gM, j, none⟩ (.int .i64 (mv + o2))) be bm ⟨K, ck, N, cn, some ⟨gM, 0, none⟩, m + 1, A⟩ l b (mostU l j)) := by rw [← HMS.out]; exact HC0.out.put rfl j _
        obtain ⟨W9, hW9⟩ : ∃ z : World, z = W0.setCell ⟨gM, j, none⟩ (.int .i64 (mv + o2)) := ⟨_, rfl⟩
        rw [← hW9] at HC9 ⊢
        clear hW9 HC0 hS hx1 hx6 hxl hel hc0 hc1 hl0 hl1 hz0 hgl
        go_wp2_with fail
        go_roundw
        case rel => exact ⟨j, by omega, by first | rfl | go_num, HC9⟩
        case measure => simp [intOf] <;> omega
end Go.Proofs.YtlfgcblijfflfaaGreat
