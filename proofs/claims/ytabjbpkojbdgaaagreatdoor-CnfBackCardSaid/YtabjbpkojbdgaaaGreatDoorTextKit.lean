/- strings.Builder and strconv.Itoa in the words of these proofs. -/
import Derived.Test.YtabjbpkojbdgaaaGreatDoorShelf3
import Derived.Test.YtabjbpkojbdgaaaGreatDoorTextPlain
import Derived.Lib.AppendIntMem
namespace Go.Proofs.YtabjbpkojbdgaaaGreatDoor
open Go.RowKit

/-- A builder in block b, one of the call's own, that holds the bytes l. -/
def BStr (b : Nat) (l : List UInt8) (w : World) : Prop := Lib.IsBuilder 38 5 b b (Lib.byteCells l) w

theorem builderAt_keep {T e : TypeId} {B b : Nat} {p : Value} {bs : List Value} {w w' : World} (h : Lib.BuilderAt T e B b p bs w) (hb : Below w.heap.size w w') : Lib.BuilderAt T e B b p bs w' := by
  have hlt := h.lt
  obtain ⟨hB, v, hbk, hown, hne⟩ := h
  exact ⟨hB, v, (hb.block b hlt).trans hbk, hown.kept (row := some b) ⟨hb.1, hb.2, hb.3, hb.4, fun k hk _ => hb.block k hk⟩ (Or.inr hne), hne⟩
theorem BStr.keep {b : Nat} {l : List UInt8} {w w' : World} (h : BStr b l w) (hb : Below w.heap.size w w') : BStr b l w' :=
  h.imp (builderAt_keep · hb) (builderAt_keep · hb)
theorem BStr.new (w : World) : BStr w.heap.size [] (w.alloc (.cells #[.pointer none, .slice none 0 0] 38)) := Lib.fresh_isBuilder _ _ w

theorem strCells_bsOf (l : List UInt8) : Lib.strCells (bsOf l) = Lib.byteCells l := rfl

theorem write_any (b : Nat) (l m : List UInt8) (s : ByteArray) (hs : Hid (bsOf m = s)) (w : World) (h : BStr b l w) (hlen : l.length + m.length ≤ 1000000) (hB : b ≤ w.heap.size) :
    Calls Tryz.prog 9 #[.pointer (some ⟨b, 0, none⟩), .string s] w fun e w' => e = .returned (.tuple #[.int .i64 s.size, .nilIface]) ∧ BStr b (l ++ m) w' ∧ Below b w w' := by
  have hs := hs.out
  subst hs
  refine (Tryz.Builder_WriteString b b _ _ w h (by rw [Lib.byteCells_length, bsOf_size]; omega) hB).mono ?_
  rintro e w' ⟨rfl, h1, h2⟩
  refine ⟨rfl, Or.inr ?_, h2⟩
  rw [strCells_bsOf, ← Lib.byteCells_append] at h1
  exact h1

theorem string_any (b : Nat) (l : List UInt8) (s : ByteArray) (hs : Hid (bsOf l = s)) (w : World) (h : BStr b l w) (hB : b ≤ w.heap.size) :
    Calls Tryz.prog 11 #[.pointer (some ⟨b, 0, none⟩)] w fun e w' => e = .returned (.string s) ∧ Below b w w' := by
  have hs := hs.out
  subst hs
  exact Tryz.Builder_String_any b b l w h hB

theorem itoa_any (w0 w : World) (ht : Hid (Lib.TabIs Tryz.prog w0 "internal/strconv.uint64pow10" .u64 Lib.pow10Tab)) (hb : Below w0.heap.size w0 w) (n : Int) (h0 : -1000000 ≤ n) (h1 : n ≤ 1000000) (s : ByteArray) (hs : Hid (bsOf (Lib.itoa n) = s)) :
    Calls Tryz.prog 10 #[.int .i64 n] w fun e w' => e = .returned (.string s) ∧ Below w.heap.size w w' := by
  have hs := hs.out
  subst hs
  refine (Tryz.strconv_Itoa n (by omega) (by omega) w (Lib.tabBelow_of_tabIs ht.out w hb)).mono ?_
  rintro e w' ⟨rfl, k, os, rfl⟩
  exact ⟨rfl, Lib.below_grow _ w (Nat.le_refl _) k os⟩
end Go.Proofs.YtabjbpkojbdgaaaGreatDoor
