/- Reading clauses: what the lines of a text say. Of no program. -/
import Derived.Test.YtabjbpkojbdgaaaGreatDoorNumPlain
import Derived.Test.YtabjbpkojbdgaaaGreatDoorWordPlain
import Derived.Test.YtabjbpkojbdgaaaGreatDoorLinePlain
import Derived.Test.YtabjbpkojbdgaaaGreatDoorSatPlain
namespace Go.Proofs.YtabjbpkojbdgaaaGreatDoor

/-- What was read: was the head, how many variables, how many clauses were told, the clauses, the open clause. -/
structure Rd where
  head : Bool
  vars : Int
  many : Int
  cls : List (List Int)
  now : List Int

/-- One number more. -/
def Rd.put (r : Rd) (n : Int) : Rd := if n = 0 then { r with cls := r.cls ++ [r.now], now := [] } else { r with now := r.now ++ [n] }
def Rd.puts (r : Rd) : List Int → Rd
  | [] => r
  | n :: t => (r.put n).puts t
/-- The numbers of some words; none: a word is none. -/
def numsF : List (List UInt8) → Option (List Int)
  | [] => some []
  | w :: t => match numF w with
    | none => none
    | some n => (numsF t).map (n :: ·)

/-- One line; none: it is wrong. -/
def Rd.line (r : Rd) (ws : List (List UInt8)) : Option Rd :=
  if ws = [] ∨ ws.head? = some [99] then some r
  else if r.head then (numsF ws).map r.puts
  else if ws.length ≠ 4 ∨ ws.head? ≠ some [112] ∨ ws[1]? ≠ some [99, 110, 102] then none
  else match numsF (ws.drop 2) with
    | some [v, k] => some { r with head := true, vars := v, many := k }
    | _ => none
/-- The lines from place i on: what was read, or the place of the wrong one. -/
def Rd.lines (r : Rd) : List (List UInt8) → Nat → Rd ⊕ Nat
  | [], _ => .inl r
  | l :: t, i => match r.line (wordsF l) with
    | none => .inr i
    | some r' => r'.lines t (i + 1)
def rd0 : Rd := ⟨false, 0, 0, [], []⟩

/-- Read: the variables, the clauses, a code, a place. -/
def readF (l : List UInt8) : Int × List (List Int) × Int × Int :=
  if 80000 < l.length then (0, [], 2, 0)
  else match rd0.lines (linesF l) 0 with
    | .inr i => (0, [], 1, i)
    | .inl r =>
      if r.head = false ∨ r.now ≠ [] ∨ r.many ≠ r.cls.length then (0, [], 9, 0)
      else if (checkC r.vars r.cls).1 ≠ 0 then (0, [], (checkC r.vars r.cls).1, (checkC r.vars r.cls).2)
      else (r.vars, r.cls, 0, 0)
end Go.Proofs.YtabjbpkojbdgaaaGreatDoor
