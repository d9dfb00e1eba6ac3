/- A trail level by level, plainly. -/
import Derived.Test.YtlfgcblijfflfaaGreatUnitPlain
namespace Go.Proofs.YtlfgcblijfflfaaGreat

/-- t: the trail; y: reasons; v: levels; z: the last level that was begun; a: the clause that is false, or -1. -/
def lvlF (vars : Int) (xss : List (List Int)) : List Int → List Int → List Int → List Int → Nat → Int → List Int × List Int × List Int × Nat × Int
  | [], t, y, v, z, a => (t, y, v, z, a)
  | l :: r, t, y, v, z, a =>
    if 0 ≤ a then (t, y, v, z, a)
    else if hasB t l || hasB t (-l) then lvlF vars xss r t y v z a
    else lvlF vars xss r (runF xss (vars.toNat + 1) (t ++ [l]) (y ++ [-1])).1 (runF xss (vars.toNat + 1) (t ++ [l]) (y ++ [-1])).2.1
      (v ++ List.replicate ((runF xss (vars.toNat + 1) (t ++ [l]) (y ++ [-1])).1.length - v.length) ((z : Int) + 1)) (z + 1) (runF xss (vars.toNat + 1) (t ++ [l]) (y ++ [-1])).2.2
def startF (vars : Int) (xss : List (List Int)) (q : List Int) : List Int × List Int × List Int × Nat × Int :=
  lvlF vars xss q (runF xss (vars.toNat + 1) [] []).1 (runF xss (vars.toNat + 1) [] []).2.1 (List.replicate (runF xss (vars.toNat + 1) [] []).1.length 0) 0 (runF xss (vars.toNat + 1) [] []).2.2
end Go.Proofs.YtlfgcblijfflfaaGreat
