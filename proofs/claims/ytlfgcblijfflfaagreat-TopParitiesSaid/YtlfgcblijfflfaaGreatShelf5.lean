/- The contracts of slices.SortFunc at elements of several cells at this program (laid by the tools of the shelf). -/
import Derived.Ground.SlsfProg
import Derived.Shelf.SlSortCmp.WholeK
import Derived.Shelf.SlSortCmp.NoneTotal
import Derived.Test.YtlfgcblijfflfaaGreatProg
namespace Go.Proofs
open Go.Shelf
def Tryz.laysSlF06_f35_ren : Go.Shelf.Ren := ⟨fun | 6 => 35 | 15 => 69 | 14 => 68 | 28 => 99 | 29 => 100 | 20 => 91 | 21 => 92 | 22 => 93 | 23 => 94 | 24 => 95 | 25 => 96 | 26 => 97 | 27 => 98 | 46 => 123 | 47 => 124 | 48 => 125 | 49 => 126 | 50 => 127 | 57 => 144 | n => n, fun | 22 => 36 | 24 => 39 | 25 => 74 | 3 => 3 | 39 => 114 | 0 => 0 | 53 => 141 | 55 => 143 | 4 => 4 | 46 => 135 | 45 => 134 | 50 => 102 | 5 => 5 | 9 => 9 | 66 => 161 | 70 => 165 | 76 => 179 | 77 => 63 | n => n, fun | n => n⟩
theorem Tryz.laysSlF06_f35 : Go.Proofs.SlLaysF0.n6 Tryz.prog Tryz.laysSlF06_f35_ren := {
  mixed := by kernel_rfl
  f6 := ⟨Tryz.f35.name, by decide, Tryz.func35.trans (congrArg some (by kernel_rfl))⟩
  f14 := ⟨Tryz.f68.name, by decide, Tryz.func68.trans (congrArg some (by kernel_rfl))⟩
  f15 := Tryz.func69.trans (congrArg some (by kernel_rfl))
  f20 := ⟨Tryz.f91.name, by decide, Tryz.func91.trans (congrArg some (by kernel_rfl))⟩
  f21 := ⟨Tryz.f92.name, by decide, Tryz.func92.trans (congrArg some (by kernel_rfl))⟩
  f22 := ⟨Tryz.f93.name, by decide, Tryz.func93.trans (congrArg some (by kernel_rfl))⟩
  f23 := ⟨Tryz.f94.name, by decide, Tryz.func94.trans (congrArg some (by kernel_rfl))⟩
  f24 := ⟨Tryz.f95.name, by decide, Tryz.func95.trans (congrArg some (by kernel_rfl))⟩
  f25 := ⟨Tryz.f96.name, by decide, Tryz.func96.trans (congrArg some (by kernel_rfl))⟩
  f26 := ⟨Tryz.f97.name, by decide, Tryz.func97.trans (congrArg some (by kernel_rfl))⟩
  f27 := ⟨Tryz.f98.name, by decide, Tryz.func98.trans (congrArg some (by kernel_rfl))⟩
  f28 := Tryz.func99.trans (congrArg some (by kernel_rfl))
  f29 := Tryz.func100.trans (congrArg some (by kernel_rfl))
  f46 := ⟨Tryz.f123.name, by decide, Tryz.func123.trans (congrArg some (by kernel_rfl))⟩
  f47 := Tryz.func124.trans (congrArg some (by kernel_rfl))
  f48 := Tryz.func125.trans (congrArg some (by kernel_rfl))
  f49 := ⟨Tryz.f126.name, by decide, Tryz.func126.trans (congrArg some (by kernel_rfl))⟩
  f50 := ⟨Tryz.f127.name, by decide, Tryz.func127.trans (congrArg some (by kernel_rfl))⟩
  f57 := ⟨Tryz.f144.name, by decide, Tryz.func144.trans (congrArg some (by kernel_rfl))⟩
  t0 := Tryz.underlying0
  a0 := Tryz.isAgg0
  z0 := Tryz.sizeOf0
  v0 := Tryz.zeroValue0
  t3 := Tryz.underlying3
  a3 := Tryz.isAgg3
  z3 := Tryz.sizeOf3
  v3 := Tryz.zeroValue3
  t4 := Tryz.underlying4
  a4 := Tryz.isAgg4
  z4 := Tryz.sizeOf4
  v4 := Tryz.zeroValue4
  t5 := Tryz.underlying5
  a5 := Tryz.isAgg5
  z5 := Tryz.sizeOf5
  v5 := Tryz.zeroValue5
  t9 := Tryz.underlying9
  a9 := Tryz.isAgg9
  z9 := Tryz.sizeOf9
  v9 := Tryz.zeroValue9
  t22 := Tryz.underlying36
  a22 := Tryz.isAgg36
  z22 := Tryz.sizeOf36
  v22 := Tryz.zeroValue36
  t25 := Tryz.underlying74
  a25 := Tryz.isAgg74
  z25 := Tryz.sizeOf74
  v25 := Tryz.zeroValue74
  t39 := Tryz.underlying114
  a39 := Tryz.isAgg114
  z39 := Tryz.sizeOf114
  v39 := Tryz.zeroValue114
  t45 := Tryz.underlying134
  a45 := Tryz.isAgg134
  z45 := Tryz.sizeOf134
  v45 := Tryz.zeroValue134
  t46 := Tryz.underlying135
  a46 := Tryz.isAgg135
  z46 := Tryz.sizeOf135
  v46 := Tryz.zeroValue135
  t50 := Tryz.underlying102
  a50 := Tryz.isAgg102
  z50 := Tryz.sizeOf102
  v50 := Tryz.zeroValue102
  t53 := Tryz.underlying141
  a53 := Tryz.isAgg141
  z53 := Tryz.sizeOf141
  v53 := Tryz.zeroValue141
  t55 := Tryz.underlying143
  a55 := Tryz.isAgg143
  z55 := Tryz.sizeOf143
  v55 := Tryz.zeroValue143
  t66 := Tryz.underlying161
  a66 := Tryz.isAgg161
  z66 := Tryz.sizeOf161
  v66 := Tryz.zeroValue161
  t70 := Tryz.underlying165
  a70 := Tryz.isAgg165
  z70 := Tryz.sizeOf165
  v70 := Tryz.zeroValue165
  t76 := Tryz.underlying179
  a76 := Tryz.isAgg179
  z76 := Tryz.sizeOf179
  v76 := Tryz.zeroValue179
  t77 := Tryz.underlying63
  a77 := Tryz.isAgg63
  z77 := Tryz.sizeOf63
  v77 := Tryz.zeroValue63 }
open Go.RowKit Go.Lib Go.Sort in
theorem Tryz.slices_SortFunc_k_f35 {α : Type} [Inhabited α] (k : Nat) (aE : ∀ w, (isAgg 39).run Tryz.prog w = .ok true w) (zE : ∀ w, (Go.sizeOf 39).run Tryz.prog w = .ok k w) (enc : α → List Value) (hk : ∀ x, (enc x).length = k) (h1 : ∀ x, ∀ v ∈ enc x, v.oneCell' = true) (cf : α → α → Int) (hO : SWO (ltOf cf)) (g : Nat) (cb : Array Value) (blk off cap : Nat) (d : Array α) (w : World) (eg : ∀ args w, (callFunc g args).run Tryz.prog w = .ok (.enter g args) w) (hcmp : CmpLays Tryz.prog g cb enc k cf blk off d.size w) (hH : HoldsK enc k w blk off d) (hblk : blk < w.heap.size) (hsz : d.size < 4611686018427387904) :
    Calls Tryz.prog 35 #[.slice (some ⟨blk, off, none⟩) d.size cap, .func (.func g) #[] cb] w fun e w' =>
      e = .returned (.tuple #[]) ∧ ∃ d' n os, PermIn 0 d.size d d' ∧ SortedIn (ltOf cf) 0 d.size d' ∧ w' = sortWorldK enc k w blk off n d' os := AnyQ.slices_SortFunc Tryz.laysSlF06_f35 k aE zE enc hk h1 cf hO g cb blk off cap d w eg hcmp hH hblk hsz
open Go.RowKit Go.Lib Go.Sort in
theorem Tryz.slices_SortFunc_none_f35 {α : Type} [Inhabited α] (p : Option Addr) (cap : Nat) (fv : Value) (w : World) :
    Calls Tryz.prog 35 #[.slice p 0 cap, fv] w fun e w' => e = .returned (.tuple #[]) ∧ w' = w := AnyF.slices_SortFunc_none Tryz.laysSlF06_f35 p cap fv w
end Go.Proofs
