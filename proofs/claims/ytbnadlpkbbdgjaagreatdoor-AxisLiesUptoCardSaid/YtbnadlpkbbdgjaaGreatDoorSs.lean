/-
  DERIVED: THE SHELF's CONTRACTS AT THIS DUMP, IN PLAIN WORDS (tools/lay-plain.mjs out of 'YtbnadlpkbbdgjaaGreatDoorSortShelf.lean', which tools/lay-shelf.mjs wrote): THE SAME DECLARATIONS UNDER THE SAME NAMES: 'import', 'namespace', 'open', 'def', 'theorem' AND NOTHING ELSE: no command of the shelf's: FOR A HAND-IN. Each laying: the table of numbers ('.._ren') and one theorem, a field a fact of the dump's own or the kernel's comparison; each contract: ONE APPLICATION.
-/
import Derived.Shelf.SlGeneric
import Derived.Shelf.SlSortCmp.WholeK
import Derived.Shelf.SlSortCmp.NoneTotal
import Derived.Ground.SlsfProg
import Derived.Test.YtbnadlpkbbdgjaaGreatDoorProg
namespace Go.Proofs
open Go.Shelf
def Tryz.sortV_ren : Go.Shelf.Ren := ⟨fun | 6 => 87 | 15 => 132 | 14 => 131 | 28 => 173 | 29 => 174 | 20 => 165 | 21 => 166 | 22 => 167 | 23 => 168 | 24 => 169 | 25 => 170 | 26 => 171 | 27 => 172 | 46 => 191 | 47 => 192 | 48 => 193 | 49 => 194 | 50 => 195 | 57 => 204 | n => n, fun | 22 => 22 | 24 => 30 | 25 => 59 | 3 => 3 | 39 => 74 | 0 => 0 | 53 => 173 | 55 => 23 | 4 => 4 | 46 => 198 | 45 => 197 | 50 => 57 | 5 => 5 | 9 => 9 | 66 => 220 | 70 => 224 | 76 => 229 | 77 => 230 | n => n, fun | n => n⟩
theorem Tryz.sortV : Go.Proofs.SlLaysF0.n6 Tryz.prog Tryz.sortV_ren := {
  mixed := by kernel_rfl
  f6 := ⟨Tryz.f87.name, by decide, Tryz.func87.trans (congrArg some (by kernel_rfl))⟩
  f14 := ⟨Tryz.f131.name, by decide, Tryz.func131.trans (congrArg some (by kernel_rfl))⟩
  f15 := Tryz.func132.trans (congrArg some (by kernel_rfl))
  f20 := ⟨Tryz.f165.name, by decide, Tryz.func165.trans (congrArg some (by kernel_rfl))⟩
  f21 := ⟨Tryz.f166.name, by decide, Tryz.func166.trans (congrArg some (by kernel_rfl))⟩
  f22 := ⟨Tryz.f167.name, by decide, Tryz.func167.trans (congrArg some (by kernel_rfl))⟩
  f23 := ⟨Tryz.f168.name, by decide, Tryz.func168.trans (congrArg some (by kernel_rfl))⟩
  f24 := ⟨Tryz.f169.name, by decide, Tryz.func169.trans (congrArg some (by kernel_rfl))⟩
  f25 := ⟨Tryz.f170.name, by decide, Tryz.func170.trans (congrArg some (by kernel_rfl))⟩
  f26 := ⟨Tryz.f171.name, by decide, Tryz.func171.trans (congrArg some (by kernel_rfl))⟩
  f27 := ⟨Tryz.f172.name, by decide, Tryz.func172.trans (congrArg some (by kernel_rfl))⟩
  f28 := Tryz.func173.trans (congrArg some (by kernel_rfl))
  f29 := Tryz.func174.trans (congrArg some (by kernel_rfl))
  f46 := ⟨Tryz.f191.name, by decide, Tryz.func191.trans (congrArg some (by kernel_rfl))⟩
  f47 := Tryz.func192.trans (congrArg some (by kernel_rfl))
  f48 := Tryz.func193.trans (congrArg some (by kernel_rfl))
  f49 := ⟨Tryz.f194.name, by decide, Tryz.func194.trans (congrArg some (by kernel_rfl))⟩
  f50 := ⟨Tryz.f195.name, by decide, Tryz.func195.trans (congrArg some (by kernel_rfl))⟩
  f57 := ⟨Tryz.f204.name, by decide, Tryz.func204.trans (congrArg some (by kernel_rfl))⟩
  t0 := Tryz.underlying0
  a0 := Tryz.isAgg0
  z0 := Tryz.sizeOf0
  v0 := Tryz.zeroValue0
  t3 := Tryz.underlying3
  a3 := Tryz.isAgg3
  z3 := Tryz.sizeOf3
  v3 := Tryz.zeroValue3
  t4 := Tryz.underlying4
  a4 := Tryz.isAgg4
  z4 := Tryz.sizeOf4
  v4 := Tryz.zeroValue4
  t5 := Tryz.underlying5
  a5 := Tryz.isAgg5
  z5 := Tryz.sizeOf5
  v5 := Tryz.zeroValue5
  t9 := Tryz.underlying9
  a9 := Tryz.isAgg9
  z9 := Tryz.sizeOf9
  v9 := Tryz.zeroValue9
  t22 := Tryz.underlying22
  a22 := Tryz.isAgg22
  z22 := Tryz.sizeOf22
  v22 := Tryz.zeroValue22
  t25 := Tryz.underlying59
  a25 := Tryz.isAgg59
  z25 := Tryz.sizeOf59
  v25 := Tryz.zeroValue59
  t39 := Tryz.underlying74
  a39 := Tryz.isAgg74
  z39 := Tryz.sizeOf74
  v39 := Tryz.zeroValue74
  t45 := Tryz.underlying197
  a45 := Tryz.isAgg197
  z45 := Tryz.sizeOf197
  v45 := Tryz.zeroValue197
  t46 := Tryz.underlying198
  a46 := Tryz.isAgg198
  z46 := Tryz.sizeOf198
  v46 := Tryz.zeroValue198
  t50 := Tryz.underlying57
  a50 := Tryz.isAgg57
  z50 := Tryz.sizeOf57
  v50 := Tryz.zeroValue57
  t53 := Tryz.underlying173
  a53 := Tryz.isAgg173
  z53 := Tryz.sizeOf173
  v53 := Tryz.zeroValue173
  t55 := Tryz.underlying23
  a55 := Tryz.isAgg23
  z55 := Tryz.sizeOf23
  v55 := Tryz.zeroValue23
  t66 := Tryz.underlying220
  a66 := Tryz.isAgg220
  z66 := Tryz.sizeOf220
  v66 := Tryz.zeroValue220
  t70 := Tryz.underlying224
  a70 := Tryz.isAgg224
  z70 := Tryz.sizeOf224
  v70 := Tryz.zeroValue224
  t76 := Tryz.underlying229
  a76 := Tryz.isAgg229
  z76 := Tryz.sizeOf229
  v76 := Tryz.zeroValue229
  t77 := Tryz.underlying230
  a77 := Tryz.isAgg230
  z77 := Tryz.sizeOf230
  v77 := Tryz.zeroValue230 }
open Go.RowKit Go.Lib Go.Sort in
/-- slices.SortFunc at values. (LAID: no walk: one application.) -/
theorem Tryz.slices_SortFunc_V {α : Type} [Inhabited α] (enc : α → List Value) (hk : ∀ x, (enc x).length = 10) (h1 : ∀ x, ∀ v ∈ enc x, v.oneCell' = true) (cf : α → α → Int) (hO : SWO (ltOf cf)) (g : Nat) (cb : Array Value) (blk off cap : Nat) (d : Array α) (w : World)
    (eg : ∀ args w, (callFunc g args).run Tryz.prog w = .ok (.enter g args) w) (hcmp : CmpLays Tryz.prog g cb enc 10 cf blk off d.size w) (hH : HoldsK enc 10 w blk off d) (hblk : blk < w.heap.size) (hsz : d.size < 4611686018427387904) :
    Calls Tryz.prog 87 #[.slice (some ⟨blk, off, none⟩) d.size cap, .func (.func g) #[] cb] w fun e w' =>
      e = .returned (.tuple #[]) ∧ ∃ d' n os, PermIn 0 d.size d d' ∧ SortedIn (ltOf cf) 0 d.size d' ∧ w' = sortWorldK enc 10 w blk off n d' os := AnyQ.slices_SortFunc Tryz.sortV 10 Tryz.isAgg30 Tryz.sizeOf30 enc hk h1 cf hO g cb blk off cap d w eg hcmp hH hblk hsz
end Go.Proofs
