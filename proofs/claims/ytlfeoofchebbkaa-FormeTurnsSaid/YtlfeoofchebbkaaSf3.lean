/- slices.SortFunc at rows of three numbers: the library's contract, laid at this program (written by the kit's plain mode). -/
import Derived.Ground.SlsfProg
import Derived.Shelf.SlSortCmp.WholeK
import Derived.Shelf.SlSortCmp.NoneTotal
import Derived.Test.YtlfeoofchebbkaaProg
namespace Go.Proofs
open Go.Shelf Go.RowKit Go.Lib Go.Sort
def Try.laysSlF06_f126_ren : Go.Shelf.Ren := ⟨fun | 6 => 126 | 15 => 145 | 14 => 144 | 28 => 159 | 29 => 160 | 20 => 151 | 21 => 152 | 22 => 153 | 23 => 154 | 24 => 155 | 25 => 156 | 26 => 157 | 27 => 158 | 46 => 169 | 47 => 170 | 48 => 171 | 49 => 172 | 50 => 173 | 57 => 177 | n => n, fun | 22 => 96 | 24 => 143 | 25 => 146 | 3 => 3 | 39 => 153 | 0 => 0 | 53 => 159 | 55 => 162 | 4 => 4 | 46 => 168 | 45 => 167 | 50 => 172 | 5 => 5 | 9 => 9 | 66 => 181 | 70 => 185 | 76 => 189 | 77 => 32 | n => n, fun | n => n⟩
theorem Try.laysSlF06_f126 : Go.Proofs.SlLaysF0.n6 Try.prog Try.laysSlF06_f126_ren := {
  mixed := by kernel_rfl
  f6 := ⟨Try.f126.name, by decide, Try.func126.trans (congrArg some (by kernel_rfl))⟩
  f14 := ⟨Try.f144.name, by decide, Try.func144.trans (congrArg some (by kernel_rfl))⟩
  f15 := Try.func145.trans (congrArg some (by kernel_rfl))
  f20 := ⟨Try.f151.name, by decide, Try.func151.trans (congrArg some (by kernel_rfl))⟩
  f21 := ⟨Try.f152.name, by decide, Try.func152.trans (congrArg some (by kernel_rfl))⟩
  f22 := ⟨Try.f153.name, by decide, Try.func153.trans (congrArg some (by kernel_rfl))⟩
  f23 := ⟨Try.f154.name, by decide, Try.func154.trans (congrArg some (by kernel_rfl))⟩
  f24 := ⟨Try.f155.name, by decide, Try.func155.trans (congrArg some (by kernel_rfl))⟩
  f25 := ⟨Try.f156.name, by decide, Try.func156.trans (congrArg some (by kernel_rfl))⟩
  f26 := ⟨Try.f157.name, by decide, Try.func157.trans (congrArg some (by kernel_rfl))⟩
  f27 := ⟨Try.f158.name, by decide, Try.func158.trans (congrArg some (by kernel_rfl))⟩
  f28 := Try.func159.trans (congrArg some (by kernel_rfl))
  f29 := Try.func160.trans (congrArg some (by kernel_rfl))
  f46 := ⟨Try.f169.name, by decide, Try.func169.trans (congrArg some (by kernel_rfl))⟩
  f47 := Try.func170.trans (congrArg some (by kernel_rfl))
  f48 := Try.func171.trans (congrArg some (by kernel_rfl))
  f49 := ⟨Try.f172.name, by decide, Try.func172.trans (congrArg some (by kernel_rfl))⟩
  f50 := ⟨Try.f173.name, by decide, Try.func173.trans (congrArg some (by kernel_rfl))⟩
  f57 := ⟨Try.f177.name, by decide, Try.func177.trans (congrArg some (by kernel_rfl))⟩
  t0 := Try.underlying0
  a0 := Try.isAgg0
  z0 := Try.sizeOf0
  v0 := Try.zeroValue0
  t3 := Try.underlying3
  a3 := Try.isAgg3
  z3 := Try.sizeOf3
  v3 := Try.zeroValue3
  t4 := Try.underlying4
  a4 := Try.isAgg4
  z4 := Try.sizeOf4
  v4 := Try.zeroValue4
  t5 := Try.underlying5
  a5 := Try.isAgg5
  z5 := Try.sizeOf5
  v5 := Try.zeroValue5
  t9 := Try.underlying9
  a9 := Try.isAgg9
  z9 := Try.sizeOf9
  v9 := Try.zeroValue9
  t22 := Try.underlying96
  a22 := Try.isAgg96
  z22 := Try.sizeOf96
  v22 := Try.zeroValue96
  t25 := Try.underlying146
  a25 := Try.isAgg146
  z25 := Try.sizeOf146
  v25 := Try.zeroValue146
  t39 := Try.underlying153
  a39 := Try.isAgg153
  z39 := Try.sizeOf153
  v39 := Try.zeroValue153
  t45 := Try.underlying167
  a45 := Try.isAgg167
  z45 := Try.sizeOf167
  v45 := Try.zeroValue167
  t46 := Try.underlying168
  a46 := Try.isAgg168
  z46 := Try.sizeOf168
  v46 := Try.zeroValue168
  t50 := Try.underlying172
  a50 := Try.isAgg172
  z50 := Try.sizeOf172
  v50 := Try.zeroValue172
  t53 := Try.underlying159
  a53 := Try.isAgg159
  z53 := Try.sizeOf159
  v53 := Try.zeroValue159
  t55 := Try.underlying162
  a55 := Try.isAgg162
  z55 := Try.sizeOf162
  v55 := Try.zeroValue162
  t66 := Try.underlying181
  a66 := Try.isAgg181
  z66 := Try.sizeOf181
  v66 := Try.zeroValue181
  t70 := Try.underlying185
  a70 := Try.isAgg185
  z70 := Try.sizeOf185
  v70 := Try.zeroValue185
  t76 := Try.underlying189
  a76 := Try.isAgg189
  z76 := Try.sizeOf189
  v76 := Try.zeroValue189
  t77 := Try.underlying32
  a77 := Try.isAgg32
  z77 := Try.sizeOf32
  v77 := Try.zeroValue32 }
theorem Try.sort3_eq {α : Type} [Inhabited α] (k : Nat) (aE : ∀ w, (isAgg 143).run Try.prog w = .ok true w) (zE : ∀ w, (Go.sizeOf 143).run Try.prog w = .ok k w) (enc : α → List Value) (hk : ∀ x, (enc x).length = k) (h1 : ∀ x, ∀ v ∈ enc x, v.oneCell' = true) (cf : α → α → Int) (hO : SWO (ltOf cf)) (g : Nat) (cb : Array Value) (blk off cap : Nat) (d : Array α) (w : World) (eg : ∀ args w, (callFunc g args).run Try.prog w = .ok (.enter g args) w) (hcmp : CmpLays Try.prog g cb enc k cf blk off d.size w) (hH : HoldsK enc k w blk off d) (hblk : blk < w.heap.size) (hsz : d.size < 4611686018427387904) :
    Calls Try.prog 126 #[.slice (some ⟨blk, off, none⟩) d.size cap, .func (.func g) #[] cb] w fun e w' =>
      e = .returned (.tuple #[]) ∧ ∃ n os, w' = sortWorldK enc k w blk off n (pdq (ltOf cf) d 0 d.size (Lib.bitLen d.size) true true) os := AnyQ.slices_SortFunc_eq Try.laysSlF06_f126 k aE zE enc hk h1 cf hO g cb blk off cap d w eg hcmp hH hblk hsz
theorem Try.sort3 {α : Type} [Inhabited α] (k : Nat) (aE : ∀ w, (isAgg 143).run Try.prog w = .ok true w) (zE : ∀ w, (Go.sizeOf 143).run Try.prog w = .ok k w) (enc : α → List Value) (hk : ∀ x, (enc x).length = k) (h1 : ∀ x, ∀ v ∈ enc x, v.oneCell' = true) (cf : α → α → Int) (hO : SWO (ltOf cf)) (g : Nat) (cb : Array Value) (blk off cap : Nat) (d : Array α) (w : World) (eg : ∀ args w, (callFunc g args).run Try.prog w = .ok (.enter g args) w) (hcmp : CmpLays Try.prog g cb enc k cf blk off d.size w) (hH : HoldsK enc k w blk off d) (hblk : blk < w.heap.size) (hsz : d.size < 4611686018427387904) :
    Calls Try.prog 126 #[.slice (some ⟨blk, off, none⟩) d.size cap, .func (.func g) #[] cb] w fun e w' =>
      e = .returned (.tuple #[]) ∧ ∃ d' n os, PermIn 0 d.size d d' ∧ SortedIn (ltOf cf) 0 d.size d' ∧ w' = sortWorldK enc k w blk off n d' os := AnyQ.slices_SortFunc Try.laysSlF06_f126 k aE zE enc hk h1 cf hO g cb blk off cap d w eg hcmp hH hblk hsz
theorem Try.sort3_none {α : Type} [Inhabited α] (p : Option Addr) (cap : Nat) (fv : Value) (w : World) :
    Calls Try.prog 126 #[.slice p 0 cap, fv] w fun e w' => e = .returned (.tuple #[]) ∧ w' = w := AnyF.slices_SortFunc_none Try.laysSlF06_f126 p cap fv w
theorem Try.sort3_total {α : Type} [Inhabited α] (k : Nat) (aE : ∀ w, (isAgg 143).run Try.prog w = .ok true w) (zE : ∀ w, (Go.sizeOf 143).run Try.prog w = .ok k w) (enc : α → List Value) (hk : ∀ x, (enc x).length = k) (h1 : ∀ x, ∀ v ∈ enc x, v.oneCell' = true) (cf : α → α → Int) (hO : SWO (ltOf cf)) (g : Nat) (cb : Array Value) (blk off cap : Nat) (d : Array α) (w : World) (eg : ∀ args w, (callFunc g args).run Try.prog w = .ok (.enter g args) w) (hcmp : CmpLays Try.prog g cb enc k cf blk off d.size w) (hH : HoldsK enc k w blk off d) (hblk : blk < w.heap.size) (hsz : d.size < 4611686018427387904) (hT : ∀ x y, (ltOf cf) x y = false → (ltOf cf) y x = false → x = y) :
    Calls Try.prog 126 #[.slice (some ⟨blk, off, none⟩) d.size cap, .func (.func g) #[] cb] w fun e w' =>
      e = .returned (.tuple #[]) ∧ ∃ n os, w' = sortWorldK enc k w blk off n (d.toList.mergeSort fun x y => !(ltOf cf) y x).toArray os := AnyQ.slices_SortFunc_total Try.laysSlF06_f126 k aE zE enc hk h1 cf hO g cb blk off cap d w eg hcmp hH hblk hsz hT
end Go.Proofs
