/- along's slices.SortFunc at whatever length. -/
import Derived.Test.YtlfeoofchebbkaaSrt
import Derived.Shelf.SlSortCmp.Whole1
namespace Go.Proofs.Ytlfeoofchebbkaa
set_option linter.unusedSimpArgs false
set_option linter.unusedVariables false
open Go.RowKit Go.Sort Go.Shelf
theorem enters142 : ∀ (args : Array Value) (w : World), (callFunc 142 args).run Try.prog w = .ok (.enter 142 args) w := enters_of' Try.func142 (by kernel_rfl) rfl
theorem row_sort (ps : List Piece) (is : Piece → Bool) [Inhabited (Al ps is)] (bo bf b off c blk cap : Nat) (d : Array (Al ps is)) (w : World) (ho : w.cell? ⟨bo, 0, none⟩ = some (.func (.func 121) #[] #[])) (hf : w.cell? ⟨bf, 2, none⟩ = some (.slice (some ⟨b, off, none⟩) ps.length c)) (hb : b < w.heap.size) (hps : PsAt w b off ps)
    (n1 : bo ≠ blk) (n2 : bf ≠ blk) (n3 : b ≠ blk) (hH : Holds encA w blk 0 d) (hblk : blk < w.heap.size) (hsz : d.size < 4611686018427387904) :
    Calls Try.prog 141 #[.slice (some ⟨blk, 0, none⟩) d.size cap, .func (.func 142) #[] #[.pointer (some ⟨bo, 0, none⟩), .pointer (some ⟨bf, 0, none⟩)]] w fun e w' =>
      e = .returned (.tuple #[]) ∧ ∃ d' n os, PermIn 0 d.size d d' ∧ SortedIn (ltOf (cfA fun p => p.x)) 0 d.size d' ∧ w' = sortWorld encA w blk 0 n d' os :=
  Any.slices_SortFunc Try.laysSlF6_f141 encA (fun _ => rfl) (cfA fun p => p.x) swoA 142 _ blk 0 cap d w enters142 (row_lays ps is bo bf b off c blk w d.size ho hf hb hps n1 n2 n3) hH hblk hsz
theorem col_sort (ps : List Piece) (is : Piece → Bool) [Inhabited (Al ps is)] (bo bf b off c blk cap : Nat) (d : Array (Al ps is)) (w : World) (ho : w.cell? ⟨bo, 0, none⟩ = some (.func (.func 123) #[] #[])) (hf : w.cell? ⟨bf, 2, none⟩ = some (.slice (some ⟨b, off, none⟩) ps.length c)) (hb : b < w.heap.size) (hps : PsAt w b off ps)
    (n1 : bo ≠ blk) (n2 : bf ≠ blk) (n3 : b ≠ blk) (hH : Holds encA w blk 0 d) (hblk : blk < w.heap.size) (hsz : d.size < 4611686018427387904) :
    Calls Try.prog 141 #[.slice (some ⟨blk, 0, none⟩) d.size cap, .func (.func 142) #[] #[.pointer (some ⟨bo, 0, none⟩), .pointer (some ⟨bf, 0, none⟩)]] w fun e w' =>
      e = .returned (.tuple #[]) ∧ ∃ d' n os, PermIn 0 d.size d d' ∧ SortedIn (ltOf (cfA fun p => p.y)) 0 d.size d' ∧ w' = sortWorld encA w blk 0 n d' os :=
  Any.slices_SortFunc Try.laysSlF6_f141 encA (fun _ => rfl) (cfA fun p => p.y) swoA 142 _ blk 0 cap d w enters142 (col_lays ps is bo bf b off c blk w d.size ho hf hb hps n1 n2 n3) hH hblk hsz
end Go.Proofs.Ytlfeoofchebbkaa
