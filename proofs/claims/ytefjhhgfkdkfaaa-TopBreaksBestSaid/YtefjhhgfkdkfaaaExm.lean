/- The example of chapter 4, in plain words: its demerits are 50. -/
import Derived.Test.YtefjhhgfkdkfaaaPlm
namespace Go.Proofs.Ytefjhhgfkdkfaaa
set_option linter.unusedSimpArgs false
set_option linter.unusedVariables false
def romS : List TSort := [⟨⟨#[97]⟩, ⟨#[97]⟩, 1, 300⟩, ⟨⟨#[98]⟩, ⟨#[98]⟩, 1, 330⟩, ⟨⟨#[102, 105]⟩, ⟨#[102, 105]⟩, 2, 360⟩, ⟨⟨#[116, 104, 105, 99, 107]⟩, ⟨#[]⟩, 3, 200⟩, ⟨⟨#[116, 104, 105, 110]⟩, ⟨#[]⟩, 3, 120⟩]
def rom4 : Fnt := ⟨⟨#[114, 111, 109]⟩, 10, romS ++ [⟨⟨#[104, 121]⟩, ⟨#[45]⟩, 1, 100⟩]⟩
def rul4 : Rls := ⟨1400, 0, 120, 400, 3, 5, 50, 100⟩
def div4 : List PWord := [⟨[0], []⟩, ⟨[0], []⟩, ⟨[0, 0], [1]⟩, ⟨[0], []⟩]
theorem ex_pa : paErr rom4 rul4 div4 = 0 := by decide +kernel
theorem ex_pl : (places div4).length = 6 := by decide +kernel
theorem ex_d : dist (tab rom4 rul4 div4) 5 = 50 := by decide +kernel
end Go.Proofs.Ytefjhhgfkdkfaaa
