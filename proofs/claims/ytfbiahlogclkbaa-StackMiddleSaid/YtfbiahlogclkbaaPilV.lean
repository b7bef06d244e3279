/- What the piled ones come to. No condition is added. -/
import Derived.Test.YtfbiahlogclkbaaStkE
import Derived.Test.YtfbiahlogclkbaaStkF
import Derived.Test.YtfbiahlogclkbaaStkG
set_option linter.unusedVariables false
set_option linter.unusedSimpArgs false
namespace Go.Proofs.Ytfbiahlogclkbaa.H
open Go.RowKit Go.Proofs.YtfbiahlogclkbaaW.PrintWords Go.Proofs.YtfbiahlogclkbaaW.PrintLast Go.Proofs.YtfbiahlogclkbaaW.PrintMore Go.Proofs.Ytfbiahlogclkbaa.P

def pilL : List Int := [0, 0, 0, 0, 0, 250, 0, 0, 0, 0, 0, 0, 0, 0, 0, 0, 0, 0, 0, 0, 0, 0, 0, 0, 0, 0, 0, 0, 0, 0, 0, 0, 0, 300, 0, 0, 0, 100, 40, 0, 100, 0, 0, 0, 0, 0, 0, 0, 0, 0, 0, 0, 0, 0, 0, 0]
def pilH : S23 := ⟨1000, 1, 1, 0, 0, false⟩
def pilN : Bx := ⟨2, 100, 50, 20, 0, 0, []⟩
def pilD : Bx := ⟨2, 301, 60, 0, 0, 0, []⟩
def pilR : Bx := ⟨2, 301, 270, -230, 0, 0, []⟩
def pilW : Bx := ⟨3, 301, 440, 0, 0, 0, [⟨100, 390, pilN⟩, ⟨0, 0, pilR⟩, ⟨0, 0, pilD⟩]⟩
def pilC : Bx := ⟨3, 100, 285, 0, 0, 0, [⟨0, 235, pilN⟩]⟩
set_option maxRecDepth 100000 in
theorem pil_konst : (sizeR pilL 0 1000).2 = 0 := by kernel_rfl
set_option maxRecDepth 100000 in
theorem pil_frac : fracR pilH pilL 0 1000 pilN pilD = (pilW, 0) := by kernel_rfl
set_option maxRecDepth 100000 in
theorem pil_center : centerR pilH pilL 2 1000 pilN = (pilC, 0) := by kernel_rfl
set_option maxRecDepth 100000 in
theorem pil_atop : (atopR pilH pilL 8 1000 pilN pilD).2 = 1 := by kernel_rfl
end Go.Proofs.Ytfbiahlogclkbaa.H
