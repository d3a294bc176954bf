/- Documents that everybody knows, plain. -/
import Derived.Test.YtbkmnhogfegmcaaDoorBsR
import Derived.KernelRfl
set_option linter.unusedVariables false
set_option linter.unusedSimpArgs false
namespace Go.Proofs.YtbkmnhogfegmcaaDoor

def helloV : Val := .doc [([104, 101, 108, 108, 111], .mk 5 0 [119, 111, 114, 108, 100] [] [] [])]
def helloB : Bs := [22, 0, 0, 0, 2, 104, 101, 108, 108, 111, 0, 6, 0, 0, 0, 119, 111, 114, 108, 100, 0, 0]
theorem hello_dec : decode helloB = .ok helloV 22 := by kernel_rfl
def badB : List Bs := [[], [5, 0, 0], [5, 0, 0, 0, 1], [6, 0, 0, 0, 0], [4, 0, 0, 0], [8, 0, 0, 0, 153, 97, 0, 0], [16, 0, 0, 0, 1, 97, 0, 0, 0, 0, 0, 0, 0, 0, 0, 0], [8, 0, 0, 0, 10, 255, 0, 0], [11, 0, 0, 0, 10, 97, 0, 10, 97, 0, 0], [9, 0, 0, 0, 8, 97, 0, 2, 0]]
def badE : List Int := [2, 2, 2, 4, 4, 9, 8, 5, 6, 4]
theorem bad_dec : badB.map decode = badE.map fun e => (.bad e : Res Val) := by kernel_rfl
end Go.Proofs.YtbkmnhogfegmcaaDoor
