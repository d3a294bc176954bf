/- What all rows' frames share: the library's tables, as the rows list them. -/
import Derived.Test.YtembpajlllnncaaGreatDoorCards
import Derived.Test.YtembpajlllnncaaGreatDoorTie
import Derived.Test.YtembpajlllnncaaGreatDoorAcK1
import Derived.ProofKit
import Derived.OpenShut
import Derived.Deep.DeepHandedRow
import Derived.Lib.LaidU8T
import Derived.SizedLaws
import Derived.Below
set_option linter.unusedVariables false
set_option linter.unusedSimpArgs false
namespace Go.Proofs.YtembpajlllnncaaGreatDoor
open Go.ChangeShapes Go.WideShapes Go.ChangeAt Go.RowKit

theorem start_below {w w' : World} (h : Step [] id id w w') : Below w.heap.size w w' := h.below (fun _ _ h => by cases h) (Nat.le_refl _)
theorem own_ : ownKnob Tryz.prog.godebug = none := by kernel_rfl
theorem laid_ : laidOutB Tryz.prog = true := by kernel_rfl

/-- What each row lists. -/
def laidL : List (String × DataW Unit) := [("math/bits.deBruijn32tab", Rows.laid_math_bits_deBruijn32tab), ("math/bits.deBruijn64tab", Rows.laid_math_bits_deBruijn64tab), ("internal/strconv.uint64pow10", Rows.laid_internal_strconv_uint64pow10), ("unicode/utf8.acceptRanges", Rows.laid_unicode_utf8_acceptRanges), ("unicode/utf8.first", Rows.laid_unicode_utf8_first)]

theorem u8types : U8Types Tryz.prog Tryz.laysValid_ren := U8Types.of196 Tryz.laysValid
theorem u8extra : U8Extra Tryz.prog Tryz.laysValid_ren := { n3 := by kernel_rfl, n4 := by kernel_rfl, y3 := by kernel_rfl, y4 := by kernel_rfl, c5 := by kernel_rfl, c119 := by kernel_rfl, c138 := by kernel_rfl }
theorem first_is : Rows.laid_unicode_utf8_first = Lib.firstData := by kernel_rfl
theorem accept_is : Rows.laid_unicode_utf8_acceptRanges = Lib.acceptData := by kernel_rfl
theorem pow_is : (Rows.laid_internal_strconv_uint64pow10 : DataW Unit) = Lib.tabData .u64 Lib.pow10Tab := by kernel_rfl
theorem pow_name : Tryz.prog.globalNamed "internal/strconv.uint64pow10" = some 2 := by kernel_rfl
theorem pow_type : (Tryz.prog.globals[2]?).map (·.type) = some 115 := by kernel_rfl
theorem cells_u64 : Tryz.prog.cellsOf 99 = 1 := by kernel_rfl
theorem cells_20 : Tryz.prog.cellsOf 115 = 20 := by kernel_rfl

/-- The tables are there. -/
theorem tw_of_laid {W : World} (h : laidMet Tryz.prog laidL W) : Tw W := by
 have h3 : Lib.VarReads Tryz.prog W "unicode/utf8.first" Lib.firstData := by rw [← first_is]; exact Lib.laidMet.reads h (by simp [laidL])
 have h4 : Lib.VarReads Tryz.prog W "unicode/utf8.acceptRanges" Lib.acceptData := by rw [← accept_is]; exact Lib.laidMet.reads h (by simp [laidL])
 have hp : Lib.VarReads Tryz.prog W "internal/strconv.uint64pow10" (Lib.tabData .u64 Lib.pow10Tab) := by rw [← pow_is]; exact Lib.laidMet.reads h (by simp [laidL])
 have hu := utf8Tabs_of_readsT u8types u8extra h3 h4
 have hpow : Pow10 W := by
  obtain ⟨g, t, cs, fuel, p, hg, hty, hvar, hd⟩ := hp
  obtain rfl := Option.some.inj (pow_name.symm.trans hg)
  obtain rfl := Option.some.inj (pow_type.symm.trans hty)
  have hcs := Lib.cells_of_tab Tryz.underlying115 Tryz.underlying99 cells_u64 cells_20 hd
  unfold Pow10 Lib.TabIs
  rw [hvar]
  congr 1
  apply Array.ext'
  rw [hcs]
 have l3 : Tryz.laysValid_ren.g 3 < W.heap.size := World.block_lt_of_cell? W _ (hu.1 0 (by omega))
 have l4 : Tryz.laysValid_ren.g 4 < W.heap.size := World.block_lt_of_cell? W _ (hu.2 0 (by omega)).1
 refine ⟨fun k hk => hk, hpow, fun k hk => ?_, hu, l3, l4⟩
 unfold Pow10 Lib.TabIs World.var? at hpow
 rw [hk] at hpow
 simp only [Option.bind_some] at hpow
 cases hb : W.heap[k]? with
 | none => rw [hb] at hpow; cases hpow
 | some o => exact lt_of_block hb

def db64 : List Int := [0, 1, 56, 2, 57, 49, 28, 3, 61, 58, 42, 50, 38, 29, 17, 4, 62, 47, 59, 36, 45, 43, 51, 22, 53, 39, 33, 30, 24, 18, 12, 5, 63, 55, 48, 27, 60, 41, 37, 16, 46, 35, 44, 21, 52, 32, 23, 11, 54, 26, 40, 15, 34, 20, 31, 10, 25, 14, 19, 9, 13, 8, 7, 6]
def putCells (cs : List Value) : Obj → Obj
 | .cells _ t z => .cells cs.toArray t z
 | o => o
def db32 : List Int := [0, 1, 28, 2, 29, 14, 24, 3, 30, 22, 20, 15, 25, 17, 4, 8, 31, 27, 13, 23, 21, 19, 16, 7, 26, 12, 18, 6, 11, 5, 10, 9]
/-- A world for the witnesses: the tables hold what their initialisers lay. -/
noncomputable def laidWorld (os : Os) (i : Input) : World :=
 { World.holding Tryz.prog os i with
  heap := Array.modify (Array.modify (Array.modify (Array.modify (Array.modify (World.holding Tryz.prog os i).heap
   0 (putCells (Lib.firstTab.map (Value.int .u8))))
   1 (putCells ((List.range 16).flatMap fun i => [Value.int .u8 (Lib.accLo i : Int), Value.int .u8 (Lib.accHi i : Int)])))
   2 (putCells (Lib.pow10Tab.map (Value.int .u64))))
   4 (putCells (db32.map (Value.int .u8))))
   5 (putCells (db64.map (Value.int .u8))) }
theorem laid_met (os : Os) : laidMet Tryz.prog laidL ((laidWorld os ⟨#[], #[], []⟩).forCall (fun _ _ => 0) ⟨#[], #[], []⟩).memory :=
 laidMet_of_run' 8 (by kernel_rfl) (by kernel_rfl)
end Go.Proofs.YtembpajlllnncaaGreatDoor
