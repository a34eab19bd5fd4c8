/- What the rows' lists give, and a world that meets them. -/
import Derived.Test.YtlmggfbpdciioaaDoorRows
import Derived.Test.YtlmggfbpdciioaaDoorLxB
import Derived.Lib.LaidU8
import Derived.Deep.DeepLaidRun
namespace Go.Proofs.YtlmggfbpdciioaaDoor
open Go.RowKit
theorem gTabType : (Tryd.prog.globals[0]?).map (·.type) = some 68 := by kernel_rfl
theorem cells68 : Tryd.prog.cellsOf 68 = 256 := by kernel_rfl
theorem cells5 : Tryd.prog.cellsOf 5 = 1 := by kernel_rfl
theorem laid_tab : (Rows.laid_strings_asciiSpace : DataW Unit) = Lib.tabData .u8 Lib.asciiSpaceTab := by kernel_rfl
theorem tab_of {W : World} (h : laidMetH Tryd.prog [("unicode.White_Space", Rows.laid_unicode_White_Space), ("strings.asciiSpace", Rows.laid_strings_asciiSpace)] W) : Tab W := by
  have h' : laidMet Tryd.prog [("unicode.White_Space", Rows.laid_unicode_White_Space), ("strings.asciiSpace", Rows.laid_strings_asciiSpace)] W := h
  obtain ⟨g', t', cs, fuel, p, hg', ht', hvar, hd⟩ := Lib.laidMet.reads h' (.tail _ (.head _))
  obtain rfl := Option.some.inj (gTab.symm.trans hg')
  obtain rfl := Option.some.inj (gTabType.symm.trans ht')
  rw [laid_tab] at hd
  unfold Tab Lib.TabIs
  rw [hvar, ← Lib.cells_of_tab Tryd.underlying68 Tryd.underlying5 cells5 cells68 hd]

def whiteCells : List Nat := [9, 13, 1, 32, 133, 101, 160, 5760, 5600, 8192, 8202, 1, 8232, 8233, 1, 8239, 8287, 48, 12288, 12288, 1]
/-- A world in which the tables lie as the program's text lays them, two blocks behind all others. -/
noncomputable def laidWorld (os : Os) (_ : Array Value) : World :=
  let N := (World.settled Tryd.prog os).heap.size
  let w0 := World.holding Tryd.prog os ⟨#[.cells (whiteCells.map fun (z : Nat) => Value.int .u16 (z : Int)).toArray 83, .cells #[.slice (some ⟨N, 0, none⟩) 7 7, .slice none 0 0, .int .i64 2] 80], #[], []⟩
  let put (h : Array Obj) (g : Nat) (cs : Array Value) : Array Obj := h.modify g fun
    | .cells _ t frozen => .cells cs t frozen
    | o => o
  { w0 with heap := put (put w0.heap 0 (Lib.asciiSpaceTab.map fun z => Value.int .u8 z).toArray) 1 #[.pointer (some ⟨N + 1, 0, none⟩)] }
end Go.Proofs.YtlmggfbpdciioaaDoor
