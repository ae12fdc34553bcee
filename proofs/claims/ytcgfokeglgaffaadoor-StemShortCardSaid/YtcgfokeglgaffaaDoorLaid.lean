/- What the laws of this seat share: the variables that are laid, a world in which they are, the table off the row's condition. -/
import Derived.Test.YtcgfokeglgaffaaDoorLaw
import Derived.Test.YtcgfokeglgaffaaDoorTie
import Derived.Test.YtcgfokeglgaffaaDoorCards
import Derived.Deep.DeepHandedRow
import Derived.Deep.DeepWitnessRowRef
import Derived.Lib.LaidU8
import Derived.Lib.LaidTab
import Derived.Lib.Space
import Derived.LaidSub
import Derived.LaidLaws
import Derived.SevenTiedAt
namespace Go.Proofs.YtcgfokeglgaffaaDoor
open Go.ChangeShapes Go.WideShapes Go.ChangeAt Go.RowKit Go.Joins

theorem gT : Tryd.prog.globalNamed "strings.asciiSpace" = some 0 := by kernel_rfl
theorem gTType : (Tryd.prog.globals[0]?).map (·.type) = some 46 := by kernel_rfl
theorem cells5 : Tryd.prog.cellsOf 5 = 1 := by kernel_rfl
theorem cells46 : Tryd.prog.cellsOf 46 = 256 := by kernel_rfl
abbrev laidL : List (String × DataW Unit) := [("unicode/utf8.acceptRanges", Rows.laid_unicode_utf8_acceptRanges), ("unicode.White_Space", Rows.laid_unicode_White_Space), ("strings.asciiSpace", Rows.laid_strings_asciiSpace), ("unicode/utf8.first", Rows.laid_unicode_utf8_first)]
theorem tab_laid : Rows.laid_strings_asciiSpace = Lib.tabData (H := Unit) .u8 Lib.asciiSpaceTab := by kernel_rfl

/-- THE WITNESS: the settled world with two blocks more (the ranges; their table), the two variables holding what their initialisers lay. -/
noncomputable def laidWorld (os : Os) : World :=
  let N := (World.settled Tryd.prog os).heap.size
  let w0 := World.holding Tryd.prog os ⟨#[.cells (Lib.whiteT.map fun (z : Nat) => Value.int .u16 (z : Int)).toArray 76, .cells #[.slice (some ⟨N, 0, none⟩) 7 7, .slice none 0 0, .int .i64 2] 73], #[], []⟩
  let put (h : Array Obj) (g : Nat) (cs : Array Value) : Array Obj := h.modify g fun
    | .cells _ t frozen => .cells cs t frozen
    | o => o
  let h1 := put w0.heap 0 (Lib.asciiSpaceTab.map fun z => Value.int .u8 z).toArray
  let h2 := put h1 1 #[.pointer (some ⟨N + 1, 0, none⟩)]
  let h3 := put h2 3 (Lib.firstTab.map fun z => Value.int .u8 z).toArray
  let h4 := put h3 4 ((List.range 16).flatMap fun i => [Value.int .u8 (Lib.accLo i), Value.int .u8 (Lib.accHi i)]).toArray
  { w0 with heap := h4 }
theorem laid_met (os : Os) (args : Array Value) : laidMet Tryd.prog laidL ((laidWorld os).forCall (fun _ _ => 0) ⟨#[], args, []⟩).memory :=
  laidMet_of_run' 10 (by kernel_rfl) (by kernel_rfl)

theorem tab_of {W : World} (h : laidMetH Tryd.prog laidL W) : Lib.TabIs Tryd.prog W "strings.asciiSpace" .u8 Lib.asciiSpaceTab := by
  have h1 : laidMet Tryd.prog laidL W := h
  have h2 := h1.filter (fun x => x.1 == "strings.asciiSpace")
  have e : laidL.filter (fun x => x.1 == "strings.asciiSpace") = [("strings.asciiSpace", Lib.tabData (H := Unit) .u8 Lib.asciiSpaceTab)] := by rw [← tab_laid]; rfl
  rw [e] at h2
  exact Lib.tabIs_of_head gT gTType Tryd.underlying46 Tryd.underlying5 cells5 cells46 h2
end Go.Proofs.YtcgfokeglgaffaaDoor
