/- What the laws of this seat share: the variables that are laid, a world in which they are, the table off the row's condition. -/
import Derived.Test.YtmdmejfcknaokaaDoorLaw
import Derived.Test.YtmdmejfcknaokaaDoorTie
import Derived.Test.YtmdmejfcknaokaaDoorCards
import Derived.Deep.DeepHandedRow
import Derived.Deep.DeepWitnessRowRef
import Derived.Lib.LaidU8
import Derived.Lib.LaidTab
import Derived.Lib.Space
import Derived.LaidSub
import Derived.LaidLaws
import Derived.SevenTiedAt
namespace Go.Proofs.YtmdmejfcknaokaaDoor
open Go.ChangeShapes Go.WideShapes Go.ChangeAt Go.RowKit Go.Joins

theorem gT : Tryd.prog.globalNamed "strings.asciiSpace" = some 0 := by kernel_rfl
theorem gTType : (Tryd.prog.globals[0]?).map (·.type) = some 65 := by kernel_rfl
theorem cells5 : Tryd.prog.cellsOf 5 = 1 := by kernel_rfl
theorem cells65 : Tryd.prog.cellsOf 65 = 256 := by kernel_rfl
abbrev laidL : List (String × DataW Unit) := [("unicode.White_Space", Rows.laid_unicode_White_Space), ("strings.asciiSpace", Rows.laid_strings_asciiSpace)]
theorem tab_laid : Rows.laid_strings_asciiSpace = Lib.tabData (H := Unit) .u8 Lib.asciiSpaceTab := by kernel_rfl

/-- THE WITNESS: the settled world with two blocks more (the ranges; their table), the two variables holding what their initialisers lay. -/
noncomputable def laidWorld (os : Os) : World :=
  let N := (World.settled Tryd.prog os).heap.size
  let w0 := World.holding Tryd.prog os ⟨#[.cells (Lib.whiteT.map fun (z : Nat) => Value.int .u16 (z : Int)).toArray 81, .cells #[.slice (some ⟨N, 0, none⟩) 7 7, .slice none 0 0, .int .i64 2] 78], #[], []⟩
  let put (h : Array Obj) (g : Nat) (cs : Array Value) : Array Obj := h.modify g fun
    | .cells _ t frozen => .cells cs t frozen
    | o => o
  let h1 := put w0.heap 0 (Lib.asciiSpaceTab.map fun z => Value.int .u8 z).toArray
  let h2 := put h1 1 #[.pointer (some ⟨N + 1, 0, none⟩)]
  { w0 with heap := h2 }
theorem laid_met (os : Os) (args : Array Value) : laidMet Tryd.prog laidL ((laidWorld os).forCall (fun _ _ => 0) ⟨#[], args, []⟩).memory :=
  laidMet_of_run' 10 (by kernel_rfl) (by kernel_rfl)

theorem tab_of {W : World} (h : laidMetH Tryd.prog laidL W) : Lib.TabIs Tryd.prog W "strings.asciiSpace" .u8 Lib.asciiSpaceTab := by
  have h1 : laidMet Tryd.prog laidL W := h
  have h2 := h1.filter (fun x => x.1 == "strings.asciiSpace")
  have e : laidL.filter (fun x => x.1 == "strings.asciiSpace") = [("strings.asciiSpace", Lib.tabData (H := Unit) .u8 Lib.asciiSpaceTab)] := by rw [← tab_laid]; rfl
  rw [e] at h2
  exact Lib.tabIs_of_head gT gTType Tryd.underlying65 Tryd.underlying5 cells5 cells65 h2
end Go.Proofs.YtmdmejfcknaokaaDoor
