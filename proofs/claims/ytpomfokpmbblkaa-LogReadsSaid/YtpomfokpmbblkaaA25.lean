/- Walks: LogReads, the whole. Printed by mk_a24.py. -/
import Derived.Test.YtpomfokpmbblkaaA24
namespace Go.Proofs.Ytpomfokpmbblkaa
open Go.RowKit Go.Maps
theorem Reads_any (A : Option Addr) (xs : List SlotV) (n cp : Nat) (E : Int) (w : World) (hn : xs.length = n) (hm : (n : Int) ≤ 9223372036854775807) (hr : SlotsV w w.heap.size A xs) (hb : -9223372036854775808 ≤ E ∧ E ≤ 9223372036854775807) :
    Calls Try.prog 8 #[.slice A n cp, .int .i64 E] w fun e w' => e = .returned (.bool true) ∧ Below w.heap.size w w' := by
  by_cases h : 10 < (n : Int) ∨ n = 0 ∨ E < 1 ∨ 1099511627776 < E
  · exact Reads_early A n cp E w hb h hm
  · exact Reads_main A xs n cp E w hn hr (by omega) (by omega) (by omega) (by omega)
end Go.Proofs.Ytpomfokpmbblkaa
