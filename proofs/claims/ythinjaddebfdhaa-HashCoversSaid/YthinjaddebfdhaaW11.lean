/- Walks: a rect's span of a depth; has it few cells? -/
import Derived.Test.YthinjaddebfdhaaW7
namespace Go.Proofs.Ythinjaddebfdhaa
open Go.RowKit

theorem cell_any (n m : Int) (d b : Nat) (h0 : 0 ≤ n + m) (h1 : n + m ≤ 3600000000) (hd : (d : Int) ≤ 32) (w : World) (hb : Blk w b #[.int .i64 d] 3) :
    Calls Try.prog 36 #[.int .i64 n, .int .i64 m, .pointer (some ⟨b, 0, none⟩)] w fun e w' => e = .returned (.int .u64 ((n + m) / 2 ^ (32 - d))) ∧ w' = w := by
  have hc := hb.one
  have g1 : (0 : Int) ≤ 32 - (d : Int) := by omega
  have g2 : 32 - (d : Int) ≤ 32 := by omega
  clear hb
  go_enter Try.func36, Try.ntmps36
  go_wp2
  go_ret
  exact ⟨rfl, rfl⟩

end Go.Proofs.Ythinjaddebfdhaa
