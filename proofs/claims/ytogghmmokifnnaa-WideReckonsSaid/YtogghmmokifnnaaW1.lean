/- Walks: sums, differences, comparisons of wide numbers. -/
import Derived.Test.YtogghmmokifnnaaChecked
import Derived.Test.YtogghmmokifnnaaAid
import Derived.Test.YtogghmmokifnnaaMath
import Derived.Shelf.Spec.BitsCarry
import Derived.Deep.RegionHeld3
namespace Go.Proofs.Ytogghmmokifnnaa
open Go.RowKit

theorem add64 (x y c : Nat) (hc : c ≤ 1) (w : World) :
    (callFunc 26 #[.int .u64 x, .int .u64 y, .int .u64 c]).run Try.prog w =
      .ok (.value (.tuple #[.int .u64 (((x + y + c) % 18446744073709551616 : Nat) : Int), .int .u64 (((x + y + c) / 18446744073709551616 : Nat) : Int)])) w := by
  rw [run_callFunc_extern Try.func26 (by kernel_rfl) (by kernel_rfl) (by kernel_rfl) (e := add64Entry) (by kernel_rfl), run_add64 x y c (by omega) (by omega) (by omega) (by omega)]
  simp only [Result.andThen]
  congr 5 <;> omega
theorem add64_0 (x y : Nat) (w : World) :
    (callFunc 26 #[.int .u64 x, .int .u64 y, .int .u64 0]).run Try.prog w =
      .ok (.value (.tuple #[.int .u64 (((x + y + 0) % 18446744073709551616 : Nat) : Int), .int .u64 (((x + y + 0) / 18446744073709551616 : Nat) : Int)])) w := add64 x y 0 (by omega) w
theorem sub64 (x y b : Nat) (hb : b ≤ 1) (w : World) :
    (callFunc 27 #[.int .u64 x, .int .u64 y, .int .u64 b]).run Try.prog w =
      .ok (.value (.tuple #[.int .u64 (((x + 18446744073709551616 - y - b) % 18446744073709551616 : Nat) : Int), .int .u64 ((if x < y + b then 1 else 0 : Nat) : Int)])) w := by
  rw [run_callFunc_extern Try.func27 (by kernel_rfl) (by kernel_rfl) (by kernel_rfl) (e := sub64Entry) (by kernel_rfl), run_sub64 x y b hb]
  rfl

theorem sub64_0 (x y : Nat) (w : World) :
    (callFunc 27 #[.int .u64 x, .int .u64 y, .int .u64 0]).run Try.prog w =
      .ok (.value (.tuple #[.int .u64 (((x + 18446744073709551616 - y - 0) % 18446744073709551616 : Nat) : Int), .int .u64 ((if x < y + 0 then 1 else 0 : Nat) : Int)])) w := sub64 x y 0 (by omega) w

def W (v : Nat) : Value := .agg #[.int .i64 (M.hiZ v), .int .u64 (M.loZ v)]

theorem Plus_any (a b : Nat) (w : World) :
    Calls Try.prog 8 #[W a, W b] w fun e w' => e = .returned (W (M.addN a b)) ∧ Below w.heap.size w w' := by
  unfold W
  have a1 := add64_0 (M.loN a) (M.loN b)
  have a2 := add64 (M.hiN a) (M.hiN b) ((M.loN a + M.loN b + 0) / 18446744073709551616) (by have := M.loN_lt a; have := M.loN_lt b; omega)
  have u1 := M.hiZ_u64 a
  have u2 := M.hiZ_u64 b
  have e1 : M.loZ a = (M.loN a : Int) := rfl
  have e2 : M.loZ b = (M.loN b : Int) := rfl
  have r1 : M.loZ (M.addN a b) = (((M.loN a + M.loN b + 0) % 18446744073709551616 : Nat) : Int) := by unfold M.loZ; rw [M.addN_lo]
  have r2 : M.hiZ (M.addN a b) = wrap64 (((M.hiN a + M.hiN b + (M.loN a + M.loN b + 0) / 18446744073709551616) % 18446744073709551616 : Nat) : Int) := by
    unfold M.hiZ; rw [M.addN_hi, M.sgn_wrap _ (Nat.mod_lt _ (by decide))]
  rw [e1, e2, r1, r2]
  clear e1 e2 r1 r2
  generalize M.hiZ a = ha at *
  generalize M.hiZ b = hb at *
  generalize M.hiN a = xa at *
  generalize M.hiN b = xb at *
  generalize M.loN a = la at *
  generalize M.loN b = lb at *
  generalize (la + lb + 0) / 18446744073709551616 = c at *
  generalize (la + lb + 0) % 18446744073709551616 = s at *
  generalize (xa + xb + c) / 18446744073709551616 = c' at *
  generalize (xa + xb + c) % 18446744073709551616 = s' at *
  go_enter Try.func8, Try.ntmps8
  go_wp2
  refine bodyPost_ret (v := .agg #[.int .i64 (wrap64 s'), .int .u64 s]) ?_ rfl ⟨rfl, ?_⟩
  · simp [results, Try.results8, go_sem]
  · go_grown

theorem Less_any (a b : Nat) (w : World) :
    Calls Try.prog 9 #[W a, W b] w fun e w' => e = .returned (W (M.subN a b)) ∧ Below w.heap.size w w' := by
  unfold W
  have a1 := sub64_0 (M.loN a) (M.loN b)
  have a2 := sub64 (M.hiN a) (M.hiN b) (if M.loN a < M.loN b + 0 then 1 else 0) (by split <;> omega)
  have u1 := M.hiZ_u64 a
  have u2 := M.hiZ_u64 b
  have e1 : M.loZ a = (M.loN a : Int) := rfl
  have e2 : M.loZ b = (M.loN b : Int) := rfl
  have r1 : M.loZ (M.subN a b) = (((M.loN a + 18446744073709551616 - M.loN b - 0) % 18446744073709551616 : Nat) : Int) := by unfold M.loZ; rw [M.subN_lo]
  have r2 : M.hiZ (M.subN a b) = wrap64 (((M.hiN a + 18446744073709551616 - M.hiN b - (if M.loN a < M.loN b + 0 then 1 else 0)) % 18446744073709551616 : Nat) : Int) := by
    unfold M.hiZ; rw [M.subN_hi, M.sgn_wrap _ (Nat.mod_lt _ (by decide))]
  rw [e1, e2, r1, r2]
  clear e1 e2 r1 r2
  generalize M.hiZ a = ha at *
  generalize M.hiZ b = hb at *
  generalize M.hiN a = xa at *
  generalize M.hiN b = xb at *
  generalize M.loN a = la at *
  generalize M.loN b = lb at *
  generalize (if la < lb + 0 then 1 else 0) = c at *
  generalize (la + 18446744073709551616 - lb - 0) % 18446744073709551616 = s at *
  generalize (if xa < xb + c then 1 else 0) = c' at *
  generalize (xa + 18446744073709551616 - xb - c) % 18446744073709551616 = s' at *
  go_enter Try.func9, Try.ntmps9
  go_wp2
  refine bodyPost_ret (v := .agg #[.int .i64 (wrap64 s'), .int .u64 s]) ?_ rfl ⟨rfl, ?_⟩
  · simp [results, Try.results9, go_sem]
  · go_grown

end Go.Proofs.Ytogghmmokifnnaa
