/- Walks: Text of any wide number; what the chapter's examples say; Int. -/
import Derived.Test.YtogghmmokifnnaaW7
namespace Go.Proofs.Ytogghmmokifnnaa
open Go.RowKit

/-- A wide number's figures. -/
def textB (v : Nat) : ByteArray := if M.hiZ v < 0 then ⟨#[45]⟩ ++ str (trim (digL (M.subN 0 v))) else ⟨#[]⟩ ++ str (trim (digL v))
theorem Text_any (v : Nat) (hv : v < 340282366920938463463374607431768211456) (w : World) :
    Calls Try.prog 20 #[W v] w fun e w' => e = .returned (.string (textB v)) ∧ Below w.heap.size w w' := by
  unfold W textB
  by_cases h : M.hiZ v < 0
  · rw [if_pos h]
    have hm : M.subN 0 v < 340282366920938463463374607431768211456 := Nat.mod_lt _ (by decide)
    exact Text_neg (M.hiZ v) (M.hiZ (M.subN 0 v)) (M.loZ (M.subN 0 v)) (M.loZ v) (M.hiN (M.subN 0 v)) (M.loN (M.subN 0 v)) (M.subN 0 v) (M.hiZ_u64 _) rfl h (fun w => Turned_any v w) (M.hiN_lt _) (M.loN_lt _) (M.of_halves _ hm) w
  · rw [if_neg h]
    exact Text_road (M.hiZ v) (M.loZ v) (M.hiN v) (M.loN v) v (M.hiZ_u64 v) rfl (M.hiN_lt v) (M.loN_lt v) (M.of_halves v hv) (by omega) w

theorem text36 : textB 1000000000000000000000000000000000000 = ⟨#[49, 48, 48, 48, 48, 48, 48, 48, 48, 48, 48, 48, 48, 48, 48, 48, 48, 48, 48, 48, 48, 48, 48, 48, 48, 48, 48, 48, 48, 48, 48, 48, 48, 48, 48, 48, 48]⟩ := by kernel_rfl

theorem awake_any (w : World) : Calls Try.prog 19 #[] w fun e w' => e = .returned (.bool true) ∧ Below w.heap.size w w' := by
  have k1 := Mul_any 1000000000000000000 1000000000000000000 (by omega) (by omega) (by omega) (by omega)
  have e1 : (1000000000000000000 * 1000000000000000000 / 18446744073709551616 : Int) = 54210108624275221 := by decide
  have e2 : (1000000000000000000 * 1000000000000000000 % 18446744073709551616 : Int) = 12919594847110692864 := by decide
  rw [e1, e2] at k1
  have k2 := Text_any 1000000000000000000000000000000000000 (by omega)
  have f1 : W 1000000000000000000000000000000000000 = .agg #[.int .i64 54210108624275221, .int .u64 12919594847110692864] := by kernel_rfl
  rw [f1, text36] at k2
  have k3 := Of_any (-1) (by omega) (by omega)
  have f2 : W (ofN (-1)) = .agg #[.int .i64 (-1), .int .u64 18446744073709551615] := by kernel_rfl
  rw [f2] at k3
  have K1 := Lib.hid k1
  have K2 := Lib.hid k2
  have K3 := Lib.hid k3
  clear k1 k2 k3 e1 e2 f1 f2
  go_enter Try.func19, Try.ntmps19
  go_wp2_with fail
  refine (K1.out _).mono ?_
  rintro e w1 ⟨rfl, hb⟩
  have B1 := Lib.hid hb
  clear hb
  go_wp2_with fail
  refine (K2.out _).mono ?_
  rintro e w2 ⟨rfl, hb⟩
  have B2 := Lib.hid (grow B1.out hb)
  clear hb
  go_wp2_with fail
  refine (K3.out _).mono ?_
  rintro e w3 ⟨rfl, hb⟩
  have B3 := Lib.hid (grow B2.out hb)
  clear hb
  go_wp2
  go_ret
  exact ⟨rfl, B3.out⟩
end Go.Proofs.Ytogghmmokifnnaa
