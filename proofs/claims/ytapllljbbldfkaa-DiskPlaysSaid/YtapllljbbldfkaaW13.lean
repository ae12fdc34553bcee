/- Walk: DiskNil. -/
import Derived.Test.YtapllljbbldfkaaW11
namespace Go.Proofs.Ytapllljbbldfkaa
open Go.RowKit Go.Maps

theorem ready_nil (a : Int) (w : World) : Calls Try.prog 30 #[.pointer none, .int .i64 a] w fun e w' => e = .returned (.int .i64 1) ∧ w' = w := by
  go_enter Try.func30, Try.ntmps30
  go_wp2
  go_ret
  exact ⟨rfl, rfl⟩
theorem Arm_nil (a : Int) (w : World) : Calls Try.prog 21 #[.pointer none, .int .i64 a] w fun e w' => e = .returned (.tuple #[]) ∧ w' = w := by
  go_enter Try.func21, Try.ntmps21
  go_wp2
  all_goals (go_end0; exact ⟨rfl, rfl⟩)
theorem Crash_nil (w : World) : Calls Try.prog 14 #[.pointer none, .slice none 0 0] w fun e w' => e = .returned (.tuple #[]) ∧ Below w.heap.size w w' := by
  go_enter Try.func14, Try.ntmps14
  go_wp2
  refine bodyPost_ret (results_none rfl _ _ _) rfl ⟨rfl, (Below.refl _ w).alloc (Nat.le_refl _) _⟩
theorem Read_nil (a : Int) (w : World) : Calls Try.prog 13 #[.pointer none, .int .i64 a] w fun e w' => e = .returned (.tuple #[.slice none 0 0, .int .i64 1]) ∧ Below w.heap.size w w' := by
  go_enter Try.func13, Try.ntmps13
  go_wp2_with fail
  refine (ready_nil a _).mono ?_
  rintro e w2 ⟨rfl, rfl⟩
  go_wp2
  refine bodyPost_ret (v := .tuple #[.slice none 0 0, .int .i64 1]) ?_ rfl ⟨rfl, ?_⟩
  · simp [results, Try.results13, go_sem]
  · go_grown
theorem Write_nil (a : Int) (w : World) : Calls Try.prog 24 #[.pointer none, .int .i64 a, .slice none 0 0] w fun e w' => e = .returned (.int .i64 1) ∧ w' = w := by
  go_enter Try.func24, Try.ntmps24
  go_wp2_with fail
  refine (ready_nil a _).mono ?_
  rintro e w2 ⟨rfl, rfl⟩
  go_wp2
  go_ret
  exact ⟨rfl, rfl⟩
theorem Flush_nil (w : World) : Calls Try.prog 10 #[.pointer none] w fun e w' => e = .returned (.int .i64 1) ∧ w' = w := by
  go_enter Try.func10, Try.ntmps10
  go_wp2
  go_ret
  exact ⟨rfl, rfl⟩
theorem Down_nil (w : World) : Calls Try.prog 11 #[.pointer none] w fun e w' => e = .returned (.bool false) ∧ w' = w := by
  go_enter Try.func11, Try.ntmps11
  go_wp2
  go_ret
  exact ⟨rfl, rfl⟩
theorem Loose_nil (w : World) : Calls Try.prog 26 #[.pointer none] w fun e w' => e = .returned (.int .i64 0) ∧ w' = w := by
  go_enter Try.func26, Try.ntmps26
  go_wp2
  go_ret
  exact ⟨rfl, rfl⟩
theorem Copy_nil (w : World) : Calls Try.prog 27 #[.pointer none] w fun e w' => e = .returned (.pointer none) ∧ w' = w := by
  go_enter Try.func27, Try.ntmps27
  go_wp2
  go_ret
  exact ⟨rfl, rfl⟩
theorem Sectors_nil (w : World) : Calls Try.prog 16 #[.pointer none] w fun e w' => e = .returned (.int .i64 0) ∧ w' = w := by
  go_enter Try.func16, Try.ntmps16
  go_wp2
  go_ret
  exact ⟨rfl, rfl⟩
theorem Size_nil (w : World) : Calls Try.prog 17 #[.pointer none] w fun e w' => e = .returned (.int .i64 0) ∧ w' = w := by
  go_enter Try.func17, Try.ntmps17
  go_wp2
  go_ret
  exact ⟨rfl, rfl⟩

set_option maxHeartbeats 4000000 in
theorem Nil_any (a : Int) (w : World) : Calls Try.prog 6 #[.int .i64 a] w fun e w' => e = .returned (.bool true) ∧ Below w.heap.size w w' := by
  go_enter Try.func6, Try.ntmps6
  go_wp2_with fail
  refine (Arm_nil a _).mono ?_
  rintro e w1 ⟨rfl, hw⟩
  subst hw
  go_wp2_with fail
  refine (Crash_nil _).mono ?_
  rintro e w2 ⟨rfl, hb⟩
  have HB := Lib.hid hb
  clear hb
  go_wp2_with fail
  refine (Read_nil a _).mono ?_
  rintro e w3 ⟨rfl, hb⟩
  have HB := Lib.hid (grow HB.out hb)
  clear hb
  go_wp2_with fail
  refine (Write_nil a _).mono ?_
  rintro e w4 ⟨rfl, hw⟩
  subst hw
  go_wp2_with fail
  refine (Flush_nil _).mono ?_
  rintro e w4 ⟨rfl, hw⟩
  subst hw
  go_wp2_with fail
  refine (Down_nil _).mono ?_
  rintro e w4 ⟨rfl, hw⟩
  subst hw
  go_wp2_with fail
  refine (Loose_nil _).mono ?_
  rintro e w4 ⟨rfl, hw⟩
  subst hw
  go_wp2_with fail
  refine (Copy_nil _).mono ?_
  rintro e w4 ⟨rfl, hw⟩
  subst hw
  go_wp2_with fail
  refine (awake_any _).mono ?_
  rintro e w5 ⟨rfl, hb⟩
  have HB := Lib.hid (grow HB.out hb)
  clear hb
  go_wp2
  go_ret
  exact ⟨rfl, HB.out⟩
end Go.Proofs.Ytapllljbbldfkaa
