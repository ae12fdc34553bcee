/- ScoreGrows: the logarithm grows with the number, and that of twice the number is 256 more. No condition. -/
import Derived.Test.YthdfelhckjeekaaW6
import Derived.Test.YthdfelhckjeekaaLaw
import Derived.Test.YthdfelhckjeekaaFlat
namespace Go.Proofs.Ythdfelhckjeekaa.scoreGrows
open Go.ChangeShapes Go.WideShapes Go.ChangeAt Go.RowKit Go.Joins

theorem walk (n m : Nat) (h1 : n < 18446744073709551616) (h2 : m < 18446744073709551616) (w : World) :
    Calls Try.prog 4 #[.int .u64 n, .int .u64 m] w fun e w' => e = .returned (.bool true) ∧ Below w.heap.size w w' := by
  have l1 := M.logN_lt n h1
  have l2 := M.logN_lt m h2
  have m1 := M.logN_mono n m h2
  have m2 := M.logN_mono m n h1
  refine Grows_road n m (M.logN n) (M.logN m) w (fun w => Log_any n h1 w) (fun w => Log_any m h2 w) (fun h0 h w => ?_) (by omega) (by omega)
  have hd := M.logN_dbl n h0 (by omega)
  have := Log_of (2 * (n : Int)) (2 * n) (by omega) (by omega) _ hd w
  simpa using this

set_option maxRecDepth 100000 in
theorem lifted (os : Os) (started : os.Started) (H : Type) (enc : TypeId × Value → H) :
    ReturnsInHanded {} Try.checked os 4 .any (Rows.scoreGrowsSpec.pre6 enc Try.prog Try.f4 Rows.scoreGrowsRow.domain false) (Rows.scoreGrowsSpec.post enc Try.prog Try.f4 false true false false) := by
  refine returnsInHanded_of_change (C := Try.checked) own started (by kernel_rfl) Try.func4
    (ChangeSpec.witness6 (enc := enc) (C := Try.checked) false ⟨#[], #[.int .u64 0, .int .u64 0], []⟩ 8 (by kernel_rfl) (by kernel_rfl) (by kernel_rfl) (by kernel_rfl)) ?_
  intro W base args ds gs before hval0 hW _ _
  have hval : ∀ (j : Nat) t v, Try.f4.params[j]? = some t → args[j]? = some v → Value.okWide Try.prog W .any base t v := hval0
  have hW' := hW
  obtain ⟨p, q, hA0, hV, rfl, _, _⟩ := hW
  have hA : DataW.TrodAll enc Try.prog W 0 (fun _ => true) true Try.f4.params.toList args.toList ds p := hA0
  rw [Try.params4] at hA hval
  obtain ⟨v0, v1, d0, d1, p0, p1, rfl, rfl, rfl, h0, h1⟩ := trodAll_two hA
  obtain ⟨rfl, rfl⟩ := trodVars_none hV
  obtain ⟨n', rfl, rfl, rfl, w0⟩ := open_int Try.underlying22 (hval 0 22 v0 rfl rfl) h0
  have b0 := bounds_u64 w0
  obtain ⟨n, rfl⟩ := Int.eq_ofNat_of_zero_le b0.1
  obtain ⟨m', rfl, rfl, rfl, w1⟩ := open_int Try.underlying22 (hval 1 22 v1 rfl rfl) h1
  have b1 := bounds_u64 w1
  obtain ⟨m, rfl⟩ := Int.eq_ofNat_of_zero_le b1.1

  clear hA0 hval0
  refine (walk n m (by omega) (by omega) W).mono fun e W' ⟨he, hb⟩ => ?_
  subst he
  refine ⟨_, rfl, law_post laidOut (tb := 4) (by kernel_rfl) Try.underlying4 rfl (by kernel_rfl) hW' hb rfl⟩

theorem over : Rows.scoreGrowsRow.holds Try.pinned (OpenSpec.ofChange Rows.scoreGrowsSpec) :=
  OpenClaim.holds_of_wide 4 Try.f4 rfl rfl rfl rfl rfl rfl rfl ⟨rfl, rfl, rfl, rfl, rfl⟩ rfl rfl rfl rfl rfl (by kernel_rfl) Try.func4 (by kernel_rfl)
    (of_decide_eq_true (by kernel_rfl)) (by unfold Func.isWrapper; rw [if_neg (of_decide_eq_false (by kernel_rfl))]; exact ⟨rfl, rfl⟩)
    (fun os started H enc _ => lifted os started H enc)

theorem proved : Rows.ScoreGrowsSaid := over

end Go.Proofs.Ythdfelhckjeekaa.scoreGrows
