/- GeomShifts: moved, begun elsewhere or turned, a ring is the same. No condition. -/
import Derived.Test.YtkneohngbkmlpaaW31
import Derived.Test.YtkneohngbkmlpaaOpen
import Derived.Test.YtkneohngbkmlpaaLaw
import Derived.Test.YtkneohngbkmlpaaFlat
namespace Go.Proofs.Ytkneohngbkmlpaa.geomShifts
open Go.ChangeShapes Go.WideShapes Go.ChangeAt Go.RowKit Go.Joins

set_option maxRecDepth 100000 in
theorem lifted (os : Os) (started : os.Started) (H : Type) (enc : TypeId × Value → H) :
    ReturnsInHanded {} Try.checked os 4 .any (Rows.geomShiftsSpec.pre6 enc Try.prog Try.f4 Rows.geomShiftsRow.domain false) (Rows.geomShiftsSpec.post enc Try.prog Try.f4 false true false false) := by
  refine returnsInHanded_of_change (C := Try.checked) own started (by kernel_rfl) Try.func4
    (ChangeSpec.witness6 (enc := enc) (C := Try.checked) false ⟨#[], #[.slice none 0 0, .agg #[.int .i64 0, .int .i64 0], .agg #[.int .i64 0, .int .i64 0]], []⟩ 8 (by kernel_rfl) (by kernel_rfl) (by kernel_rfl) (by kernel_rfl)) ?_
  intro W base args ds gs before hval0 hW _ _
  have hval : ∀ (j : Nat) t v, Try.f4.params[j]? = some t → args[j]? = some v → Value.okWide Try.prog W .any base t v := hval0
  have hW' := hW
  obtain ⟨p, q, hA0, hV, rfl, _, _⟩ := hW
  have hA : DataW.TrodAll enc Try.prog W 0 (fun _ => true) true Try.f4.params.toList args.toList ds p := hA0
  rw [Try.params4] at hA hval
  obtain ⟨v0, v1, v2, d0, d1, d2, p0, p1, p2, rfl, rfl, rfl, h0, h1, h2⟩ := trodAll_three hA
  obtain ⟨rfl, rfl⟩ := trodVars_none hV
  obtain ⟨Ar, lr, nr, cr, rfl, hnr, rr⟩ := open_pts (hval 0 22 v0 rfl rfl) h0
  obtain ⟨cs1, rfl, hc1⟩ := open_flat (l := [2, 2]) 10 (by kernel_rfl) (.inl ⟨_, Try.underlying24⟩) (hval 1 24 v1 rfl rfl) h1
  obtain ⟨px, _, rfl, wpx, hc1⟩ := hc1.int Try.underlying2
  obtain ⟨py, _, rfl, wpy, hc1⟩ := hc1.int Try.underlying2
  obtain rfl := hc1.nil
  obtain ⟨cs2, rfl, hc2⟩ := open_flat (l := [2, 2]) 10 (by kernel_rfl) (.inl ⟨_, Try.underlying24⟩) (hval 2 24 v2 rfl rfl) h2
  obtain ⟨qx, _, rfl, wqx, hc2⟩ := hc2.int Try.underlying2
  obtain ⟨qy, _, rfl, wqy, hc2⟩ := hc2.int Try.underlying2
  obtain rfl := hc2.nil

  clear hA0 hval0
  refine (Shifts_any Ar lr nr cr ⟨px, py⟩ ⟨qx, qy⟩ W hnr rr).mono fun e W' ⟨he, hb⟩ => ?_
  subst he
  refine ⟨_, rfl, law_post laidOut (tb := 4) (by kernel_rfl) Try.underlying4 rfl (by kernel_rfl) hW' hb rfl⟩

theorem over : Rows.geomShiftsRow.holds Try.pinned (OpenSpec.ofChange Rows.geomShiftsSpec) :=
  OpenClaim.holds_of_wide 4 Try.f4 rfl rfl rfl rfl rfl rfl rfl ⟨rfl, rfl, rfl, rfl, rfl⟩ rfl rfl rfl rfl rfl (by kernel_rfl) Try.func4 (by kernel_rfl)
    (of_decide_eq_true (by kernel_rfl)) (by unfold Func.isWrapper; rw [if_neg (of_decide_eq_false (by kernel_rfl))]; exact ⟨rfl, rfl⟩)
    (fun os started H enc _ => lifted os started H enc)

theorem proved : Rows.GeomShiftsSaid := over

end Go.Proofs.Ytkneohngbkmlpaa.geomShifts
