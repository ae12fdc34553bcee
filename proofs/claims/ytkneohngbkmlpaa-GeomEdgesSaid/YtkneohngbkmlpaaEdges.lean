/- GeomEdges: how any four points turn, meet and cross. No condition. -/
import Derived.Test.YtkneohngbkmlpaaW19
import Derived.Test.YtkneohngbkmlpaaLaw
import Derived.Test.YtkneohngbkmlpaaFlat
namespace Go.Proofs.Ytkneohngbkmlpaa.geomEdges
open Go.ChangeShapes Go.WideShapes Go.ChangeAt Go.RowKit Go.Joins

set_option maxRecDepth 100000 in
theorem lifted (os : Os) (started : os.Started) (H : Type) (enc : TypeId × Value → H) :
    ReturnsInHanded {} Try.checked os 5 .any (Rows.geomEdgesSpec.pre6 enc Try.prog Try.f5 Rows.geomEdgesRow.domain false) (Rows.geomEdgesSpec.post enc Try.prog Try.f5 false true false false) := by
  refine returnsInHanded_of_change (C := Try.checked) own started (by kernel_rfl) Try.func5
    (ChangeSpec.witness6 (enc := enc) (C := Try.checked) false ⟨#[], #[.agg #[.int .i64 0, .int .i64 0, .int .i64 0, .int .i64 0, .int .i64 0, .int .i64 0, .int .i64 0, .int .i64 0]], []⟩ 8 (by kernel_rfl) (by kernel_rfl) (by kernel_rfl) (by kernel_rfl)) ?_
  intro W base args ds gs before hval0 hW _ _
  have hval : ∀ (j : Nat) t v, Try.f5.params[j]? = some t → args[j]? = some v → Value.okWide Try.prog W .any base t v := hval0
  have hW' := hW
  obtain ⟨p, q, hA0, hV, rfl, _, _⟩ := hW
  have hA : DataW.TrodAll enc Try.prog W 0 (fun _ => true) true Try.f5.params.toList args.toList ds p := hA0
  rw [Try.params5] at hA hval
  obtain ⟨v0, d0, rfl, rfl, h0⟩ := trodAll_one hA
  obtain ⟨rfl, rfl⟩ := trodVars_none hV
  obtain ⟨cs0, rfl, hc0⟩ := open_flat (l := [2, 2, 2, 2, 2, 2, 2, 2]) 10 (by kernel_rfl) (.inr ⟨_, _, Try.underlying32⟩) (hval 0 32 v0 rfl rfl) h0
  obtain ⟨ax, _, rfl, wax, hc0⟩ := hc0.int Try.underlying2
  obtain ⟨ay, _, rfl, way, hc0⟩ := hc0.int Try.underlying2
  obtain ⟨bx, _, rfl, wbx, hc0⟩ := hc0.int Try.underlying2
  obtain ⟨byy, _, rfl, wbyy, hc0⟩ := hc0.int Try.underlying2
  obtain ⟨cx, _, rfl, wcx, hc0⟩ := hc0.int Try.underlying2
  obtain ⟨cy, _, rfl, wcy, hc0⟩ := hc0.int Try.underlying2
  obtain ⟨dx, _, rfl, wdx, hc0⟩ := hc0.int Try.underlying2
  obtain ⟨dy, _, rfl, wdy, hc0⟩ := hc0.int Try.underlying2
  obtain rfl := hc0.nil

  clear hA0 hval0
  refine (Edges_any ⟨ax, ay⟩ ⟨bx, byy⟩ ⟨cx, cy⟩ ⟨dx, dy⟩ W).mono fun e W' ⟨he, hb⟩ => ?_
  subst he
  refine ⟨_, rfl, law_post laidOut (tb := 4) (by kernel_rfl) Try.underlying4 rfl (by kernel_rfl) hW' hb rfl⟩

theorem over : Rows.geomEdgesRow.holds Try.pinned (OpenSpec.ofChange Rows.geomEdgesSpec) :=
  OpenClaim.holds_of_wide 5 Try.f5 rfl rfl rfl rfl rfl rfl rfl ⟨rfl, rfl, rfl, rfl, rfl⟩ rfl rfl rfl rfl rfl (by kernel_rfl) Try.func5 (by kernel_rfl)
    (of_decide_eq_true (by kernel_rfl)) (by unfold Func.isWrapper; rw [if_neg (of_decide_eq_false (by kernel_rfl))]; exact ⟨rfl, rfl⟩)
    (fun os started H enc _ => lifted os started H enc)

theorem proved : Rows.GeomEdgesSaid := over

end Go.Proofs.Ytkneohngbkmlpaa.geomEdges
