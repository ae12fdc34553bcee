/- GeomJoins: the bounds of two rows of points. No condition. -/
import Derived.Test.YtkneohngbkmlpaaW28
import Derived.Test.YtkneohngbkmlpaaOpen
import Derived.Test.YtkneohngbkmlpaaLaw
import Derived.Test.YtkneohngbkmlpaaFlat
namespace Go.Proofs.Ytkneohngbkmlpaa.geomJoins
open Go.ChangeShapes Go.WideShapes Go.ChangeAt Go.RowKit Go.Joins

set_option maxRecDepth 100000 in
theorem lifted (os : Os) (started : os.Started) (H : Type) (enc : TypeId × Value → H) :
    ReturnsInHanded {} Try.checked os 7 .any (Rows.geomJoinsSpec.pre6 enc Try.prog Try.f7 Rows.geomJoinsRow.domain false) (Rows.geomJoinsSpec.post enc Try.prog Try.f7 false true false false) := by
  refine returnsInHanded_of_change (C := Try.checked) own started (by kernel_rfl) Try.func7
    (ChangeSpec.witness6 (enc := enc) (C := Try.checked) false ⟨#[], #[.slice none 0 0, .slice none 0 0], []⟩ 8 (by kernel_rfl) (by kernel_rfl) (by kernel_rfl) (by kernel_rfl)) ?_
  intro W base args ds gs before hval0 hW _ _
  have hval : ∀ (j : Nat) t v, Try.f7.params[j]? = some t → args[j]? = some v → Value.okWide Try.prog W .any base t v := hval0
  have hW' := hW
  obtain ⟨p, q, hA0, hV, rfl, _, _⟩ := hW
  have hA : DataW.TrodAll enc Try.prog W 0 (fun _ => true) true Try.f7.params.toList args.toList ds p := hA0
  rw [Try.params7] at hA hval
  obtain ⟨v0, v1, d0, d1, p0, p1, rfl, rfl, rfl, h0, h1⟩ := trodAll_two hA
  obtain ⟨rfl, rfl⟩ := trodVars_none hV
  obtain ⟨Ar, lr, nr, cr, rfl, hnr, rr⟩ := open_pts (hval 0 22 v0 rfl rfl) h0
  obtain ⟨As, ls, ns, cs, rfl, hns, rs⟩ := open_pts (hval 1 22 v1 rfl rfl) h1

  clear hA0 hval0
  refine (Joins_any Ar As lr ls nr ns cr cs W hnr hns rr rs).mono fun e W' ⟨he, hb⟩ => ?_
  subst he
  refine ⟨_, rfl, law_post laidOut (tb := 4) (by kernel_rfl) Try.underlying4 rfl (by kernel_rfl) hW' hb rfl⟩

theorem over : Rows.geomJoinsRow.holds Try.pinned (OpenSpec.ofChange Rows.geomJoinsSpec) :=
  OpenClaim.holds_of_wide 7 Try.f7 rfl rfl rfl rfl rfl rfl rfl ⟨rfl, rfl, rfl, rfl, rfl⟩ rfl rfl rfl rfl rfl (by kernel_rfl) Try.func7 (by kernel_rfl)
    (of_decide_eq_true (by kernel_rfl)) (by unfold Func.isWrapper; rw [if_neg (of_decide_eq_false (by kernel_rfl))]; exact ⟨rfl, rfl⟩)
    (fun os started H enc _ => lifted os started H enc)

theorem proved : Rows.GeomJoinsSaid := over

end Go.Proofs.Ytkneohngbkmlpaa.geomJoins
