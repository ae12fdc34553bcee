/- GeomRects: distances, bounds, rects. No condition. -/
import Derived.Test.YtkneohngbkmlpaaW36
import Derived.Test.YtkneohngbkmlpaaOpen
import Derived.Test.YtkneohngbkmlpaaLaw
import Derived.Test.YtkneohngbkmlpaaFlat
namespace Go.Proofs.Ytkneohngbkmlpaa.geomRects
open Go.ChangeShapes Go.WideShapes Go.ChangeAt Go.RowKit Go.Joins

set_option maxRecDepth 100000 in
theorem lifted (os : Os) (started : os.Started) (H : Type) (enc : TypeId × Value → H) :
    ReturnsInHanded {} Try.checked os 9 .any (Rows.geomRectsSpec.pre6 enc Try.prog Try.f9 Rows.geomRectsRow.domain false) (Rows.geomRectsSpec.post enc Try.prog Try.f9 false true false false) := by
  refine returnsInHanded_of_change (C := Try.checked) own started (by kernel_rfl) Try.func9
    (ChangeSpec.witness6 (enc := enc) (C := Try.checked) false ⟨#[], #[.slice none 0 0, .agg #[.int .i64 0, .int .i64 0, .int .i64 0, .int .i64 0], .agg #[.int .i64 0, .int .i64 0, .int .i64 0, .int .i64 0]], []⟩ 8 (by kernel_rfl) (by kernel_rfl) (by kernel_rfl) (by kernel_rfl)) ?_
  intro W base args ds gs before hval0 hW _ _
  have hval : ∀ (j : Nat) t v, Try.f9.params[j]? = some t → args[j]? = some v → Value.okWide Try.prog W .any base t v := hval0
  have hW' := hW
  obtain ⟨p, q, hA0, hV, rfl, _, _⟩ := hW
  have hA : DataW.TrodAll enc Try.prog W 0 (fun _ => true) true Try.f9.params.toList args.toList ds p := hA0
  rw [Try.params9] at hA hval
  obtain ⟨v0, v1, v2, d0, d1, d2, p0, p1, p2, rfl, rfl, rfl, h0, h1, h2⟩ := trodAll_three hA
  obtain ⟨rfl, rfl⟩ := trodVars_none hV
  obtain ⟨Al, ll, nl, cl, rfl, hnl, rl⟩ := open_pts (hval 0 22 v0 rfl rfl) h0
  obtain ⟨cs1, rfl, hc1⟩ := open_flat (l := [2, 2, 2, 2]) 10 (by kernel_rfl) (.inl ⟨_, Try.underlying38⟩) (hval 1 38 v1 rfl rfl) h1
  obtain ⟨rx0, _, rfl, wrx0, hc1⟩ := hc1.int Try.underlying2
  obtain ⟨ry0, _, rfl, wry0, hc1⟩ := hc1.int Try.underlying2
  obtain ⟨rx1, _, rfl, wrx1, hc1⟩ := hc1.int Try.underlying2
  obtain ⟨ry1, _, rfl, wry1, hc1⟩ := hc1.int Try.underlying2
  obtain rfl := hc1.nil
  obtain ⟨cs2, rfl, hc2⟩ := open_flat (l := [2, 2, 2, 2]) 10 (by kernel_rfl) (.inl ⟨_, Try.underlying38⟩) (hval 2 38 v2 rfl rfl) h2
  obtain ⟨sx0, _, rfl, wsx0, hc2⟩ := hc2.int Try.underlying2
  obtain ⟨sy0, _, rfl, wsy0, hc2⟩ := hc2.int Try.underlying2
  obtain ⟨sx1, _, rfl, wsx1, hc2⟩ := hc2.int Try.underlying2
  obtain ⟨sy1, _, rfl, wsy1, hc2⟩ := hc2.int Try.underlying2
  obtain rfl := hc2.nil

  clear hA0 hval0
  refine (Rects_any Al ll nl cl ⟨rx0, ry0, rx1, ry1⟩ ⟨sx0, sy0, sx1, sy1⟩ W hnl rl).mono fun e W' ⟨he, hb⟩ => ?_
  subst he
  refine ⟨_, rfl, law_post laidOut (tb := 4) (by kernel_rfl) Try.underlying4 rfl (by kernel_rfl) hW' hb rfl⟩

theorem over : Rows.geomRectsRow.holds Try.pinned (OpenSpec.ofChange Rows.geomRectsSpec) :=
  OpenClaim.holds_of_wide 9 Try.f9 rfl rfl rfl rfl rfl rfl rfl ⟨rfl, rfl, rfl, rfl, rfl⟩ rfl rfl rfl rfl rfl (by kernel_rfl) Try.func9 (by kernel_rfl)
    (of_decide_eq_true (by kernel_rfl)) (by unfold Func.isWrapper; rw [if_neg (of_decide_eq_false (by kernel_rfl))]; exact ⟨rfl, rfl⟩)
    (fun os started H enc _ => lifted os started H enc)

theorem proved : Rows.GeomRectsSaid := over

end Go.Proofs.Ytkneohngbkmlpaa.geomRects
