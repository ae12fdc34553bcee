/- ScoreBounds: a share grows with tf and falls with the length, a weight falls with df, no score is below 0. No condition. -/
import Derived.Test.YthdfelhckjeekaaW9
import Derived.Test.YthdfelhckjeekaaLaw
import Derived.Test.YthdfelhckjeekaaFlat
namespace Go.Proofs.Ythdfelhckjeekaa.scoreBounds
open Go.ChangeShapes Go.WideShapes Go.ChangeAt Go.RowKit Go.Joins

set_option maxRecDepth 100000 in
theorem lifted (os : Os) (started : os.Started) (H : Type) (enc : TypeId × Value → H) :
    ReturnsInHanded {} Try.checked os 6 .any (Rows.scoreBoundsSpec.pre6 enc Try.prog Try.f6 Rows.scoreBoundsRow.domain false) (Rows.scoreBoundsSpec.post enc Try.prog Try.f6 false true false false) := by
  refine returnsInHanded_of_change (C := Try.checked) own started (by kernel_rfl) Try.func6
    (ChangeSpec.witness6 (enc := enc) (C := Try.checked) false ⟨#[], #[.agg #[.int .i64 0, .int .i64 0], .agg #[.int .i64 0, .int .i64 0], .agg #[.int .i64 0, .int .i64 0, .int .i64 0, .int .i64 0]], []⟩ 8 (by kernel_rfl) (by kernel_rfl) (by kernel_rfl) (by kernel_rfl)) ?_
  intro W base args ds gs before hval0 hW _ _
  have hval : ∀ (j : Nat) t v, Try.f6.params[j]? = some t → args[j]? = some v → Value.okWide Try.prog W .any base t v := hval0
  have hW' := hW
  obtain ⟨p, q, hA0, hV, rfl, _, _⟩ := hW
  have hA : DataW.TrodAll enc Try.prog W 0 (fun _ => true) true Try.f6.params.toList args.toList ds p := hA0
  rw [Try.params6] at hA hval
  obtain ⟨v0, v1, v2, d0, d1, d2, p0, p1, p2, rfl, rfl, rfl, h0, h1, h2⟩ := trodAll_three hA
  obtain ⟨rfl, rfl⟩ := trodVars_none hV
  obtain ⟨cs0, rfl, hc0⟩ := open_flat (l := [3, 3]) 10 (by kernel_rfl) (.inl ⟨_, Try.underlying28⟩) (hval 0 28 v0 rfl rfl) h0
  obtain ⟨T, _, rfl, wT, hc0⟩ := hc0.int Try.underlying3
  obtain ⟨N, _, rfl, wN, hc0⟩ := hc0.int Try.underlying3
  obtain rfl := hc0.nil
  obtain ⟨cs1, rfl, hc1⟩ := open_flat (l := [3, 3]) 10 (by kernel_rfl) (.inr ⟨_, _, Try.underlying29⟩) (hval 1 29 v1 rfl rfl) h1
  obtain ⟨d0, _, rfl, wd0, hc1⟩ := hc1.int Try.underlying3
  obtain ⟨d1, _, rfl, wd1, hc1⟩ := hc1.int Try.underlying3
  obtain rfl := hc1.nil
  obtain ⟨cs2, rfl, hc2⟩ := open_flat (l := [3, 3, 3, 3]) 10 (by kernel_rfl) (.inr ⟨_, _, Try.underlying40⟩) (hval 2 40 v2 rfl rfl) h2
  obtain ⟨tf, _, rfl, wtf, hc2⟩ := hc2.int Try.underlying3
  obtain ⟨len, _, rfl, wlen, hc2⟩ := hc2.int Try.underlying3
  obtain ⟨more, _, rfl, wmore, hc2⟩ := hc2.int Try.underlying3
  obtain ⟨less, _, rfl, wless, hc2⟩ := hc2.int Try.underlying3
  obtain rfl := hc2.nil

  clear hA0 hval0
  refine (ScoreBounds_walk T N d0 d1 tf len more less W).mono fun e W' ⟨he, hb⟩ => ?_
  subst he
  refine ⟨_, rfl, law_post laidOut (tb := 4) (by kernel_rfl) Try.underlying4 rfl (by kernel_rfl) hW' hb rfl⟩

theorem over : Rows.scoreBoundsRow.holds Try.pinned (OpenSpec.ofChange Rows.scoreBoundsSpec) :=
  OpenClaim.holds_of_wide 6 Try.f6 rfl rfl rfl rfl rfl rfl rfl ⟨rfl, rfl, rfl, rfl, rfl⟩ rfl rfl rfl rfl rfl (by kernel_rfl) Try.func6 (by kernel_rfl)
    (of_decide_eq_true (by kernel_rfl)) (by unfold Func.isWrapper; rw [if_neg (of_decide_eq_false (by kernel_rfl))]; exact ⟨rfl, rfl⟩)
    (fun os started H enc _ => lifted os started H enc)

theorem proved : Rows.ScoreBoundsSaid := over

end Go.Proofs.Ythdfelhckjeekaa.scoreBounds
