/- HashCovers: the cover of any rect. No condition. -/
import Derived.Test.YthinjaddebfdhaaD5
import Derived.Test.YthinjaddebfdhaaLaw
import Derived.Test.YthinjaddebfdhaaFlat
namespace Go.Proofs.Ythinjaddebfdhaa.hashCovers
open Go.ChangeShapes Go.WideShapes Go.ChangeAt Go.RowKit Go.Joins

set_option maxRecDepth 100000 in
theorem lifted (os : Os) (started : os.Started) (H : Type) (enc : TypeId × Value → H) :
    ReturnsInHanded {} Try.checked os 5 .any (Rows.hashCoversSpec.pre6 enc Try.prog Try.f5 Rows.hashCoversRow.domain false) (Rows.hashCoversSpec.post enc Try.prog Try.f5 false true false false) := by
  refine returnsInHanded_of_change (C := Try.checked) own started (by kernel_rfl) Try.func5
    (ChangeSpec.witness6 (enc := enc) (C := Try.checked) false ⟨#[], #[.agg #[.int .i64 0, .int .i64 0, .int .i64 0, .int .i64 0], .int .i64 0], []⟩ 8 (by kernel_rfl) (by kernel_rfl) (by kernel_rfl) (by kernel_rfl)) ?_
  intro W base args ds gs before hval0 hW _ _
  have hval : ∀ (j : Nat) t v, Try.f5.params[j]? = some t → args[j]? = some v → Value.okWide Try.prog W .any base t v := hval0
  have hW' := hW
  obtain ⟨p, q, hA0, hV, rfl, _, _⟩ := hW
  have hA : DataW.TrodAll enc Try.prog W 0 (fun _ => true) true Try.f5.params.toList args.toList ds p := hA0
  rw [Try.params5] at hA hval
  obtain ⟨v0, v1, d0, d1, p0, p1, rfl, rfl, rfl, h0, h1⟩ := trodAll_two hA
  obtain ⟨rfl, rfl⟩ := trodVars_none hV
  obtain ⟨cs0, rfl, hc0⟩ := open_flat (l := [2, 2, 2, 2]) 10 (by kernel_rfl) (.inl ⟨_, Try.underlying34⟩) (hval 0 34 v0 rfl rfl) h0
  obtain ⟨a, _, rfl, wa, hc0⟩ := hc0.int Try.underlying2
  obtain ⟨b, _, rfl, wb, hc0⟩ := hc0.int Try.underlying2
  obtain ⟨c, _, rfl, wc, hc0⟩ := hc0.int Try.underlying2
  obtain ⟨e, _, rfl, we, hc0⟩ := hc0.int Try.underlying2
  obtain rfl := hc0.nil
  obtain ⟨m, rfl, rfl, rfl, w1⟩ := open_int Try.underlying3 (hval 1 3 v1 rfl rfl) h1
  have b1 := bounds_i64 w1

  clear hA0 hval0
  refine (HashCovers_walk a b c e m W).mono fun e W' ⟨he, hb⟩ => ?_
  subst he
  refine ⟨_, rfl, law_post laidOut (tb := 4) (by kernel_rfl) Try.underlying4 rfl (by kernel_rfl) hW' hb rfl⟩

theorem over : Rows.hashCoversRow.holds Try.pinned (OpenSpec.ofChange Rows.hashCoversSpec) :=
  OpenClaim.holds_of_wide 5 Try.f5 rfl rfl rfl rfl rfl rfl rfl ⟨rfl, rfl, rfl, rfl, rfl⟩ rfl rfl rfl rfl rfl (by kernel_rfl) Try.func5 (by kernel_rfl)
    (of_decide_eq_true (by kernel_rfl)) (by unfold Func.isWrapper; rw [if_neg (of_decide_eq_false (by kernel_rfl))]; exact ⟨rfl, rfl⟩)
    (fun os started H enc _ => lifted os started H enc)

theorem proved : Rows.HashCoversSaid := over

end Go.Proofs.Ythinjaddebfdhaa.hashCovers
