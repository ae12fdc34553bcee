/- WideReckons: any sum, difference, comparison, figures. No condition. -/
import Derived.Test.YtogghmmokifnnaaW20
import Derived.Test.YtogghmmokifnnaaLaw
import Derived.Test.YtogghmmokifnnaaFlat
namespace Go.Proofs.Ytogghmmokifnnaa.wideReckons
open Go.ChangeShapes Go.WideShapes Go.ChangeAt Go.RowKit Go.Joins

set_option maxRecDepth 100000 in
theorem lifted (os : Os) (started : os.Started) (H : Type) (enc : TypeId × Value → H) :
    ReturnsInHanded {} Try.checked os 7 .any (Rows.wideReckonsSpec.pre6 enc Try.prog Try.f7 Rows.wideReckonsRow.domain false) (Rows.wideReckonsSpec.post enc Try.prog Try.f7 false true false false) := by
  refine returnsInHanded_of_change (C := Try.checked) own started (by kernel_rfl) Try.func7
    (ChangeSpec.witness6 (enc := enc) (C := Try.checked) false ⟨#[], #[.agg #[.int .i64 0, .int .u64 0], .agg #[.int .i64 0, .int .u64 0]], []⟩ 8 (by kernel_rfl) (by kernel_rfl) (by kernel_rfl) (by kernel_rfl)) ?_
  intro W base args ds gs before hval0 hW _ _
  have hval : ∀ (j : Nat) t v, Try.f7.params[j]? = some t → args[j]? = some v → Value.okWide Try.prog W .any base t v := hval0
  have hW' := hW
  obtain ⟨p, q, hA0, hV, rfl, _, _⟩ := hW
  have hA : DataW.TrodAll enc Try.prog W 0 (fun _ => true) true Try.f7.params.toList args.toList ds p := hA0
  rw [Try.params7] at hA hval
  obtain ⟨v0, v1, d0, d1, p0, p1, rfl, rfl, rfl, h0, h1⟩ := trodAll_two hA
  obtain ⟨rfl, rfl⟩ := trodVars_none hV
  obtain ⟨cs0, rfl, hc0⟩ := open_flat (l := [2, 22]) 10 (by kernel_rfl) (.inl ⟨_, Try.underlying24⟩) (hval 0 24 v0 rfl rfl) h0
  obtain ⟨ha', _, rfl, wha, hc0⟩ := hc0.int Try.underlying2
  obtain ⟨la', _, rfl, wla, hc0⟩ := hc0.int Try.underlying22
  obtain rfl := hc0.nil
  have bha := bounds_i64 wha
  have bla := bounds_u64 wla
  obtain ⟨a, ba, rfl, rfl⟩ := M.halves ha' la' bha.1 bha.2 bla.1 bla.2
  obtain ⟨cs1, rfl, hc1⟩ := open_flat (l := [2, 22]) 10 (by kernel_rfl) (.inl ⟨_, Try.underlying24⟩) (hval 1 24 v1 rfl rfl) h1
  obtain ⟨hb', _, rfl, whb, hc1⟩ := hc1.int Try.underlying2
  obtain ⟨lb', _, rfl, wlb, hc1⟩ := hc1.int Try.underlying22
  obtain rfl := hc1.nil
  have bhb := bounds_i64 whb
  have blb := bounds_u64 wlb
  obtain ⟨b, bb, rfl, rfl⟩ := M.halves hb' lb' bhb.1 bhb.2 blb.1 blb.2

  clear hA0 hval0
  refine (Reckons_any a b ba bb W).mono fun e W' ⟨he, hb⟩ => ?_
  subst he
  refine ⟨_, rfl, law_post laidOut (tb := 4) (by kernel_rfl) Try.underlying4 rfl (by kernel_rfl) hW' hb rfl⟩

theorem over : Rows.wideReckonsRow.holds Try.pinned (OpenSpec.ofChange Rows.wideReckonsSpec) :=
  OpenClaim.holds_of_wide 7 Try.f7 rfl rfl rfl rfl rfl rfl rfl ⟨rfl, rfl, rfl, rfl, rfl⟩ rfl rfl rfl rfl rfl (by kernel_rfl) Try.func7 (by kernel_rfl)
    (of_decide_eq_true (by kernel_rfl)) (by unfold Func.isWrapper; rw [if_neg (of_decide_eq_false (by kernel_rfl))]; exact ⟨rfl, rfl⟩)
    (fun os started H enc _ => lifted os started H enc)

theorem proved : Rows.WideReckonsSaid := over

end Go.Proofs.Ytogghmmokifnnaa.wideReckons
