/- HashHolds: each place of the rect is covered. No condition. -/
import Derived.Test.YthinjaddebfdhaaC6
import Derived.Test.YthinjaddebfdhaaLaw
import Derived.Test.YthinjaddebfdhaaFlat
namespace Go.Proofs.Ythinjaddebfdhaa.hashHolds
open Go.ChangeShapes Go.WideShapes Go.ChangeAt Go.RowKit Go.Joins

set_option maxRecDepth 100000 in
theorem lifted (os : Os) (started : os.Started) (H : Type) (enc : TypeId × Value → H) :
    ReturnsInHanded {} Try.checked os 7 .any (Rows.hashHoldsSpec.pre6 enc Try.prog Try.f7 Rows.hashHoldsRow.domain false) (Rows.hashHoldsSpec.post enc Try.prog Try.f7 false true false false) := by
  refine returnsInHanded_of_change (C := Try.checked) own started (by kernel_rfl) Try.func7
    (ChangeSpec.witness6 (enc := enc) (C := Try.checked) false ⟨#[], #[.agg #[.int .i64 0, .int .i64 0, .int .i64 0, .int .i64 0], .agg #[.int .i64 0, .int .i64 0], .int .u8 0], []⟩ 8 (by kernel_rfl) (by kernel_rfl) (by kernel_rfl) (by kernel_rfl)) ?_
  intro W base args ds gs before hval0 hW _ _
  have hval : ∀ (j : Nat) t v, Try.f7.params[j]? = some t → args[j]? = some v → Value.okWide Try.prog W .any base t v := hval0
  have hW' := hW
  obtain ⟨p, q, hA0, hV, rfl, _, _⟩ := hW
  have hA : DataW.TrodAll enc Try.prog W 0 (fun _ => true) true Try.f7.params.toList args.toList ds p := hA0
  rw [Try.params7] at hA hval
  obtain ⟨v0, v1, v2, d0, d1, d2, p0, p1, p2, rfl, rfl, rfl, h0, h1, h2⟩ := trodAll_three hA
  obtain ⟨rfl, rfl⟩ := trodVars_none hV
  obtain ⟨cs0, rfl, hc0⟩ := open_flat (l := [2, 2, 2, 2]) 10 (by kernel_rfl) (.inl ⟨_, Try.underlying34⟩) (hval 0 34 v0 rfl rfl) h0
  obtain ⟨a, _, rfl, wa, hc0⟩ := hc0.int Try.underlying2
  obtain ⟨b, _, rfl, wb, hc0⟩ := hc0.int Try.underlying2
  obtain ⟨c, _, rfl, wc, hc0⟩ := hc0.int Try.underlying2
  obtain ⟨e, _, rfl, we, hc0⟩ := hc0.int Try.underlying2
  obtain rfl := hc0.nil
  obtain ⟨cs1, rfl, hc1⟩ := open_flat (l := [2, 2]) 10 (by kernel_rfl) (.inl ⟨_, Try.underlying23⟩) (hval 1 23 v1 rfl rfl) h1
  obtain ⟨x, _, rfl, wx, hc1⟩ := hc1.int Try.underlying2
  obtain ⟨y, _, rfl, wy, hc1⟩ := hc1.int Try.underlying2
  obtain rfl := hc1.nil
  obtain ⟨m', rfl, rfl, rfl, w2⟩ := open_int Try.underlying5 (hval 2 5 v2 rfl rfl) h2
  have b2 : 0 ≤ m' ∧ m' < 256 := by
    simp [Lit.wf, IntKind.min, IntKind.max, IntKind.signed, IntKind.bits] at w2
    omega
  obtain ⟨m, rfl⟩ := Int.eq_ofNat_of_zero_le b2.1

  clear hA0 hval0
  refine (HashHolds_walk a b c e x y m (by omega) W).mono fun e W' ⟨he, hb⟩ => ?_
  subst he
  refine ⟨_, rfl, law_post laidOut (tb := 4) (by kernel_rfl) Try.underlying4 rfl (by kernel_rfl) hW' hb rfl⟩

theorem over : Rows.hashHoldsRow.holds Try.pinned (OpenSpec.ofChange Rows.hashHoldsSpec) :=
  OpenClaim.holds_of_wide 7 Try.f7 rfl rfl rfl rfl rfl rfl rfl ⟨rfl, rfl, rfl, rfl, rfl⟩ rfl rfl rfl rfl rfl (by kernel_rfl) Try.func7 (by kernel_rfl)
    (of_decide_eq_true (by kernel_rfl)) (by unfold Func.isWrapper; rw [if_neg (of_decide_eq_false (by kernel_rfl))]; exact ⟨rfl, rfl⟩)
    (fun os started H enc _ => lifted os started H enc)

theorem proved : Rows.HashHoldsSaid := over

end Go.Proofs.Ythinjaddebfdhaa.hashHolds
