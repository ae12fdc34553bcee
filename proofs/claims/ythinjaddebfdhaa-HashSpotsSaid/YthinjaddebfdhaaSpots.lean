/- HashSpots: the cover of one place is its number alone. No condition. -/
import Derived.Test.YthinjaddebfdhaaC4
import Derived.Test.YthinjaddebfdhaaLaw
import Derived.Test.YthinjaddebfdhaaFlat
namespace Go.Proofs.Ythinjaddebfdhaa.hashSpots
open Go.ChangeShapes Go.WideShapes Go.ChangeAt Go.RowKit Go.Joins

set_option maxRecDepth 100000 in
theorem lifted (os : Os) (started : os.Started) (H : Type) (enc : TypeId × Value → H) :
    ReturnsInHanded {} Try.checked os 6 .any (Rows.hashSpotsSpec.pre6 enc Try.prog Try.f6 Rows.hashSpotsRow.domain false) (Rows.hashSpotsSpec.post enc Try.prog Try.f6 false true false false) := by
  refine returnsInHanded_of_change (C := Try.checked) own started (by kernel_rfl) Try.func6
    (ChangeSpec.witness6 (enc := enc) (C := Try.checked) false ⟨#[], #[.agg #[.int .i64 0, .int .i64 0], .int .u8 0], []⟩ 8 (by kernel_rfl) (by kernel_rfl) (by kernel_rfl) (by kernel_rfl)) ?_
  intro W base args ds gs before hval0 hW _ _
  have hval : ∀ (j : Nat) t v, Try.f6.params[j]? = some t → args[j]? = some v → Value.okWide Try.prog W .any base t v := hval0
  have hW' := hW
  obtain ⟨p, q, hA0, hV, rfl, _, _⟩ := hW
  have hA : DataW.TrodAll enc Try.prog W 0 (fun _ => true) true Try.f6.params.toList args.toList ds p := hA0
  rw [Try.params6] at hA hval
  obtain ⟨v0, v1, d0, d1, p0, p1, rfl, rfl, rfl, h0, h1⟩ := trodAll_two hA
  obtain ⟨rfl, rfl⟩ := trodVars_none hV
  obtain ⟨cs0, rfl, hc0⟩ := open_flat (l := [2, 2]) 10 (by kernel_rfl) (.inl ⟨_, Try.underlying23⟩) (hval 0 23 v0 rfl rfl) h0
  obtain ⟨x, _, rfl, wx, hc0⟩ := hc0.int Try.underlying2
  obtain ⟨y, _, rfl, wy, hc0⟩ := hc0.int Try.underlying2
  obtain rfl := hc0.nil
  obtain ⟨m', rfl, rfl, rfl, w1⟩ := open_int Try.underlying5 (hval 1 5 v1 rfl rfl) h1
  have b1 : 0 ≤ m' ∧ m' < 256 := by
    simp [Lit.wf, IntKind.min, IntKind.max, IntKind.signed, IntKind.bits] at w1
    omega
  obtain ⟨m, rfl⟩ := Int.eq_ofNat_of_zero_le b1.1

  clear hA0 hval0
  refine (HashSpots_walk x y m (by omega) W).mono fun e W' ⟨he, hb⟩ => ?_
  subst he
  refine ⟨_, rfl, law_post laidOut (tb := 4) (by kernel_rfl) Try.underlying4 rfl (by kernel_rfl) hW' hb rfl⟩

theorem over : Rows.hashSpotsRow.holds Try.pinned (OpenSpec.ofChange Rows.hashSpotsSpec) :=
  OpenClaim.holds_of_wide 6 Try.f6 rfl rfl rfl rfl rfl rfl rfl ⟨rfl, rfl, rfl, rfl, rfl⟩ rfl rfl rfl rfl rfl (by kernel_rfl) Try.func6 (by kernel_rfl)
    (of_decide_eq_true (by kernel_rfl)) (by unfold Func.isWrapper; rw [if_neg (of_decide_eq_false (by kernel_rfl))]; exact ⟨rfl, rfl⟩)
    (fun os started H enc _ => lifted os started H enc)

theorem proved : Rows.HashSpotsSaid := over

end Go.Proofs.Ythinjaddebfdhaa.hashSpots
