/- DiskFast: what is fast is never lost. No condition. -/
import Derived.Test.YtapllljbbldfkaaW12
import Derived.Test.YtapllljbbldfkaaOpen
import Derived.Test.YtapllljbbldfkaaLaw
import Derived.Test.YtapllljbbldfkaaFlat
namespace Go.Proofs.Ytapllljbbldfkaa.diskFast
open Go.ChangeShapes Go.WideShapes Go.ChangeAt Go.RowKit Go.Joins

set_option maxRecDepth 100000 in
theorem lifted (os : Os) (started : os.Started) (H : Type) (enc : TypeId × Value → H) :
    ReturnsInHanded {} Try.checked os 3 .any (Rows.diskFastSpec.pre6 enc Try.prog Try.f3 Rows.diskFastRow.domain false) (Rows.diskFastSpec.post enc Try.prog Try.f3 false true false false) := by
  refine returnsInHanded_of_change (C := Try.checked) noKnob started (by kernel_rfl) Try.func3
    (ChangeSpec.witness6 (enc := enc) (C := Try.checked) false ⟨#[], #[.agg #[.slice none 0 0, .slice none 0 0, .int .u8 0, .slice none 0 0]], []⟩ 8 (by kernel_rfl) (by kernel_rfl) (by kernel_rfl) (by kernel_rfl)) ?_
  intro W base args ds gs before hval0 hW _ _
  have hval : ∀ (j : Nat) t v, Try.f3.params[j]? = some t → args[j]? = some v → Value.okWide Try.prog W .any base t v := hval0
  have hW' := hW
  obtain ⟨p, q, hA0, hV, rfl, _, _⟩ := hW
  have hA : DataW.TrodAll enc Try.prog W 0 (fun _ => true) true Try.f3.params.toList args.toList ds p := hA0
  rw [Try.params3] at hA hval
  obtain ⟨v0, d0, rfl, rfl, h0⟩ := trodAll_one hA
  obtain ⟨rfl, rfl⟩ := trodVars_none hV
  obtain ⟨cs0, rfl, hc0⟩ := open_flat (l := [22, 22, 5, 23]) 10 (by kernel_rfl) (.inl ⟨_, Try.underlying25⟩) (hval 0 25 v0 rfl rfl) h0
  obtain ⟨A1, l1, n1, c1, _, rfl, hn1, r1, hc0⟩ := hc0.acts
  obtain ⟨A2, l2, n2, c2, _, rfl, hn2, r2, hc0⟩ := hc0.acts
  obtain ⟨z, _, rfl, wz, hc0⟩ := hc0.int Try.underlying5
  obtain ⟨A3, fs, c3, _, rfl, hfc, hfi, hfa, hc0⟩ := hc0.ints
  obtain rfl := hc0.nil
  have bz : 0 ≤ z ∧ z < 256 := by
    simp [Lit.wf, IntKind.min, IntKind.max, IntKind.signed, IntKind.bits] at wz
    omega
  obtain ⟨at_, rfl⟩ := Int.eq_ofNat_of_zero_le bz.1

  clear hA0 hval0
  refine (Fast_any A1 n1 c1 l1 A2 n2 c2 l2 at_ A3 fs.length c3 fs W hn1 r1 hn2 r2 rfl hfc hfi hfa (by omega)).mono fun e W' ⟨he, hb⟩ => ?_
  subst he
  refine ⟨_, rfl, law_post laidOut (tb := 4) (by kernel_rfl) Try.underlying4 rfl (by kernel_rfl) hW' hb rfl⟩

theorem over : Rows.diskFastRow.holds Try.pinned (OpenSpec.ofChange Rows.diskFastSpec) :=
  OpenClaim.holds_of_wide 3 Try.f3 rfl rfl rfl rfl rfl rfl rfl ⟨rfl, rfl, rfl, rfl, rfl⟩ rfl rfl rfl rfl rfl (by kernel_rfl) Try.func3 (by kernel_rfl)
    (of_decide_eq_true (by kernel_rfl)) (by unfold Func.isWrapper; rw [if_neg (of_decide_eq_false (by kernel_rfl))]; exact ⟨rfl, rfl⟩)
    (fun os started H enc _ => lifted os started H enc)

theorem proved : Rows.DiskFastSaid := over

end Go.Proofs.Ytapllljbbldfkaa.diskFast
