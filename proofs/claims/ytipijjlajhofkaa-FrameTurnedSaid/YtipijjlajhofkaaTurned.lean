/- FrameTurned: one byte of a sector that is another one is found out. No condition. -/
import Derived.Test.YtipijjlajhofkaaW19
import Derived.Test.YtipijjlajhofkaaOpen3
import Derived.Test.YtipijjlajhofkaaLaw
import Derived.Test.YtipijjlajhofkaaFlat
namespace Go.Proofs.Ytipijjlajhofkaa.frameTurned
open Go.ChangeShapes Go.WideShapes Go.ChangeAt Go.RowKit Go.Joins

set_option maxRecDepth 100000 in
theorem lifted (os : Os) (started : os.Started) (H : Type) (enc : TypeId × Value → H) :
    ReturnsInHanded {} Try.checked os 8 .any (Rows.frameTurnedSpec.pre6 enc Try.prog Try.f8 Rows.frameTurnedRow.domain false) (Rows.frameTurnedSpec.post enc Try.prog Try.f8 false true false false) := by
  refine returnsInHanded_of_change (C := Try.checked) own started (by kernel_rfl) Try.func8
    (ChangeSpec.witness6 (enc := enc) (C := Try.checked) false ⟨#[], #[.agg #[.int .i64 0, .int .i64 0, .slice none 0 0, .int .i64 0], .int .u8 0], []⟩ 8 (by kernel_rfl) (by kernel_rfl) (by kernel_rfl) (by kernel_rfl)) ?_
  intro W base args ds gs before hval0 hW _ _
  have hval : ∀ (j : Nat) t v, Try.f8.params[j]? = some t → args[j]? = some v → Value.okWide Try.prog W .any base t v := hval0
  have hW' := hW
  obtain ⟨p, q, hA0, hV, rfl, _, _⟩ := hW
  have hA : DataW.TrodAll enc Try.prog W 0 (fun _ => true) true Try.f8.params.toList args.toList ds p := hA0
  rw [Try.params8] at hA hval
  obtain ⟨v0, v1, d0, d1, p0, p1, rfl, rfl, rfl, h0, h1⟩ := trodAll_two hA
  obtain ⟨rfl, rfl⟩ := trodVars_none hV
  obtain ⟨cs0, rfl, hc0⟩ := open_flat (l := [3, 3, 22, 3]) 10 (by kernel_rfl) (.inl ⟨_, Try.underlying46⟩) (hval 0 46 v0 rfl rfl) h0
  obtain ⟨n, _, rfl, -, hc0⟩ := hc0.int Try.underlying3
  obtain ⟨m, _, rfl, -, hc0⟩ := hc0.int Try.underlying3
  obtain ⟨Ab, b, cb, _, rfl, -, rb, hc0⟩ := hc0.bytes
  obtain ⟨a, _, rfl, -, hc0⟩ := hc0.int Try.underlying3
  obtain rfl := hc0.nil
  obtain ⟨v', rfl, rfl, rfl, w1⟩ := open_int Try.underlying5 (hval 1 5 v1 rfl rfl) h1
  have b1 : 0 ≤ v' ∧ v' < 256 := by
    simp [Lit.wf, IntKind.min, IntKind.max, IntKind.signed, IntKind.bits] at w1
    omega
  obtain ⟨v, rfl⟩ := Int.eq_ofNat_of_zero_le b1.1

  clear hA0 hval0
  refine (Turned_any n m a v Ab b cb W (by omega) rb).mono fun e W' ⟨he, hb⟩ => ?_
  subst he
  refine ⟨_, rfl, law_post laidOut (tb := 4) (by kernel_rfl) Try.underlying4 rfl (by kernel_rfl) hW' hb rfl⟩

theorem over : Rows.frameTurnedRow.holds Try.pinned (OpenSpec.ofChange Rows.frameTurnedSpec) :=
  OpenClaim.holds_of_wide 8 Try.f8 rfl rfl rfl rfl rfl rfl rfl ⟨rfl, rfl, rfl, rfl, rfl⟩ rfl rfl rfl rfl rfl (by kernel_rfl) Try.func8 (by kernel_rfl)
    (of_decide_eq_true (by kernel_rfl)) (by unfold Func.isWrapper; rw [if_neg (of_decide_eq_false (by kernel_rfl))]; exact ⟨rfl, rfl⟩)
    (fun os started H enc _ => lifted os started H enc)

theorem proved : Rows.FrameTurnedSaid := over

end Go.Proofs.Ytipijjlajhofkaa.frameTurned
