/- LogAgain: a log of a newer epoch holds its own groups alone. No condition. -/
import Derived.Test.YtpomfokpmbblkaaA11
import Derived.Test.YtpomfokpmbblkaaOpen
import Derived.Test.YtpomfokpmbblkaaLaw
import Derived.Test.YtpomfokpmbblkaaFlat
namespace Go.Proofs.Ytpomfokpmbblkaa.logAgain
open Go.ChangeShapes Go.WideShapes Go.ChangeAt Go.RowKit Go.Joins

set_option maxRecDepth 100000 in
theorem lifted (os : Os) (started : os.Started) (H : Type) (enc : TypeId × Value → H) :
    ReturnsInHanded {} Try.checked os 5 .any (Rows.logAgainSpec.pre6 enc Try.prog Try.f5 Rows.logAgainRow.domain false) (Rows.logAgainSpec.post enc Try.prog Try.f5 false true false false) := by
  refine returnsInHanded_of_change (C := Try.checked) noKnob started (by kernel_rfl) Try.func5
    (ChangeSpec.witness6 (enc := enc) (C := Try.checked) false ⟨#[], #[.slice none 0 0, .slice none 0 0, .slice none 0 0], []⟩ 8 (by kernel_rfl) (by kernel_rfl) (by kernel_rfl) (by kernel_rfl)) ?_
  intro W base args ds gs before hval0 hW _ _
  have hval : ∀ (j : Nat) t v, Try.f5.params[j]? = some t → args[j]? = some v → Value.okWide Try.prog W .any base t v := hval0
  have hW' := hW
  obtain ⟨p, q, hA0, hV, rfl, _, _⟩ := hW
  have hA : DataW.TrodAll enc Try.prog W 0 (fun _ => true) true Try.f5.params.toList args.toList ds p := hA0
  rw [Try.params5] at hA hval
  obtain ⟨v0, v1, v2, d0, d1, d2, p0, p1, p2, rfl, rfl, rfl, h0, h1, h2⟩ := trodAll_three hA
  obtain ⟨rfl, rfl⟩ := trodVars_none hV
  obtain ⟨A0, l0, n0, c0, rfl, hn0, r0⟩ := open_rows (hval 0 22 v0 rfl rfl) h0
  obtain ⟨A1, l1, n1, c1, rfl, hn1, r1⟩ := open_rows (hval 1 22 v1 rfl rfl) h1
  obtain ⟨A2, l2, c2, rfl, hn2, r2, hp2⟩ := open_fates (hval 2 55 v2 rfl rfl) h2

  clear hA0 hval0
  refine (Again_play A0 A1 A2 l0 l1 l2 n0 n1 l2.length c0 c1 c2 W hn0 hn1 rfl r0 r1 hn2 r2 hp2).mono fun e W' ⟨he, hb⟩ => ?_
  subst he
  refine ⟨_, rfl, law_post laidOut (tb := 4) (by kernel_rfl) Try.underlying4 rfl (by kernel_rfl) hW' hb rfl⟩

theorem over : Rows.logAgainRow.holds Try.pinned (OpenSpec.ofChange Rows.logAgainSpec) :=
  OpenClaim.holds_of_wide 5 Try.f5 rfl rfl rfl rfl rfl rfl rfl ⟨rfl, rfl, rfl, rfl, rfl⟩ rfl rfl rfl rfl rfl (by kernel_rfl) Try.func5 (by kernel_rfl)
    (of_decide_eq_true (by kernel_rfl)) (by unfold Func.isWrapper; rw [if_neg (of_decide_eq_false (by kernel_rfl))]; exact ⟨rfl, rfl⟩)
    (fun os started H enc _ => lifted os started H enc)

theorem proved : Rows.LogAgainSaid := over

end Go.Proofs.Ytpomfokpmbblkaa.logAgain
