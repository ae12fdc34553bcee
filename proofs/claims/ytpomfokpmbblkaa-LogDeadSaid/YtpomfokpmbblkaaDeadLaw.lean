/- LogDead: a log whose disk went down is dead. No condition. -/
import Derived.Test.YtpomfokpmbblkaaA9
import Derived.Test.YtpomfokpmbblkaaOpen
import Derived.Test.YtpomfokpmbblkaaLaw
import Derived.Test.YtpomfokpmbblkaaFlat
namespace Go.Proofs.Ytpomfokpmbblkaa.logDead
open Go.ChangeShapes Go.WideShapes Go.ChangeAt Go.RowKit Go.Joins

set_option maxRecDepth 100000 in
theorem lifted (os : Os) (started : os.Started) (H : Type) (enc : TypeId × Value → H) :
    ReturnsInHanded {} Try.checked os 6 .any (Rows.logDeadSpec.pre6 enc Try.prog Try.f6 Rows.logDeadRow.domain false) (Rows.logDeadSpec.post enc Try.prog Try.f6 false true false false) := by
  refine returnsInHanded_of_change (C := Try.checked) noKnob started (by kernel_rfl) Try.func6
    (ChangeSpec.witness6 (enc := enc) (C := Try.checked) false ⟨#[], #[.slice none 0 0, .slice none 0 0], []⟩ 8 (by kernel_rfl) (by kernel_rfl) (by kernel_rfl) (by kernel_rfl)) ?_
  intro W base args ds gs before hval0 hW _ _
  have hval : ∀ (j : Nat) t v, Try.f6.params[j]? = some t → args[j]? = some v → Value.okWide Try.prog W .any base t v := hval0
  have hW' := hW
  obtain ⟨p, q, hA0, hV, rfl, _, _⟩ := hW
  have hA : DataW.TrodAll enc Try.prog W 0 (fun _ => true) true Try.f6.params.toList args.toList ds p := hA0
  rw [Try.params6] at hA hval
  obtain ⟨v0, v1, d0, d1, p0, p1, rfl, rfl, rfl, h0, h1⟩ := trodAll_two hA
  obtain ⟨rfl, rfl⟩ := trodVars_none hV
  obtain ⟨A0, l0, n0, c0, rfl, hn0, r0⟩ := open_rows (hval 0 22 v0 rfl rfl) h0
  obtain ⟨A1, l1, n1, c1, rfl, hn1, r1⟩ := open_puts (hval 1 40 v1 rfl rfl) h1

  clear hA0 hval0
  refine (Dead_play A0 A1 l0 l1 n0 n1 c0 c1 W hn0 hn1 r0 r1).mono fun e W' ⟨he, hb⟩ => ?_
  subst he
  refine ⟨_, rfl, law_post laidOut (tb := 4) (by kernel_rfl) Try.underlying4 rfl (by kernel_rfl) hW' hb rfl⟩

theorem over : Rows.logDeadRow.holds Try.pinned (OpenSpec.ofChange Rows.logDeadSpec) :=
  OpenClaim.holds_of_wide 6 Try.f6 rfl rfl rfl rfl rfl rfl rfl ⟨rfl, rfl, rfl, rfl, rfl⟩ rfl rfl rfl rfl rfl (by kernel_rfl) Try.func6 (by kernel_rfl)
    (of_decide_eq_true (by kernel_rfl)) (by unfold Func.isWrapper; rw [if_neg (of_decide_eq_false (by kernel_rfl))]; exact ⟨rfl, rfl⟩)
    (fun os started H enc _ => lifted os started H enc)

theorem proved : Rows.LogDeadSaid := over

end Go.Proofs.Ytpomfokpmbblkaa.logDead
