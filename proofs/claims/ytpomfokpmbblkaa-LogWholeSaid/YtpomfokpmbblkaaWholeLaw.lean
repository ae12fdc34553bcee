/- LogWhole: what was told is there, and nothing by halves. No condition. -/
import Derived.Test.YtpomfokpmbblkaaA13
import Derived.Test.YtpomfokpmbblkaaOpen
import Derived.Test.YtpomfokpmbblkaaLaw
import Derived.Test.YtpomfokpmbblkaaFlat
namespace Go.Proofs.Ytpomfokpmbblkaa.logWhole
open Go.ChangeShapes Go.WideShapes Go.ChangeAt Go.RowKit Go.Joins

set_option maxRecDepth 100000 in
theorem lifted (os : Os) (started : os.Started) (H : Type) (enc : TypeId × Value → H) :
    ReturnsInHanded {} Try.checked os 4 .any (Rows.logWholeSpec.pre6 enc Try.prog Try.f4 Rows.logWholeRow.domain false) (Rows.logWholeSpec.post enc Try.prog Try.f4 false true false false) := by
  refine returnsInHanded_of_change (C := Try.checked) noKnob started (by kernel_rfl) Try.func4
    (ChangeSpec.witness6 (enc := enc) (C := Try.checked) false ⟨#[], #[.agg #[.slice none 0 0, .slice none 0 0, .int .i64 0, .slice none 0 0]], []⟩ 8 (by kernel_rfl) (by kernel_rfl) (by kernel_rfl) (by kernel_rfl)) ?_
  intro W base args ds gs before hval0 hW _ _
  have hval : ∀ (j : Nat) t v, Try.f4.params[j]? = some t → args[j]? = some v → Value.okWide Try.prog W .any base t v := hval0
  have hW' := hW
  obtain ⟨p, q, hA0, hV, rfl, _, _⟩ := hW
  have hA : DataW.TrodAll enc Try.prog W 0 (fun _ => true) true Try.f4.params.toList args.toList ds p := hA0
  rw [Try.params4] at hA hval
  obtain ⟨v0, d0, rfl, rfl, h0⟩ := trodAll_one hA
  obtain ⟨rfl, rfl⟩ := trodVars_none hV
  obtain ⟨cs0, rfl, hc0⟩ := open_flat (l := [22, 22, 3, 55]) 10 (by kernel_rfl) (.inl ⟨_, Try.underlying57⟩) (hval 0 57 v0 rfl rfl) h0
  obtain ⟨A1, l1, n1, c1, _, rfl, hn1, r1, hc0⟩ := hc0.rows
  obtain ⟨A2, l2, n2, c2, _, rfl, hn2, r2, hc0⟩ := hc0.rows
  obtain ⟨z, _, rfl, wz, hc0⟩ := hc0.int Try.underlying3
  obtain ⟨A3, fs, c3, _, rfl, hfc, hfi, hfa, hc0⟩ := hc0.ints
  obtain rfl := hc0.nil
  have bz := bounds_i64 wz

  clear hA0 hval0
  refine (Whole_play A1 A2 A3 l1 l2 fs n1 n2 fs.length c1 c2 c3 z W hn1 hn2 rfl r1 r2 hfc hfi hfa (by omega)).mono fun e W' ⟨he, hb⟩ => ?_
  subst he
  refine ⟨_, rfl, law_post laidOut (tb := 4) (by kernel_rfl) Try.underlying4 rfl (by kernel_rfl) hW' hb rfl⟩

theorem over : Rows.logWholeRow.holds Try.pinned (OpenSpec.ofChange Rows.logWholeSpec) :=
  OpenClaim.holds_of_wide 4 Try.f4 rfl rfl rfl rfl rfl rfl rfl ⟨rfl, rfl, rfl, rfl, rfl⟩ rfl rfl rfl rfl rfl (by kernel_rfl) Try.func4 (by kernel_rfl)
    (of_decide_eq_true (by kernel_rfl)) (by unfold Func.isWrapper; rw [if_neg (of_decide_eq_false (by kernel_rfl))]; exact ⟨rfl, rfl⟩)
    (fun os started H enc _ => lifted os started H enc)

theorem proved : Rows.LogWholeSaid := over

end Go.Proofs.Ytpomfokpmbblkaa.logWhole
