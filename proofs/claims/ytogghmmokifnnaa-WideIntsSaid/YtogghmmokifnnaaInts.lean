/- WideInts: a wide number is one of 64 bits just if its figures are that one's. No condition. -/
import Derived.Test.YtogghmmokifnnaaW9
import Derived.Test.YtogghmmokifnnaaLaw
import Derived.Test.YtogghmmokifnnaaFlat
namespace Go.Proofs.Ytogghmmokifnnaa.wideInts
open Go.ChangeShapes Go.WideShapes Go.ChangeAt Go.RowKit Go.Joins

set_option maxRecDepth 100000 in
theorem lifted (os : Os) (started : os.Started) (H : Type) (enc : TypeId × Value → H) :
    ReturnsInHanded {} Try.checked os 6 .any (Rows.wideIntsSpec.pre6 enc Try.prog Try.f6 Rows.wideIntsRow.domain false) (Rows.wideIntsSpec.post enc Try.prog Try.f6 false true false false) := by
  refine returnsInHanded_of_change (C := Try.checked) own started (by kernel_rfl) Try.func6
    (ChangeSpec.witness6 (enc := enc) (C := Try.checked) false ⟨#[], #[.agg #[.int .i64 0, .int .u64 0]], []⟩ 8 (by kernel_rfl) (by kernel_rfl) (by kernel_rfl) (by kernel_rfl)) ?_
  intro W base args ds gs before hval0 hW _ _
  have hval : ∀ (j : Nat) t v, Try.f6.params[j]? = some t → args[j]? = some v → Value.okWide Try.prog W .any base t v := hval0
  have hW' := hW
  obtain ⟨p, q, hA0, hV, rfl, _, _⟩ := hW
  have hA : DataW.TrodAll enc Try.prog W 0 (fun _ => true) true Try.f6.params.toList args.toList ds p := hA0
  rw [Try.params6] at hA hval
  obtain ⟨v0, d0, rfl, rfl, h0⟩ := trodAll_one hA
  obtain ⟨rfl, rfl⟩ := trodVars_none hV
  obtain ⟨cs0, rfl, hc0⟩ := open_flat (l := [2, 22]) 10 (by kernel_rfl) (.inl ⟨_, Try.underlying24⟩) (hval 0 24 v0 rfl rfl) h0
  obtain ⟨ha', _, rfl, wha, hc0⟩ := hc0.int Try.underlying2
  obtain ⟨la', _, rfl, wla, hc0⟩ := hc0.int Try.underlying22
  obtain rfl := hc0.nil
  have bha := bounds_i64 wha
  have bla := bounds_u64 wla
  obtain ⟨a, ba, rfl, rfl⟩ := M.halves ha' la' bha.1 bha.2 bla.1 bla.2

  clear hA0 hval0
  refine (Ints_any a ba W).mono fun e W' ⟨he, hb⟩ => ?_
  subst he
  refine ⟨_, rfl, law_post laidOut (tb := 4) (by kernel_rfl) Try.underlying4 rfl (by kernel_rfl) hW' hb rfl⟩

theorem over : Rows.wideIntsRow.holds Try.pinned (OpenSpec.ofChange Rows.wideIntsSpec) :=
  OpenClaim.holds_of_wide 6 Try.f6 rfl rfl rfl rfl rfl rfl rfl ⟨rfl, rfl, rfl, rfl, rfl⟩ rfl rfl rfl rfl rfl (by kernel_rfl) Try.func6 (by kernel_rfl)
    (of_decide_eq_true (by kernel_rfl)) (by unfold Func.isWrapper; rw [if_neg (of_decide_eq_false (by kernel_rfl))]; exact ⟨rfl, rfl⟩)
    (fun os started H enc _ => lifted os started H enc)

theorem proved : Rows.WideIntsSaid := over

end Go.Proofs.Ytogghmmokifnnaa.wideInts
