/- LogAppends: what is appended, slot by slot, byte by byte. No condition. -/
import Derived.Test.YtpomfokpmbblkaaA16
import Derived.Test.YtpomfokpmbblkaaOpen
import Derived.Test.YtpomfokpmbblkaaLaw
import Derived.Test.YtpomfokpmbblkaaFlat
namespace Go.Proofs.Ytpomfokpmbblkaa.logAppends
open Go.ChangeShapes Go.WideShapes Go.ChangeAt Go.RowKit Go.Joins

set_option maxRecDepth 100000 in
theorem lifted (os : Os) (started : os.Started) (H : Type) (enc : TypeId × Value → H) :
    ReturnsInHanded {} Try.checked os 3 .any (Rows.logAppendsSpec.pre6 enc Try.prog Try.f3 Rows.logAppendsRow.domain false) (Rows.logAppendsSpec.post enc Try.prog Try.f3 false true false false) := by
  refine returnsInHanded_of_change (C := Try.checked) noKnob started (by kernel_rfl) Try.func3
    (ChangeSpec.witness6 (enc := enc) (C := Try.checked) false ⟨#[], #[.agg #[.int .u8 0, .int .i64 0, .int .i64 0, .int .i64 0, .slice none 0 0]], []⟩ 8 (by kernel_rfl) (by kernel_rfl) (by kernel_rfl) (by kernel_rfl)) ?_
  intro W base args ds gs before hval0 hW _ _
  have hval : ∀ (j : Nat) t v, Try.f3.params[j]? = some t → args[j]? = some v → Value.okWide Try.prog W .any base t v := hval0
  have hW' := hW
  obtain ⟨p, q, hA0, hV, rfl, _, _⟩ := hW
  have hA : DataW.TrodAll enc Try.prog W 0 (fun _ => true) true Try.f3.params.toList args.toList ds p := hA0
  rw [Try.params3] at hA hval
  obtain ⟨v0, d0, rfl, rfl, h0⟩ := trodAll_one hA
  obtain ⟨rfl, rfl⟩ := trodVars_none hV
  obtain ⟨cs0, rfl, hc0⟩ := open_flat (l := [5, 3, 3, 3, 22]) 10 (by kernel_rfl) (.inl ⟨_, Try.underlying24⟩) (hval 0 24 v0 rfl rfl) h0
  obtain ⟨z, _, rfl, wz, hc0⟩ := hc0.int Try.underlying5
  obtain ⟨f, _, rfl, wf, hc0⟩ := hc0.int Try.underlying3
  obtain ⟨c, _, rfl, wc, hc0⟩ := hc0.int Try.underlying3
  obtain ⟨e, _, rfl, we, hc0⟩ := hc0.int Try.underlying3
  obtain ⟨A1, l1, n1, c1, _, rfl, hn1, r1, hc0⟩ := hc0.rows
  obtain rfl := hc0.nil
  have bf := bounds_i64 wf
  have bc := bounds_i64 wc
  have bz : 0 ≤ z ∧ z < 256 := by
    simp [Lit.wf, IntKind.min, IntKind.max, IntKind.signed, IntKind.bits] at wz
    omega
  obtain ⟨mo, rfl⟩ := Int.eq_ofNat_of_zero_le bz.1

  clear hA0 hval0
  refine (Appends_any A1 l1 n1 c1 mo f c e W hn1 r1 (by omega) (by omega) (by omega)).mono fun e W' ⟨he, hb⟩ => ?_
  subst he
  refine ⟨_, rfl, law_post laidOut (tb := 4) (by kernel_rfl) Try.underlying4 rfl (by kernel_rfl) hW' hb rfl⟩

theorem over : Rows.logAppendsRow.holds Try.pinned (OpenSpec.ofChange Rows.logAppendsSpec) :=
  OpenClaim.holds_of_wide 3 Try.f3 rfl rfl rfl rfl rfl rfl rfl ⟨rfl, rfl, rfl, rfl, rfl⟩ rfl rfl rfl rfl rfl (by kernel_rfl) Try.func3 (by kernel_rfl)
    (of_decide_eq_true (by kernel_rfl)) (by unfold Func.isWrapper; rw [if_neg (of_decide_eq_false (by kernel_rfl))]; exact ⟨rfl, rfl⟩)
    (fun os started H enc _ => lifted os started H enc)

theorem proved : Rows.LogAppendsSaid := over

end Go.Proofs.Ytpomfokpmbblkaa.logAppends
