/- FrameTorn: what is torn is found out. No condition. -/
import Derived.Test.YtipijjlajhofkaaW22
import Derived.Test.YtipijjlajhofkaaOpen3
import Derived.Test.YtipijjlajhofkaaLaw
import Derived.Test.YtipijjlajhofkaaFlat
namespace Go.Proofs.Ytipijjlajhofkaa.frameTorn
open Go.ChangeShapes Go.WideShapes Go.ChangeAt Go.RowKit Go.Joins

set_option maxRecDepth 100000 in
theorem lifted (os : Os) (started : os.Started) (H : Type) (enc : TypeId × Value → H) :
    ReturnsInHanded {} Try.checked os 6 .any (Rows.frameTornSpec.pre6 enc Try.prog Try.f6 Rows.frameTornRow.domain false) (Rows.frameTornSpec.post enc Try.prog Try.f6 false true false false) := by
  refine returnsInHanded_of_change (C := Try.checked) own started (by kernel_rfl) Try.func6
    (ChangeSpec.witness6 (enc := enc) (C := Try.checked) false ⟨#[], #[.int .i64 0, .bool false, .agg #[.int .i64 0, .slice none 0 0, .int .i64 0, .int .i64 0, .slice none 0 0, .int .i64 0, .int .i64 0, .slice none 0 0, .int .i64 0]], []⟩ 8 (by kernel_rfl) (by kernel_rfl) (by kernel_rfl) (by kernel_rfl)) ?_
  intro W base args ds gs before hval0 hW _ _
  have hval : ∀ (j : Nat) t v, Try.f6.params[j]? = some t → args[j]? = some v → Value.okWide Try.prog W .any base t v := hval0
  have hW' := hW
  obtain ⟨p, q, hA0, hV, rfl, _, _⟩ := hW
  have hA : DataW.TrodAll enc Try.prog W 0 (fun _ => true) true Try.f6.params.toList args.toList ds p := hA0
  rw [Try.params6] at hA hval
  obtain ⟨v0, v1, v2, d0, d1, d2, p0, p1, p2, rfl, rfl, rfl, h0, h1, h2⟩ := trodAll_three hA
  obtain ⟨rfl, rfl⟩ := trodVars_none hV
  obtain ⟨n, rfl, rfl, rfl, w0⟩ := open_int Try.underlying3 (hval 0 3 v0 rfl rfl) h0
  have b0 := bounds_i64 w0
  obtain ⟨z, rfl, rfl, rfl⟩ := open_bool Try.underlying4 (hval 1 4 v1 rfl rfl) h1
  obtain ⟨cs2, rfl, hc2⟩ := open_flat (l := [3, 22, 3, 3, 22, 3, 3, 22, 3]) 10 (by kernel_rfl) (.inr ⟨_, _, Try.underlying41⟩) (hval 2 41 v2 rfl rfl) h2
  obtain ⟨m0, _, rfl, -, hc2⟩ := hc2.int Try.underlying3
  obtain ⟨A0, l0, c0, _, rfl, -, r0, hc2⟩ := hc2.bytes
  obtain ⟨q0, _, rfl, -, hc2⟩ := hc2.int Try.underlying3
  obtain ⟨m1, _, rfl, -, hc2⟩ := hc2.int Try.underlying3
  obtain ⟨A1, l1, c1, _, rfl, -, r1, hc2⟩ := hc2.bytes
  obtain ⟨q1, _, rfl, -, hc2⟩ := hc2.int Try.underlying3
  obtain ⟨m2, _, rfl, -, hc2⟩ := hc2.int Try.underlying3
  obtain ⟨A2, l2, c2, _, rfl, -, r2, hc2⟩ := hc2.bytes
  obtain ⟨q2, _, rfl, -, hc2⟩ := hc2.int Try.underlying3
  obtain rfl := hc2.nil

  clear hA0 hval0
  refine (Torn_any n z (fun k => match k with | 0 => m0 | 1 => m1 | _ => m2) (fun k => match k with | 0 => q0 | 1 => q1 | _ => q2) (fun k => match k with | 0 => A0 | 1 => A1 | _ => A2) (fun k => match k with | 0 => l0 | 1 => l1 | _ => l2) (fun k => match k with | 0 => c0 | 1 => c1 | _ => c2) W (fun k hk => match k, hk with | 0, _ => r0 | 1, _ => r1 | 2, _ => r2)).mono fun e W' ⟨he, hb⟩ => ?_
  subst he
  refine ⟨_, rfl, law_post laidOut (tb := 4) (by kernel_rfl) Try.underlying4 rfl (by kernel_rfl) hW' hb rfl⟩

theorem over : Rows.frameTornRow.holds Try.pinned (OpenSpec.ofChange Rows.frameTornSpec) :=
  OpenClaim.holds_of_wide 6 Try.f6 rfl rfl rfl rfl rfl rfl rfl ⟨rfl, rfl, rfl, rfl, rfl⟩ rfl rfl rfl rfl rfl (by kernel_rfl) Try.func6 (by kernel_rfl)
    (of_decide_eq_true (by kernel_rfl)) (by unfold Func.isWrapper; rw [if_neg (of_decide_eq_false (by kernel_rfl))]; exact ⟨rfl, rfl⟩)
    (fun os started H enc _ => lifted os started H enc)

theorem proved : Rows.FrameTornSaid := over

end Go.Proofs.Ytipijjlajhofkaa.frameTorn
