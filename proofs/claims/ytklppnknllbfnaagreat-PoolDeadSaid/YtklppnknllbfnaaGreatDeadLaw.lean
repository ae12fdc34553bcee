/- PoolDead: a pool whose disk went down is dead. No condition. -/
import Derived.Test.YtklppnknllbfnaaGreatC9
import Derived.Test.YtklppnknllbfnaaGreatOpen
import Derived.Test.YtklppnknllbfnaaGreatLaw
import Derived.Test.YtklppnknllbfnaaGreatFlat
namespace Go.Proofs.YtklppnknllbfnaaGreat.poolDead
open Go.ChangeShapes Go.WideShapes Go.ChangeAt Go.RowKit Go.Joins

set_option maxRecDepth 100000 in
theorem lifted (os : Os) (started : os.Started) (H : Type) (enc : TypeId × Value → H) :
    ReturnsInHanded {} Tryz.checked os 7 .any (Rows.poolDeadSpec.pre6 enc Tryz.prog Tryz.f7 Rows.poolDeadRow.domain false) (Rows.poolDeadSpec.post enc Tryz.prog Tryz.f7 false true false false) := by
  refine returnsInHanded_of_change (C := Tryz.checked) noKnob started (by kernel_rfl) Tryz.func7
    (ChangeSpec.witness6 (enc := enc) (C := Tryz.checked) false ⟨#[], #[.slice none 0 0, .agg #[.int .i64 0, .int .i64 0, .int .i64 0, .int .u8 0]], []⟩ 8 (by kernel_rfl) (by kernel_rfl) (by kernel_rfl) (by kernel_rfl)) ?_
  intro W base args ds gs before hval0 hW _ _
  have hval : ∀ (j : Nat) t v, Tryz.f7.params[j]? = some t → args[j]? = some v → Value.okWide Tryz.prog W .any base t v := hval0
  have hW' := hW
  obtain ⟨p, q, hA0, hV, rfl, _, _⟩ := hW
  have hA : DataW.TrodAll enc Tryz.prog W 0 (fun _ => true) true Tryz.f7.params.toList args.toList ds p := hA0
  rw [Tryz.params7] at hA hval
  obtain ⟨v0, v1, d0, d1, p0, p1, rfl, rfl, rfl, h0, h1⟩ := trodAll_two hA
  obtain ⟨rfl, rfl⟩ := trodVars_none hV
  obtain ⟨A0, l0, n0, c0, rfl, hn0, r0⟩ := open_acts (hval 0 36 v0 rfl rfl) h0
  obtain ⟨cs1, rfl, hc1⟩ := open_flat (l := [3, 3, 3, 5]) 10 (by kernel_rfl) (.inl ⟨_, Tryz.underlying39⟩) (hval 1 39 v1 rfl rfl) h1
  obtain ⟨k, _, rfl, wk, hc1⟩ := hc1.int Tryz.underlying3
  obtain ⟨pg, _, rfl, wpg, hc1⟩ := hc1.int Tryz.underlying3
  obtain ⟨ln, _, rfl, wln, hc1⟩ := hc1.int Tryz.underlying3
  obtain ⟨bz, _, rfl, wb, hc1⟩ := hc1.int Tryz.underlying5
  obtain rfl := hc1.nil
  have b0 : 0 ≤ bz ∧ bz < 256 := by
    simp [Lit.wf, IntKind.min, IntKind.max, IntKind.signed, IntKind.bits] at wb
    omega
  obtain ⟨B, rfl⟩ := Int.eq_ofNat_of_zero_le b0.1

  clear hA0 hval0
  refine (Dead_law A0 l0 n0 c0 k pg ln B (by omega) W hn0 r0).mono fun e W' ⟨he, hb⟩ => ?_
  subst he
  refine ⟨_, rfl, law_post laidOut (tb := 4) (by kernel_rfl) Tryz.underlying4 rfl (by kernel_rfl) hW' hb rfl⟩

theorem over : Rows.poolDeadRow.holds Tryz.pinned (OpenSpec.ofChange Rows.poolDeadSpec) :=
  OpenClaim.holds_of_wide 7 Tryz.f7 rfl rfl rfl rfl rfl rfl rfl ⟨rfl, rfl, rfl, rfl, rfl⟩ rfl rfl rfl rfl rfl (by kernel_rfl) Tryz.func7 (by kernel_rfl)
    (of_decide_eq_true (by kernel_rfl)) (by unfold Func.isWrapper; rw [if_neg (of_decide_eq_false (by kernel_rfl))]; exact ⟨rfl, rfl⟩)
    (fun os started H enc _ => lifted os started H enc)

theorem proved : Rows.PoolDeadSaid := over

end Go.Proofs.YtklppnknllbfnaaGreat.poolDead
