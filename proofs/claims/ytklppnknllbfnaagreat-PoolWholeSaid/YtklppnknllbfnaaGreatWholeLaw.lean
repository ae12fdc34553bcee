/- PoolWhole: wherever the disk goes down, also while the pool is opened behind it, the pool opened at last is as at the last commit that was told, or as the one more that was not, whole. No condition. -/
import Derived.Test.YtklppnknllbfnaaGreatQP
import Derived.Test.YtklppnknllbfnaaGreatOpen
import Derived.Test.YtklppnknllbfnaaGreatLaw
import Derived.Test.YtklppnknllbfnaaGreatFlat
namespace Go.Proofs.YtklppnknllbfnaaGreat.poolWhole
open Go.ChangeShapes Go.WideShapes Go.ChangeAt Go.RowKit Go.Joins
set_option maxRecDepth 100000 in
theorem lifted (os : Os) (started : os.Started) (H : Type) (enc : TypeId × Value → H) :
  ReturnsInHanded {} Tryz.checked os 8 .any (Rows.poolWholeSpec.pre6 enc Tryz.prog Tryz.f8 Rows.poolWholeRow.domain false) (Rows.poolWholeSpec.post enc Tryz.prog Tryz.f8 false true false false) := by
 refine returnsInHanded_of_change (C := Tryz.checked) noKnob started (by kernel_rfl) Tryz.func8
  (ChangeSpec.witness6 (enc := enc) (C := Tryz.checked) false ⟨#[], #[.agg #[.slice none 0 0, .int .i64 0, .slice none 0 0, .int .i64 0, .slice none 0 0]], []⟩ 8 (by kernel_rfl) (by kernel_rfl) (by kernel_rfl) (by kernel_rfl)) ?_
 intro W base args ds gs before hval0 hW _ _
 have hval : ∀ (j : Nat) t v, Tryz.f8.params[j]? = some t → args[j]? = some v → Value.okWide Tryz.prog W .any base t v := hval0
 have hW' := hW
 obtain ⟨p, q, hA0, hV, rfl, _, _⟩ := hW
 have hA : DataW.TrodAll enc Tryz.prog W 0 (fun _ => true) true Tryz.f8.params.toList args.toList ds p := hA0
 rw [Tryz.params8] at hA hval
 obtain ⟨v0, d0, rfl, rfl, h0⟩ := trodAll_one hA
 obtain ⟨rfl, rfl⟩ := trodVars_none hV
 obtain ⟨cs0, rfl, hc0⟩ := open_flat (l := [36, 3, 43, 3, 43]) 10 (by kernel_rfl) (.inl ⟨_, Tryz.underlying70⟩) (hval 0 70 v0 rfl rfl) h0
 obtain ⟨A0, l0, n0, c0, _, rfl, hn0, r0, hc0⟩ := hc0.acts
 obtain ⟨dn, _, rfl, wd, hc0⟩ := hc0.int Tryz.underlying3
 obtain ⟨A1, fs, c1, _, rfl, hl1, hf1, _, hc0⟩ := hc0.ints
 obtain ⟨ag, _, rfl, wa, hc0⟩ := hc0.int Tryz.underlying3
 obtain ⟨A2, gs, c2, _, rfl, hl2, hf2, _, hc0⟩ := hc0.ints
 obtain rfl := hc0.nil
 have bd := bounds_i64 wd
 have ba := bounds_i64 wa
 clear hA0 hval0
 refine (Whole_any A0 n0 c0 l0 dn A1 fs.length c1 fs ag A2 gs.length c2 gs W hn0 r0 (by omega) (by omega) ⟨rfl, hl1, hf1⟩ ⟨rfl, hl2, hf2⟩).mono fun e W' ⟨he, hb⟩ => ?_
 subst he
 refine ⟨_, rfl, law_post laidOut (tb := 4) (by kernel_rfl) Tryz.underlying4 rfl (by kernel_rfl) hW' hb rfl⟩
theorem over : Rows.poolWholeRow.holds Tryz.pinned (OpenSpec.ofChange Rows.poolWholeSpec) :=
 OpenClaim.holds_of_wide 8 Tryz.f8 rfl rfl rfl rfl rfl rfl rfl ⟨rfl, rfl, rfl, rfl, rfl⟩ rfl rfl rfl rfl rfl (by kernel_rfl) Tryz.func8 (by kernel_rfl)
  (of_decide_eq_true (by kernel_rfl)) (by unfold Func.isWrapper; rw [if_neg (of_decide_eq_false (by kernel_rfl))]; exact ⟨rfl, rfl⟩)
  (fun os started H enc _ => lifted os started H enc)
theorem proved : Rows.PoolWholeSaid := over
end Go.Proofs.YtklppnknllbfnaaGreat.poolWhole
