/- WideTurns: sums do not hang on which comes first, what is added can be taken away, turned twice a number is itself. No condition. -/
import Derived.Test.YtogghmmokifnnaaW4
import Derived.Test.YtogghmmokifnnaaLaw
import Derived.Test.YtogghmmokifnnaaFlat
namespace Go.Proofs.Ytogghmmokifnnaa.wideTurns
open Go.ChangeShapes Go.WideShapes Go.ChangeAt Go.RowKit Go.Joins

theorem add_comm (a b : Nat) : M.addN a b = M.addN b a := by unfold M.addN; omega
theorem add_assoc (a b c : Nat) : M.addN (M.addN a b) c = M.addN a (M.addN b c) := by unfold M.addN; omega
theorem add_sub (a b : Nat) (ha : a < 340282366920938463463374607431768211456) : M.subN (M.addN a b) b = a := by unfold M.addN M.subN; omega
theorem sub_sub (a : Nat) (ha : a < 340282366920938463463374607431768211456) : M.subN 0 (M.subN 0 a) = a := by unfold M.subN; omega
theorem add_neg (a : Nat) : M.addN a (M.subN 0 a) = 0 := by unfold M.addN M.subN; omega

theorem walk (a b c : Nat) (ha : a < 340282366920938463463374607431768211456) (hb : b < 340282366920938463463374607431768211456) (w : World) :
    Calls Try.prog 3 #[W a, W b, W c] w fun e w' => e = .returned (.bool true) ∧ Below w.heap.size w w' := by
  have k0 : -1 ≤ M.cmpZ (M.valZ a) (M.valZ b) ∧ M.cmpZ (M.valZ a) (M.valZ b) ≤ 1 := by unfold M.cmpZ; split <;> (try split) <;> omega
  refine WideTurns_road _ _ _ _ _ _ _ _ _ _ _ _ _ _ _ k0.1 k0.2 (Plus_any a b) (fun w => ?_) (Plus_any (M.addN a b) c) (Plus_any b c) (fun w => ?_) (fun w => ?_) (fun w => ?_) (Turned_any a) (fun w => ?_) (Compare_any a b ha hb) (fun w => ?_) (fun w => ?_) (fun w => ?_) w
  · have := Plus_any b a w
    rw [add_comm b a] at this
    exact this
  · have := Plus_any a (M.addN b c) w
    rw [← add_assoc] at this
    exact this
  · have := Plus_any a (M.subN 0 a) w
    rw [add_neg a] at this
    exact this
  · have := Less_any (M.addN a b) b w
    rw [add_sub a b ha] at this
    exact this
  · have := Turned_any (M.subN 0 a) w
    rw [sub_sub a ha] at this
    exact this
  · have := Compare_any b a hb ha w
    rw [M.cmpZ_neg] at this
    exact this
  · exact Of_any 7 (by decide) (by decide) w
  · exact Sign_any 7 (by decide) w

set_option maxRecDepth 100000 in
theorem lifted (os : Os) (started : os.Started) (H : Type) (enc : TypeId × Value → H) :
    ReturnsInHanded {} Try.checked os 3 .any (Rows.wideTurnsSpec.pre6 enc Try.prog Try.f3 Rows.wideTurnsRow.domain false) (Rows.wideTurnsSpec.post enc Try.prog Try.f3 false true false false) := by
  refine returnsInHanded_of_change (C := Try.checked) own started (by kernel_rfl) Try.func3
    (ChangeSpec.witness6 (enc := enc) (C := Try.checked) false ⟨#[], #[.agg #[.int .i64 0, .int .u64 0], .agg #[.int .i64 0, .int .u64 0], .agg #[.int .i64 0, .int .u64 0]], []⟩ 8 (by kernel_rfl) (by kernel_rfl) (by kernel_rfl) (by kernel_rfl)) ?_
  intro W base args ds gs before hval0 hW _ _
  have hval : ∀ (j : Nat) t v, Try.f3.params[j]? = some t → args[j]? = some v → Value.okWide Try.prog W .any base t v := hval0
  have hW' := hW
  obtain ⟨p, q, hA0, hV, rfl, _, _⟩ := hW
  have hA : DataW.TrodAll enc Try.prog W 0 (fun _ => true) true Try.f3.params.toList args.toList ds p := hA0
  rw [Try.params3] at hA hval
  obtain ⟨v0, v1, v2, d0, d1, d2, p0, p1, p2, rfl, rfl, rfl, h0, h1, h2⟩ := trodAll_three hA
  obtain ⟨rfl, rfl⟩ := trodVars_none hV
  obtain ⟨cs0, rfl, hc0⟩ := open_flat (l := [2, 22]) 10 (by kernel_rfl) (.inl ⟨_, Try.underlying24⟩) (hval 0 24 v0 rfl rfl) h0
  obtain ⟨ha', _, rfl, wha, hc0⟩ := hc0.int Try.underlying2
  obtain ⟨la', _, rfl, wla, hc0⟩ := hc0.int Try.underlying22
  obtain rfl := hc0.nil
  have bha := bounds_i64 wha
  have bla := bounds_u64 wla
  obtain ⟨a, ba, rfl, rfl⟩ := M.halves ha' la' bha.1 bha.2 bla.1 bla.2
  obtain ⟨cs1, rfl, hc1⟩ := open_flat (l := [2, 22]) 10 (by kernel_rfl) (.inl ⟨_, Try.underlying24⟩) (hval 1 24 v1 rfl rfl) h1
  obtain ⟨hb', _, rfl, whb, hc1⟩ := hc1.int Try.underlying2
  obtain ⟨lb', _, rfl, wlb, hc1⟩ := hc1.int Try.underlying22
  obtain rfl := hc1.nil
  have bhb := bounds_i64 whb
  have blb := bounds_u64 wlb
  obtain ⟨b, bb, rfl, rfl⟩ := M.halves hb' lb' bhb.1 bhb.2 blb.1 blb.2
  obtain ⟨cs2, rfl, hc2⟩ := open_flat (l := [2, 22]) 10 (by kernel_rfl) (.inl ⟨_, Try.underlying24⟩) (hval 2 24 v2 rfl rfl) h2
  obtain ⟨hc', _, rfl, whc, hc2⟩ := hc2.int Try.underlying2
  obtain ⟨lc', _, rfl, wlc, hc2⟩ := hc2.int Try.underlying22
  obtain rfl := hc2.nil
  have bhc := bounds_i64 whc
  have blc := bounds_u64 wlc
  obtain ⟨c, bc, rfl, rfl⟩ := M.halves hc' lc' bhc.1 bhc.2 blc.1 blc.2

  clear hA0 hval0
  refine (walk a b c ba bb W).mono fun e W' ⟨he, hb⟩ => ?_
  subst he
  refine ⟨_, rfl, law_post laidOut (tb := 4) (by kernel_rfl) Try.underlying4 rfl (by kernel_rfl) hW' hb rfl⟩

theorem over : Rows.wideTurnsRow.holds Try.pinned (OpenSpec.ofChange Rows.wideTurnsSpec) :=
  OpenClaim.holds_of_wide 3 Try.f3 rfl rfl rfl rfl rfl rfl rfl ⟨rfl, rfl, rfl, rfl, rfl⟩ rfl rfl rfl rfl rfl (by kernel_rfl) Try.func3 (by kernel_rfl)
    (of_decide_eq_true (by kernel_rfl)) (by unfold Func.isWrapper; rw [if_neg (of_decide_eq_false (by kernel_rfl))]; exact ⟨rfl, rfl⟩)
    (fun os started H enc _ => lifted os started H enc)

theorem proved : Rows.WideTurnsSaid := over

end Go.Proofs.Ytogghmmokifnnaa.wideTurns
