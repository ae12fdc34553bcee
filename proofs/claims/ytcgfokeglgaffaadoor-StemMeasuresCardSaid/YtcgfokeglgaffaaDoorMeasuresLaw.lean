/- StemMeasures: the measure of any letters is the document's. Where the four listed variables of Go's library hold what their text lays (the card ties that). -/
import Derived.Test.YtcgfokeglgaffaaDoorW16
import Derived.ChangeMaps5
import Derived.Test.YtcgfokeglgaffaaDoorLaid
namespace Go.Proofs.YtcgfokeglgaffaaDoor.stemMeasures
open Go.ChangeShapes Go.WideShapes Go.ChangeAt Go.RowKit Go.Joins

theorem witness_row (os : Os) {H : Type} (enc : TypeId × Value → H) :
    (OpenSpec.ofChange Rows.stemMeasuresSpec).preRow enc Tryd.prog Tryd.f3 Rows.stemMeasuresRow.domain false Rows.stemMeasuresRow.laid ((laidWorld os).forCall (fun _ _ => 0) ⟨#[], #[.string ⟨#[]⟩], []⟩).memory #[.string ⟨#[]⟩] := by
  have hw : (DataW.whole enc Tryd.prog ((laidWorld os).forCall (fun _ _ => 0) ⟨#[], #[.string ⟨#[]⟩], []⟩).memory Tryd.f3.params.toList (OpenSpec.ofChange Rows.stemMeasuresSpec).vars false #[(.string ⟨#[]⟩ : Value)].toList 8).map (fun x => (x.1, x.2.1)) =
      some ([.lit (.string [])], []) := by kernel_rfl
  obtain ⟨⟨x1, x2, x3⟩, hx, hx1⟩ := Option.map_eq_some_iff.1 hw
  simp only [Prod.mk.injEq] at hx1
  obtain ⟨rfl, rfl⟩ := hx1
  exact OpenSpec.preRow_of_cond 8 hx (by kernel_rfl) (fun k hk => by cases hk) (by kernel_rfl) (laid_met os _)

set_option maxRecDepth 100000 in
theorem lifted (os : Os) (started : os.Started) (H : Type) (enc : TypeId × Value → H) (F : Stop.Interp) :
    ReturnsInHanded {} Tryd.checked os 3 .any ((OpenSpec.ofChange Rows.stemMeasuresSpec).preRow enc Tryd.prog Tryd.f3 Rows.stemMeasuresRow.domain false Rows.stemMeasuresRow.laid) (((OpenSpec.ofChange Rows.stemMeasuresSpec).at F).post enc Tryd.prog Tryd.f3 false true false false) := by
  refine returnsInHanded_of_row (C := Tryd.checked) (s := OpenSpec.ofChange Rows.stemMeasuresSpec) noKnob started (by kernel_rfl) Tryd.func3
    (witness_row_atRef (enc := enc) (C := Tryd.checked) false (laidWorld os) #[.string ⟨#[]⟩] rfl (by kernel_rfl) (by kernel_rfl) (by kernel_rfl) (witness_row os enc)) ?_
  intro W base args ds gs before hval0 hW _ _ _ hL _ _
  have hval : ∀ (j : Nat) t v, Tryd.f3.params[j]? = some t → args[j]? = some v → Value.okWide Tryd.prog W .any base t v := hval0
  have hW' := hW
  obtain ⟨p, q, hA0, hV, rfl, _, _⟩ := hW
  have hA : DataW.TrodAll enc Tryd.prog W 0 (fun _ => true) true Tryd.f3.params.toList args.toList ds p := hA0
  rw [Tryd.params3] at hA hval
  obtain ⟨v0, d0, rfl, rfl, h0⟩ := trodAll_one hA
  obtain ⟨rfl, rfl⟩ := trodVars_none hV
  obtain ⟨s, rfl, rfl, rfl, w0⟩ := Go.ChangeMaps.open_string Tryd.underlying9 (hval 0 9 v0 rfl rfl) h0
  clear w0
  clear hA0 hval0
  refine (Measures_any s W (tab_of hL)).mono fun e W' ⟨he, hb⟩ => ?_
  subst he
  refine ⟨_, rfl, law_post laidOut (s := (OpenSpec.ofChange Rows.stemMeasuresSpec).at F) (tb := 4) (by kernel_rfl) Tryd.underlying4 rfl (by kernel_rfl) hW' hb rfl⟩

theorem over : Rows.StemMeasuresSaid :=
  OpenClaim.holds_of_cond 3 Tryd.f3 rfl rfl rfl rfl rfl rfl rfl ⟨rfl, rfl, rfl, rfl, rfl⟩ rfl rfl rfl rfl rfl (by kernel_rfl) Tryd.func3 (by kernel_rfl)
    (of_decide_eq_true (by kernel_rfl)) (by unfold Func.isWrapper; rw [if_neg (of_decide_eq_false (by kernel_rfl))]; exact ⟨rfl, rfl⟩)
    (fun os started H enc _ F0 => by rw [OpenClaim.pre_eq_preRow]; exact lifted os started H enc F0)

theorem fn_is : Tryd.prog.funcNamed "waywiser/waywiserlaw16.StemMeasures" = some 3 := by kernel_rfl
theorem all_in : ∀ t ∈ Tryd.f3.params.toList, Tryd.prog.wantsStandIn t = false := by
  intro t ht
  have h : Tryd.f3.params.toList.all (fun t => !Tryd.prog.wantsStandIn t) = true := by kernel_rfl
  simpa using List.all_eq_true.1 h t ht
theorem proved : Rows.StemMeasuresCardSaid :=
  Claim7.holds_tied_plain_at .later [] [.data, .listed, .data, .pinned] true (true, "b6662cc7e17c3324085b9c311cfad4ddc9079cf83a2ff3da89dbd256d0f74b7c") false
    over (fun _ h => by cases h) (by kernel_rfl) (fun _ h => by cases h) stemMeasures_row_tie rfl ⟨rfl, rfl⟩ (by kernel_rfl) rfl
    (fun f fn hf hfn => by
      obtain rfl : f = 3 := Option.some.inj (fn_is.symm.trans hf) |>.symm
      obtain rfl : fn = Tryd.f3 := (Option.some.inj (Tryd.func3.symm.trans hfn)).symm
      exact ⟨by kernel_rfl, fun j t ht => all_in t (by
        rw [← Array.getElem?_toList] at ht
        exact List.mem_of_getElem? ht)⟩)
    (by kernel_rfl)

end Go.Proofs.YtcgfokeglgaffaaDoor.stemMeasures
