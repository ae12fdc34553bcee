/- HashBack: a place is told by its number and a number by its place. No condition. -/
import Derived.Test.YthinjaddebfdhaaW8
import Derived.Test.YthinjaddebfdhaaLaw
namespace Go.Proofs.Ythinjaddebfdhaa.hashBack
open Go.ChangeShapes Go.WideShapes Go.ChangeAt Go.RowKit Go.Joins

/-! ### The plain law -/
theorem codeN_lt (x y : Int) : codeN x y < 18446744073709551616 := by
  have h1 := M.spr_lt3 32 (x + 1800000000).toNat
  have h2 := M.spr_lt3 32 (y + 900000000).toNat
  unfold codeN
  omega
theorem place_code (x y : Int) (h : mayB x y = true) : placeX (codeN x y) = x ∧ placeY (codeN x y) = y := by
  obtain ⟨⟨a1, a2⟩, a3, a4⟩ := mayB_iff.1 h
  unfold placeX placeY codeN
  rw [M.gat_mix, M.gat_mix', Nat.mod_eq_of_lt (by omega), Nat.mod_eq_of_lt (by omega)]
  omega
theorem code_place (n : Nat) (hn : n < 18446744073709551616) : codeN (placeX n) (placeY n) = n := by
  unfold placeX placeY codeN
  have e1 : ((M.gat 32 (n / 2) : Int) - 1800000000 + 1800000000).toNat = M.gat 32 (n / 2) := by omega
  have e2 : ((M.gat 32 n : Int) - 900000000 + 900000000).toNat = M.gat 32 n := by omega
  rw [e1, e2, M.mix_gat, Nat.mod_eq_of_lt (by omega)]

theorem walk (x y x2 y2 : Int) (n : Nat) (hn : n < 18446744073709551616) (w : World) :
    Calls Try.prog 4 #[.agg #[.int .i64 x, .int .i64 y], .agg #[.int .i64 x2, .int .i64 y2], .int .u64 n] w fun e w' => e = .returned (.bool true) ∧ Below w.heap.size w w' := by
  obtain ⟨A, hA, hlt⟩ : ∃ A : Nat, codeV x y = A ∧ A < 18446744073709551616 := by
    unfold codeV
    cases mayB x y
    · exact ⟨0, rfl, by decide⟩
    · exact ⟨codeN x y, rfl, codeN_lt x y⟩
  refine HashBack_road x y x2 y2 n (codeV x y) (codeV x2 y2) (codeV (plcX n) (plcY n)) (mayB x y) (mayB x2 y2) (plcB n) (mayB (plcX n) (plcY n)) (plcB A) (plcX A) (plcY A) (plcX n) (plcY n)
    (Code_any x y) (Code_any x2 y2) (may_any x y) ?_ (Place_any n hn) (Code_any _ _) ?_ ?_ ?_ w
  · rw [hA]; exact Place_any A hlt
  · cases h1 : mayB x y
    · exact .inl rfl
    cases h2 : mayB x2 y2
    · exact .inr (.inl rfl)
    refine .inr (.inr ?_)
    simp only [codeV, h1, h2, if_true]
    by_cases hx : x = x2 ∧ y = y2
    · obtain ⟨rfl, rfl⟩ := hx
      exact .inl ⟨rfl, rfl, rfl⟩
    · refine .inr ⟨?_, hx⟩
      rw [beq_eq_false_iff_ne]
      intro he
      have he' : codeN x y = codeN x2 y2 := by omega
      have p1 := place_code x y h1
      have p2 := place_code x2 y2 h2
      rw [he'] at p1
      exact hx ⟨p1.1.symm.trans p2.1, p1.2.symm.trans p2.2⟩
  · cases h1 : mayB x y
    · exact .inl rfl
    refine .inr ?_
    have hc : A = codeN x y := by
      simp only [codeV, h1, if_true] at hA
      omega
    obtain ⟨p1, p2⟩ := place_code x y h1
    rw [hc]
    have e1 : plcB (codeN x y) = true := by unfold plcB; rw [p1, p2]; exact h1
    have e2 : plcX (codeN x y) = x := by unfold plcX; rw [p1, p2, h1]; rfl
    have e3 : plcY (codeN x y) = y := by unfold plcY; rw [p1, p2, h1]; rfl
    exact ⟨e1, e2, e3⟩
  · cases h1 : plcB n
    · exact .inl rfl
    refine .inr ?_
    unfold plcB at h1
    have e2 : plcX n = placeX n := by unfold plcX; rw [h1]; rfl
    have e3 : plcY n = placeY n := by unfold plcY; rw [h1]; rfl
    rw [e2, e3]
    exact ⟨h1, by unfold codeV; rw [h1, if_pos rfl, code_place n hn]⟩

theorem cells23 : Try.prog.cellsOf 23 = 2 := by kernel_rfl

set_option maxRecDepth 100000 in
theorem lifted (os : Os) (started : os.Started) (H : Type) (enc : TypeId × Value → H) :
    ReturnsInHanded {} Try.checked os 4 .any (Rows.hashBackSpec.pre6 enc Try.prog Try.f4 Rows.hashBackRow.domain false) (Rows.hashBackSpec.post enc Try.prog Try.f4 false true false false) := by
  refine returnsInHanded_of_change (C := Try.checked) own started (by kernel_rfl) Try.func4
    (ChangeSpec.witness6 (enc := enc) (C := Try.checked) false ⟨#[], #[.agg #[.int .i64 0, .int .i64 0], .agg #[.int .i64 0, .int .i64 0], .int .u64 0], []⟩ 8 (by kernel_rfl) (by kernel_rfl) (by kernel_rfl) (by kernel_rfl)) ?_
  intro W base args ds gs before hval0 hW _ _
  have hval : ∀ (j : Nat) t v, Try.f4.params[j]? = some t → args[j]? = some v → Value.okWide Try.prog W .any base t v := hval0
  have hW' := hW
  obtain ⟨p, q, hA0, hV, rfl, _, _⟩ := hW
  have hA : DataW.TrodAll enc Try.prog W 0 (fun _ => true) true Try.f4.params.toList args.toList ds p := hA0
  rw [Try.params4] at hA hval
  obtain ⟨v0, v1, v2, d0, d1, d2, p0, p1, p2, rfl, rfl, rfl, h0, h1, h2⟩ := trodAll_three hA
  obtain ⟨rfl, rfl⟩ := trodVars_none hV
  obtain ⟨c0, c1, y0, y1, m, rfl, rfl, rfl, hy0, hy1⟩ := open_agg2 Try.underlying23 (by kernel_rfl) cells23 (hval 0 23 v0 rfl rfl) h0
  obtain ⟨x, e0, rfl, wx⟩ := DataW.trod_int Try.underlying2 hy0
  obtain ⟨y, e1, rfl, wy⟩ := DataW.trod_int Try.underlying2 hy1
  simp at e0 e1
  subst e0 e1
  obtain ⟨c2, c3, y2, y3, m2, rfl, rfl, rfl, hy2, hy3⟩ := open_agg2 Try.underlying23 (by kernel_rfl) cells23 (hval 1 23 v1 rfl rfl) h1
  obtain ⟨x2, e2, rfl, wx2⟩ := DataW.trod_int Try.underlying2 hy2
  obtain ⟨z2, e3, rfl, wy2⟩ := DataW.trod_int Try.underlying2 hy3
  simp at e2 e3
  subst e2 e3
  obtain ⟨n, rfl, rfl, rfl, wn⟩ := open_int Try.underlying24 (hval 2 24 v2 rfl rfl) h2
  clear hA0 hval0
  have bn := bounds_u64 wn
  obtain ⟨N, rfl⟩ := Int.eq_ofNat_of_zero_le bn.1
  refine (walk x y x2 z2 N (by omega) W).mono fun e W' ⟨he, hb⟩ => ?_
  subst he
  refine ⟨_, rfl, law_post laidOut (tb := 4) (by kernel_rfl) Try.underlying4 rfl (by kernel_rfl) hW' hb rfl⟩

theorem over : Rows.hashBackRow.holds Try.pinned (OpenSpec.ofChange Rows.hashBackSpec) :=
  OpenClaim.holds_of_wide 4 Try.f4 rfl rfl rfl rfl rfl rfl rfl ⟨rfl, rfl, rfl, rfl, rfl⟩ rfl rfl rfl rfl rfl (by kernel_rfl) Try.func4 (by kernel_rfl)
    (of_decide_eq_true (by kernel_rfl)) (by unfold Func.isWrapper; rw [if_neg (of_decide_eq_false (by kernel_rfl))]; exact ⟨rfl, rfl⟩)
    (fun os started H enc _ => lifted os started H enc)

theorem proved : Rows.HashBackSaid := over

end Go.Proofs.Ythinjaddebfdhaa.hashBack
