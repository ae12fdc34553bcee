/- Walks: GeomRings. -/
import Derived.Test.YtkneohngbkmlpaaPlain2
import Derived.Test.YtkneohngbkmlpaaRow
import Derived.Test.YtkneohngbkmlpaaW12
import Derived.Deep.RegionHeld3
namespace Go.Proofs.Ytkneohngbkmlpaa
open Go.RowKit

theorem refInside_none (A : Option Addr) (c : Nat) (p : Pt) (w : World) :
    Calls Try.prog 12 #[.slice A 0 c, pt p] w fun e w' => e = .returned (.int .i64 0) ∧ Below w.heap.size w w' := by
  obtain ⟨px, py⟩ := p
  go_enter Try.func12, Try.ntmps12
  go_wp2
  go_ret
  exact ⟨rfl, by go_grown⟩

/-- The reference's answer, of points that may be. -/
theorem refInside_any (A : Option Addr) (l : List Pt) (n c : Nat) (p : Pt) (w : World) (hn : l.length = n) (hr : Pts w w.heap.size A l) (hl : (n : Int) ≤ 1000) (hp : May p) (hm : ∀ q ∈ l, May q) :
    Calls Try.prog 12 #[.slice A n c, pt p] w fun e w' => e = .returned (.int .i64 (InsideF l p)) ∧ Below w.heap.size w w' := by
  unfold InsideF
  by_cases h0 : l = []
  · rw [if_pos (.inl h0)]
    have : n = 0 := by rw [← hn, h0]; rfl
    subst this
    exact refInside_none A c p w
  · rw [if_neg (by rintro (h | h | h); exact h0 h; exact h hp; exact h hm), In_same p l h0]
    have := List.length_pos_iff.2 h0
    exact refInside_loop p.x p.y l A n c w hn hr (by omega) hl hp hm

/-- 'append' at a step of a region that draws its order, by its run. -/
theorem step_append_run {P : Program} {ops : Array Oper} {o : Oper} {a : Act} {w w1 : World} {K : Act → World → Prop} {Q : Exit → Act → World → Prop} {E : Prop} (hgd : o.guard = none) (s x : Operand) (t : TypeId)
    (ho : o.op = .call { callee := .builtin .append, args := #[s, x], argTypes := #[t, t] }) (v0 x0 v : Value) (hs : a.eval s = v0) (hx : a.eval x = x0)
    (hrun : (Builtin.append_ #[t, t] o.type #[v0, x0]).run P w = .ok v w1) (h : K (a.put o.dst v) w1) :
    if Region.wanted o (yielded ops a.tmps) = true then Oper.wp P o a w K Q else E := by
  have hw : Region.wanted o (yielded ops a.tmps) = true := by simp [Region.wanted, hgd]
  rw [if_pos hw]
  unfold Oper.wp execOp
  simp only [ho, resolve, invoke, builtin, Sem.run_bind, Sem.run_pure, Result.andThen_ok, List.map_toArray, List.map_cons, List.map_nil, hs, hx, hrun]
  exact h

set_option maxRecDepth 20000 in
set_option maxHeartbeats 4000000 in
theorem Rings_any (A : Option Addr) (l : List Pt) (n c : Nat) (p : Pt) (w : World) (hn : l.length = n) (hr : Pts w w.heap.size A l) :
    Calls Try.prog 3 #[.slice A n c, pt p] w fun e w' => e = .returned (.bool true) ∧ Below w.heap.size w w' := by
  by_cases hl : (n : Int) ≤ 100
  · have ka : ∀ w', Below w.heap.size w w' → Calls Try.prog 10 #[.slice A n c] w' fun e w'' => e = .returned (.bool (decide (∀ q ∈ l, May q))) ∧ Below w'.heap.size w' w'' := fun w' hb =>
      refAll_any A l n c w' hn (fun hne => by
        obtain ⟨q, e, hq, hc⟩ := (hr.below hb (Nat.le_refl _)) hne
        exact ⟨q, e, Nat.lt_of_lt_of_le hq hb.size, hc⟩) (by omega)
    have km := refMay_any p
    have ki : (∀ q ∈ l, May q) → May p → ∀ w', Below w.heap.size w w' → Calls Try.prog 12 #[.slice A n c, pt p] w' fun e w'' => e = .returned (.int .i64 (InsideF l p)) ∧ Below w'.heap.size w' w'' := fun h1 h2 w' hb =>
      refInside_any A l n c p w' hn (fun hne => by
        obtain ⟨q, e, hq, hc⟩ := (hr.below hb (Nat.le_refl _)) hne
        exact ⟨q, e, Nat.lt_of_lt_of_le hq hb.size, hc⟩) (by omega) h2 h1
    have h0 : ¬ ((∀ q ∈ l, May q) ∧ May p) → InsideF l p = 0 := fun h => by
      unfold InsideF
      by_cases h1 : May p
      · rw [if_pos (.inr (.inr fun h2 => h ⟨h2, h1⟩))]
      · rw [if_pos (.inr (.inl h1))]
    have kg := fun (A' : Option Addr) (c' : Nat) (w' : World) (hP : Pts w' w'.heap.size A' l) => Inside_any A' l n c' p w' hn hP (by omega)
    have kapp : ∀ W : World, Below w.heap.size w W → ∀ W1 : World, W1 = W.alloc (.cells #[] 24) → ∀ ty, ∃ A' c' w', (Builtin.append_ #[22, 22] ty #[.slice (some ⟨W.heap.size, 0, none⟩) 0 0, .slice A n c]).run Try.prog W1 = .ok (.slice A' n c') w' ∧ Pts w' w'.heap.size A' l ∧ Below W.heap.size W w' := fun W hb W1 he ty => by
      subst he
      have hP : Pts (W.alloc (.cells #[] 24)) w.heap.size A l := (hr.below hb (Nat.le_refl _)).below ((Below.refl _ W).alloc (Nat.le_refl _) _) hb.size
      obtain ⟨v', w', hrun, hown, hbel⟩ := run_appP (base := W.heap.size) ty (OwnP.fresh W W.heap.size (Nat.le_refl _)) w.heap.size A c l hP (by simp) (by simp; omega)
      obtain ⟨A', c', rfl, hP'⟩ := hown.form
      simp only [List.nil_append] at hP'
      have hlen : ([] ++ l).length = n := by simpa using hn
      rw [hlen] at hrun
      rw [hn] at hrun
      exact ⟨A', c', w', hrun, hP', ((Below.refl _ W).alloc (Nat.le_refl _) _).trans hbel⟩
    generalize InsideF l p = r at *
    obtain ⟨px, py⟩ := p
    have KA := Lib.hid ka
    have KM := Lib.hid km
    have KI := Lib.hid ki
    have KG := Lib.hid kg
    have KAPP := Lib.hid kapp
    have H0 := Lib.hid h0
    clear ka km ki kg kapp h0 hr hn
    obtain ⟨w0, hw0, p0, g0, z0⟩ := boxes1 w #[.int .i64 px, .int .i64 py] 24
    have c0 := p0.two
    have HB0 := Lib.hid (And.intro p0 g0)
    clear p0 g0 z0
    by_cases hall : ∀ q ∈ l, May q
    · by_cases hm : May ⟨px, py⟩
      · have hi := KI.out hall hm
        rw [decide_eq_true hall] at KA
        rw [decide_eq_true hm] at KM
        have KI2 := Lib.hid hi
        clear hi KI H0 hall hm
        go_enter Try.func3, Try.ntmps3
        go_wp2_with fail
        refine (KA.out _ HB0.out.2).mono ?_
        rintro e w1 ⟨rfl, hb1⟩
        have HB1 := Lib.hid (And.intro (HB0.out.1.grew hb1) (grow HB0.out.2 hb1))
        clear hb1 c0 hw0
        have c0 := HB1.out.1.two
        go_wp2_with fail
        refine (KM.out _).mono ?_
        rintro e w2 ⟨rfl, hb1⟩
        have HB2 := Lib.hid (And.intro (HB1.out.1.grew hb1) (grow HB1.out.2 hb1))
        clear hb1 c0
        have c0 := HB2.out.1.two
        go_wp2_with fail
        refine (KI2.out _ HB2.out.2).mono ?_
        rintro e w3 ⟨rfl, hb1⟩
        have HB3 := Lib.hid (And.intro (HB2.out.1.grew hb1) (grow HB2.out.2 hb1))
        clear hb1 c0
        have c0 := HB3.out.1.two
        go_wp2_with fail
        have hS0 : (fun v : World => v.cell? ⟨w.heap.size, 0, none⟩ = some (.int .i64 px) ∧ v.cell? ⟨w.heap.size, 1, none⟩ = some (.int .i64 py) ∧ Below w.heap.size w v ∧ w3.heap.size ≤ v.heap.size) w3 := ⟨HB3.out.1.two.1, HB3.out.1.two.2.1, HB3.out.2, Nat.le_refl _⟩
        clear c0
        have keep : ∀ a b : World, Below w3.heap.size a b → (fun v : World => v.cell? ⟨w.heap.size, 0, none⟩ = some (.int .i64 px) ∧ v.cell? ⟨w.heap.size, 1, none⟩ = some (.int .i64 py) ∧ Below w.heap.size w v ∧ w3.heap.size ≤ v.heap.size) a → (fun v : World => v.cell? ⟨w.heap.size, 0, none⟩ = some (.int .i64 px) ∧ v.cell? ⟨w.heap.size, 1, none⟩ = some (.int .i64 py) ∧ Below w.heap.size w v ∧ w3.heap.size ≤ v.heap.size) b := fun a b hb ⟨h0, h1, h2, h3⟩ => ⟨(hb.cell (p := ⟨w.heap.size, 0, none⟩) HB3.out.1.lt).trans h0, (hb.cell (p := ⟨w.heap.size, 1, none⟩) HB3.out.1.lt).trans h1, h2.trans (hb.mono HB3.out.2.size), Nat.le_trans h3 hb.size⟩
        have KS := Lib.hid keep
        have keep2 : ∀ a b : World, Below a.heap.size a b → (fun v : World => v.cell? ⟨w.heap.size, 0, none⟩ = some (.int .i64 px) ∧ v.cell? ⟨w.heap.size, 1, none⟩ = some (.int .i64 py) ∧ Below w.heap.size w v ∧ w3.heap.size ≤ v.heap.size) a → (fun v : World => v.cell? ⟨w.heap.size, 0, none⟩ = some (.int .i64 px) ∧ v.cell? ⟨w.heap.size, 1, none⟩ = some (.int .i64 py) ∧ Below w.heap.size w v ∧ w3.heap.size ≤ v.heap.size) b := fun a b hb h => keep a b (hb.mono h.2.2.2) h
        have KS2 := Lib.hid keep2
        have drew : ∀ a : World, (fun v : World => v.cell? ⟨w.heap.size, 0, none⟩ = some (.int .i64 px) ∧ v.cell? ⟨w.heap.size, 1, none⟩ = some (.int .i64 py) ∧ Below w.heap.size w v ∧ w3.heap.size ≤ v.heap.size) a → (fun v : World => v.cell? ⟨w.heap.size, 0, none⟩ = some (.int .i64 px) ∧ v.cell? ⟨w.heap.size, 1, none⟩ = some (.int .i64 py) ∧ Below w.heap.size w v ∧ w3.heap.size ≤ v.heap.size) a.drew := fun a ⟨h0, h1, h2, h3⟩ => ⟨h0, h1, h2.drew, h3⟩
        have HD := Lib.hid drew
        have alc : ∀ (a : World) (o : Obj), (fun v : World => v.cell? ⟨w.heap.size, 0, none⟩ = some (.int .i64 px) ∧ v.cell? ⟨w.heap.size, 1, none⟩ = some (.int .i64 py) ∧ Below w.heap.size w v ∧ w3.heap.size ≤ v.heap.size) a → (fun v : World => v.cell? ⟨w.heap.size, 0, none⟩ = some (.int .i64 px) ∧ v.cell? ⟨w.heap.size, 1, none⟩ = some (.int .i64 py) ∧ Below w.heap.size w v ∧ w3.heap.size ≤ v.heap.size) (a.alloc o) := fun a o h => keep _ _ ((Below.refl _ a).alloc h.2.2.2 o) h
        have HA := Lib.hid alc
        clear keep keep2 drew alc
        go_region_held3 (fun v : World => v.cell? ⟨w.heap.size, 0, none⟩ = some (.int .i64 px) ∧ v.cell? ⟨w.heap.size, 1, none⟩ = some (.int .i64 py) ∧ Below w.heap.size w v ∧ w3.heap.size ≤ v.heap.size) (first | with_reducible exact HD.out _ hS0 | with_reducible exact HA.out _ _ hS0 | with_reducible exact HD.out _ (HA.out _ _ hS0) | exact KS.out _ _ hbA (HD.out _ hS0) | exact KS2.out _ _ (by assumption) (by assumption))
          (first
            | ((obtain ⟨A', c', w', hrun, hP, hbA⟩ := KAPP.out w3.drew HB3.out.2.drew ((w3.alloc (.cells #[] 24)).drew) rfl 22); (refine step_append_run (by rfl) (.tmp 18) (.tmp 19) 22 (by rfl) _ _ _ (by rfl) (by rfl) hrun ?_); (have HP := Lib.hid hP); clear hrun hP; (try dsimp only [Act.put]))
            | (go_at_call 13; refine (KG.out _ _ _ HP.out).mono ?_; rintro e w' ⟨rfl, hb⟩)
            | (go_at_call 14; refine (awake_any _).mono ?_; rintro e w' ⟨rfl, hb⟩))
        go_wp2
        go_ret
        exact ⟨rfl, (‹_ ∧ _ ∧ Below w.heap.size w _ ∧ _›).2.2.1⟩
      · have hi := H0.out (fun h => hm h.2)
        subst hi
        rw [decide_eq_true hall] at KA
        rw [decide_eq_false hm] at KM
        clear KI H0 hall hm
        go_enter Try.func3, Try.ntmps3
        go_wp2_with fail
        refine (KA.out _ HB0.out.2).mono ?_
        rintro e w1 ⟨rfl, hb1⟩
        have HB1 := Lib.hid (And.intro (HB0.out.1.grew hb1) (grow HB0.out.2 hb1))
        clear hb1 c0 hw0
        have c0 := HB1.out.1.two
        go_wp2_with fail
        refine (KM.out _).mono ?_
        rintro e w2 ⟨rfl, hb1⟩
        have HB2 := Lib.hid (And.intro (HB1.out.1.grew hb1) (grow HB1.out.2 hb1))
        clear hb1 c0
        have c0 := HB2.out.1.two
        go_wp2_with fail
        have hS0 : (fun v : World => v.cell? ⟨w.heap.size, 0, none⟩ = some (.int .i64 px) ∧ v.cell? ⟨w.heap.size, 1, none⟩ = some (.int .i64 py) ∧ Below w.heap.size w v ∧ w2.heap.size ≤ v.heap.size) w2 := ⟨HB2.out.1.two.1, HB2.out.1.two.2.1, HB2.out.2, Nat.le_refl _⟩
        clear c0
        have keep : ∀ a b : World, Below w2.heap.size a b → (fun v : World => v.cell? ⟨w.heap.size, 0, none⟩ = some (.int .i64 px) ∧ v.cell? ⟨w.heap.size, 1, none⟩ = some (.int .i64 py) ∧ Below w.heap.size w v ∧ w2.heap.size ≤ v.heap.size) a → (fun v : World => v.cell? ⟨w.heap.size, 0, none⟩ = some (.int .i64 px) ∧ v.cell? ⟨w.heap.size, 1, none⟩ = some (.int .i64 py) ∧ Below w.heap.size w v ∧ w2.heap.size ≤ v.heap.size) b := fun a b hb ⟨h0, h1, h2, h3⟩ => ⟨(hb.cell (p := ⟨w.heap.size, 0, none⟩) HB2.out.1.lt).trans h0, (hb.cell (p := ⟨w.heap.size, 1, none⟩) HB2.out.1.lt).trans h1, h2.trans (hb.mono HB2.out.2.size), Nat.le_trans h3 hb.size⟩
        have KS := Lib.hid keep
        have keep2 : ∀ a b : World, Below a.heap.size a b → (fun v : World => v.cell? ⟨w.heap.size, 0, none⟩ = some (.int .i64 px) ∧ v.cell? ⟨w.heap.size, 1, none⟩ = some (.int .i64 py) ∧ Below w.heap.size w v ∧ w2.heap.size ≤ v.heap.size) a → (fun v : World => v.cell? ⟨w.heap.size, 0, none⟩ = some (.int .i64 px) ∧ v.cell? ⟨w.heap.size, 1, none⟩ = some (.int .i64 py) ∧ Below w.heap.size w v ∧ w2.heap.size ≤ v.heap.size) b := fun a b hb h => keep a b (hb.mono h.2.2.2) h
        have KS2 := Lib.hid keep2
        have drew : ∀ a : World, (fun v : World => v.cell? ⟨w.heap.size, 0, none⟩ = some (.int .i64 px) ∧ v.cell? ⟨w.heap.size, 1, none⟩ = some (.int .i64 py) ∧ Below w.heap.size w v ∧ w2.heap.size ≤ v.heap.size) a → (fun v : World => v.cell? ⟨w.heap.size, 0, none⟩ = some (.int .i64 px) ∧ v.cell? ⟨w.heap.size, 1, none⟩ = some (.int .i64 py) ∧ Below w.heap.size w v ∧ w2.heap.size ≤ v.heap.size) a.drew := fun a ⟨h0, h1, h2, h3⟩ => ⟨h0, h1, h2.drew, h3⟩
        have HD := Lib.hid drew
        have alc : ∀ (a : World) (o : Obj), (fun v : World => v.cell? ⟨w.heap.size, 0, none⟩ = some (.int .i64 px) ∧ v.cell? ⟨w.heap.size, 1, none⟩ = some (.int .i64 py) ∧ Below w.heap.size w v ∧ w2.heap.size ≤ v.heap.size) a → (fun v : World => v.cell? ⟨w.heap.size, 0, none⟩ = some (.int .i64 px) ∧ v.cell? ⟨w.heap.size, 1, none⟩ = some (.int .i64 py) ∧ Below w.heap.size w v ∧ w2.heap.size ≤ v.heap.size) (a.alloc o) := fun a o h => keep _ _ ((Below.refl _ a).alloc h.2.2.2 o) h
        have HA := Lib.hid alc
        clear keep keep2 drew alc
        go_region_held3 (fun v : World => v.cell? ⟨w.heap.size, 0, none⟩ = some (.int .i64 px) ∧ v.cell? ⟨w.heap.size, 1, none⟩ = some (.int .i64 py) ∧ Below w.heap.size w v ∧ w2.heap.size ≤ v.heap.size) (first | with_reducible exact HD.out _ hS0 | with_reducible exact HA.out _ _ hS0 | with_reducible exact HD.out _ (HA.out _ _ hS0) | exact KS.out _ _ hbA (HD.out _ hS0) | exact KS2.out _ _ (by assumption) (by assumption))
          (first
            | ((obtain ⟨A', c', w', hrun, hP, hbA⟩ := KAPP.out w2.drew HB2.out.2.drew ((w2.alloc (.cells #[] 24)).drew) rfl 22); (refine step_append_run (by rfl) (.tmp 18) (.tmp 19) 22 (by rfl) _ _ _ (by rfl) (by rfl) hrun ?_); (have HP := Lib.hid hP); clear hrun hP; (try dsimp only [Act.put]))
            | (go_at_call 13; refine (KG.out _ _ _ HP.out).mono ?_; rintro e w' ⟨rfl, hb⟩)
            | (go_at_call 14; refine (awake_any _).mono ?_; rintro e w' ⟨rfl, hb⟩))
        go_wp2
        go_ret
        exact ⟨rfl, (‹_ ∧ _ ∧ Below w.heap.size w _ ∧ _›).2.2.1⟩
    · have hi := H0.out (fun h => hall h.1)
      subst hi
      rw [decide_eq_false hall] at KA
      clear KI H0 hall KM
      go_enter Try.func3, Try.ntmps3
      go_wp2_with fail
      refine (KA.out _ HB0.out.2).mono ?_
      rintro e w1 ⟨rfl, hb1⟩
      have HB1 := Lib.hid (And.intro (HB0.out.1.grew hb1) (grow HB0.out.2 hb1))
      clear hb1 c0 hw0
      have c0 := HB1.out.1.two
      go_wp2_with fail
      have hS0 : (fun v : World => v.cell? ⟨w.heap.size, 0, none⟩ = some (.int .i64 px) ∧ v.cell? ⟨w.heap.size, 1, none⟩ = some (.int .i64 py) ∧ Below w.heap.size w v ∧ w1.heap.size ≤ v.heap.size) w1 := ⟨HB1.out.1.two.1, HB1.out.1.two.2.1, HB1.out.2, Nat.le_refl _⟩
      clear c0
      have keep : ∀ a b : World, Below w1.heap.size a b → (fun v : World => v.cell? ⟨w.heap.size, 0, none⟩ = some (.int .i64 px) ∧ v.cell? ⟨w.heap.size, 1, none⟩ = some (.int .i64 py) ∧ Below w.heap.size w v ∧ w1.heap.size ≤ v.heap.size) a → (fun v : World => v.cell? ⟨w.heap.size, 0, none⟩ = some (.int .i64 px) ∧ v.cell? ⟨w.heap.size, 1, none⟩ = some (.int .i64 py) ∧ Below w.heap.size w v ∧ w1.heap.size ≤ v.heap.size) b := fun a b hb ⟨h0, h1, h2, h3⟩ => ⟨(hb.cell (p := ⟨w.heap.size, 0, none⟩) HB1.out.1.lt).trans h0, (hb.cell (p := ⟨w.heap.size, 1, none⟩) HB1.out.1.lt).trans h1, h2.trans (hb.mono HB1.out.2.size), Nat.le_trans h3 hb.size⟩
      have KS := Lib.hid keep
      have keep2 : ∀ a b : World, Below a.heap.size a b → (fun v : World => v.cell? ⟨w.heap.size, 0, none⟩ = some (.int .i64 px) ∧ v.cell? ⟨w.heap.size, 1, none⟩ = some (.int .i64 py) ∧ Below w.heap.size w v ∧ w1.heap.size ≤ v.heap.size) a → (fun v : World => v.cell? ⟨w.heap.size, 0, none⟩ = some (.int .i64 px) ∧ v.cell? ⟨w.heap.size, 1, none⟩ = some (.int .i64 py) ∧ Below w.heap.size w v ∧ w1.heap.size ≤ v.heap.size) b := fun a b hb h => keep a b (hb.mono h.2.2.2) h
      have KS2 := Lib.hid keep2
      have drew : ∀ a : World, (fun v : World => v.cell? ⟨w.heap.size, 0, none⟩ = some (.int .i64 px) ∧ v.cell? ⟨w.heap.size, 1, none⟩ = some (.int .i64 py) ∧ Below w.heap.size w v ∧ w1.heap.size ≤ v.heap.size) a → (fun v : World => v.cell? ⟨w.heap.size, 0, none⟩ = some (.int .i64 px) ∧ v.cell? ⟨w.heap.size, 1, none⟩ = some (.int .i64 py) ∧ Below w.heap.size w v ∧ w1.heap.size ≤ v.heap.size) a.drew := fun a ⟨h0, h1, h2, h3⟩ => ⟨h0, h1, h2.drew, h3⟩
      have HD := Lib.hid drew
      have alc : ∀ (a : World) (o : Obj), (fun v : World => v.cell? ⟨w.heap.size, 0, none⟩ = some (.int .i64 px) ∧ v.cell? ⟨w.heap.size, 1, none⟩ = some (.int .i64 py) ∧ Below w.heap.size w v ∧ w1.heap.size ≤ v.heap.size) a → (fun v : World => v.cell? ⟨w.heap.size, 0, none⟩ = some (.int .i64 px) ∧ v.cell? ⟨w.heap.size, 1, none⟩ = some (.int .i64 py) ∧ Below w.heap.size w v ∧ w1.heap.size ≤ v.heap.size) (a.alloc o) := fun a o h => keep _ _ ((Below.refl _ a).alloc h.2.2.2 o) h
      have HA := Lib.hid alc
      clear keep keep2 drew alc
      go_region_held3 (fun v : World => v.cell? ⟨w.heap.size, 0, none⟩ = some (.int .i64 px) ∧ v.cell? ⟨w.heap.size, 1, none⟩ = some (.int .i64 py) ∧ Below w.heap.size w v ∧ w1.heap.size ≤ v.heap.size) (first | with_reducible exact HD.out _ hS0 | with_reducible exact HA.out _ _ hS0 | with_reducible exact HD.out _ (HA.out _ _ hS0) | exact KS.out _ _ hbA (HD.out _ hS0) | exact KS2.out _ _ (by assumption) (by assumption))
        (first
          | ((obtain ⟨A', c', w', hrun, hP, hbA⟩ := KAPP.out w1.drew HB1.out.2.drew ((w1.alloc (.cells #[] 24)).drew) rfl 22); (refine step_append_run (by rfl) (.tmp 18) (.tmp 19) 22 (by rfl) _ _ _ (by rfl) (by rfl) hrun ?_); (have HP := Lib.hid hP); clear hrun hP; (try dsimp only [Act.put]))
          | (go_at_call 13; refine (KG.out _ _ _ HP.out).mono ?_; rintro e w' ⟨rfl, hb⟩)
          | (go_at_call 14; refine (awake_any _).mono ?_; rintro e w' ⟨rfl, hb⟩))
      go_wp2
      go_ret
      exact ⟨rfl, (‹_ ∧ _ ∧ Below w.heap.size w _ ∧ _›).2.2.1⟩
  · go_enter Try.func3, Try.ntmps3
    go_wp2
    go_ret
    exact ⟨rfl, by go_grown⟩
end Go.Proofs.Ytkneohngbkmlpaa
