/- Walks: GeomRects of any points and rects. -/
import Derived.Test.YtkneohngbkmlpaaVTTT
import Derived.Test.YtkneohngbkmlpaaVTTF
import Derived.Test.YtkneohngbkmlpaaVTFT
import Derived.Test.YtkneohngbkmlpaaVTFF
import Derived.Test.YtkneohngbkmlpaaVFTT
import Derived.Test.YtkneohngbkmlpaaVFTF
import Derived.Test.YtkneohngbkmlpaaVFFT
import Derived.Test.YtkneohngbkmlpaaVFFF
import Derived.Test.YtkneohngbkmlpaaVZTT
import Derived.Test.YtkneohngbkmlpaaVZTF
import Derived.Test.YtkneohngbkmlpaaVZFT
import Derived.Test.YtkneohngbkmlpaaVZFF
import Derived.Test.YtkneohngbkmlpaaRow
namespace Go.Proofs.Ytkneohngbkmlpaa
open Go.RowKit

set_option maxRecDepth 20000 in
theorem Rects_over (A : Option Addr) (n c : Nat) (r s : Rc) (w : World) (h : ¬ (n : Int) ≤ 100) :
    Calls Try.prog 9 #[.slice A n c, rc r, rc s] w fun e w' => e = .returned (.bool true) ∧ Below w.heap.size w w' := by
  go_enter Try.func9, Try.ntmps9
  go_wp2
  go_ret
  exact ⟨rfl, by go_grown⟩

theorem rects_app (A : Option Addr) (l : List Pt) (n c : Nat) (w : World) (hn : l.length = n) (hr : Pts w w.heap.size A l) (hn1 : (n : Int) ≤ 100) :
    ∀ W : World, Below w.heap.size w W → ∃ A' c' w', (Builtin.append_ #[22, 22] 22 #[.slice (some ⟨W.heap.size, 0, none⟩) 0 0, .slice A n c]).run Try.prog (W.alloc (.cells #[] 24)) = .ok (.slice A' n c') w' ∧ Below W.heap.size W w' ∧
      Calls Try.prog 25 #[.slice A' n c'] w' fun e w'' => e = .returned (.tuple #[rc (BoundsF l), .bool (isB l)]) ∧ Below w'.heap.size w' w'' := by
  intro W hb
  have hP : Pts (W.alloc (.cells #[] 24)) w.heap.size A l := (hr.below hb (Nat.le_refl _)).below ((Below.refl _ W).alloc (Nat.le_refl _) _) hb.size
  obtain ⟨v', w', hrun, hown, hbel⟩ := run_appP (base := W.heap.size) 22 (OwnP.fresh W W.heap.size (Nat.le_refl _)) w.heap.size A c l hP (by simp) (by simp; omega)
  obtain ⟨A', c', rfl, hP'⟩ := hown.form
  simp only [List.nil_append] at hP'
  have hlen : ([] ++ l).length = n := by simpa using hn
  rw [hlen] at hrun
  rw [hn] at hrun
  exact ⟨A', c', w', hrun, ((Below.refl _ W).alloc (Nat.le_refl _) _).trans hbel, Bounds_any A' l n c' w' hn hP' (by omega)⟩

theorem HoldsF_eq (r : Rc) (p : Pt) : HoldsF r p = (decide (May p) && decide (MayR r) && decide (holdsR r p)) := by
  unfold HoldsF
  rw [Bool.and_comm (decide (MayR r))]
theorem NearF_eq (r : Rc) (p : Pt) : NearF r p = if (decide (May p) && decide (MayR r)) = true then distZ (nearP r p) p else 0 := by
  unfold NearF
  by_cases h : MayR r <;> by_cases k : May p <;> simp [h, k]
theorem DistF_eq (p q : Pt) : DistF p q = if (decide (May p) && decide (May q)) = true then distZ p q else 0 := by
  unfold DistF
  by_cases h : May p <;> by_cases k : May q <;> simp [h, k]

theorem Rects_any (A : Option Addr) (l : List Pt) (n c : Nat) (r s : Rc) (w : World) (hn : l.length = n) (hr : Pts w w.heap.size A l) :
    Calls Try.prog 9 #[.slice A n c, rc r, rc s] w fun e w' => e = .returned (.bool true) ∧ Below w.heap.size w w' := by
  by_cases hn1 : (n : Int) ≤ 100
  · have he : ∀ k (h : k < l.length), l[k] = (l.getD k ⟨0, 0⟩) := fun k h => by simp [List.getD_eq_getElem?_getD, List.getElem?_eq_getElem h]
    have kapp := rects_app A l n c w hn hr hn1
    have kall : ∀ w', Below w.heap.size w w' → Calls Try.prog 10 #[.slice A n c] w' fun e w'' => e = .returned (.bool (decide (∀ q ∈ l, May q))) ∧ Below w'.heap.size w' w'' := fun w' hb =>
      refAll_any A l n c w' hn (hr.onto hb) (by omega)
    have kx := MayR_any r
    have ky := MayR_any s
    have kx' := refMayR_any r
    have ky' := refMayR_any s
    have ko := Over_any r s
    unfold OverF at ko
    have ko' := refOver_any r s
    have kj := Join_any r s
    have kj' := refJoin_any r s
    have kb : 0 < n → ∀ w', Below w.heap.size w w' → Calls Try.prog 32 #[.slice A n c] w' fun e w'' => e = .returned (rc (bndL l)) ∧ Below w'.heap.size w' w'' := fun h w' hb =>
      refBounds_any l A n c w' hn (hr.onto hb) h (by omega)
    have k1 : ∀ k (h : k < l.length) w, Calls Try.prog 11 #[pt l[k]] w fun e w' => e = .returned (.bool (decide (May (l.getD k ⟨0, 0⟩)))) ∧ Below w.heap.size w w' := fun k h w => by
      rw [he k h]; exact refMay_any _ w
    have k0 : ∀ (h : 0 < l.length) w, Calls Try.prog 11 #[pt l[0]] w fun e w' => e = .returned (.bool (decide (May (l.getD 0 ⟨0, 0⟩)))) ∧ Below w.heap.size w w' := fun h w => by
      rw [he 0 h]; exact refMay_any _ w
    have k2 : ∀ k (h : k < l.length), decide (May (l.getD k ⟨0, 0⟩)) = true → decide (MayR r) = true → ∀ w, Calls Try.prog 36 #[rc r, pt l[k]] w fun e w' => e = .returned (.int .u64 (distZ (nearP r (l.getD k ⟨0, 0⟩)) (l.getD k ⟨0, 0⟩))) ∧ Below w.heap.size w w' := fun k h hm hx w => by
      rw [he k h]; exact refNear_any r _ (of_decide_eq_true hx) (of_decide_eq_true hm) w
    have k3 : ∀ k (h : k < l.length), decide (May (l.getD k ⟨0, 0⟩)) = true → decide (May (l.getD 0 ⟨0, 0⟩)) = true → ∀ w, Calls Try.prog 37 #[pt l[k], pt (l[0]'(Nat.lt_of_le_of_lt (Nat.zero_le k) h))] w fun e w' => e = .returned (.int .u64 (distZ (l.getD k ⟨0, 0⟩) (l.getD 0 ⟨0, 0⟩))) ∧ Below w.heap.size w w' := fun k h hm h0 w => by
      rw [he k h, he 0 (Nat.lt_of_le_of_lt (Nat.zero_le k) h)]; exact refDist_any _ _ (of_decide_eq_true hm) (of_decide_eq_true h0) w
    have k4 : ∀ k (h : k < l.length) w, Calls Try.prog 27 #[rc r, pt l[k]] w fun e w' => e = .returned (.bool (decide (May (l.getD k ⟨0, 0⟩)) && decide (MayR r) && decide (holdsR r (l.getD k ⟨0, 0⟩)))) ∧ Below w.heap.size w w' := fun k h w => by
      rw [he k h, ← HoldsF_eq]; exact Holds_any r _ w
    have k5 : ∀ k (h : k < l.length) w, Calls Try.prog 38 #[rc r, pt l[k]] w fun e w' => e = .returned (.bool (decide (holdsR r (l.getD k ⟨0, 0⟩)))) ∧ Below w.heap.size w w' := fun k h w => by
      rw [he k h]; exact refHolds_any r _ w
    have k6 : ∀ k (h : k < l.length) w, Calls Try.prog 29 #[rc r, pt l[k]] w fun e w' => e = .returned (.int .u64 (if (decide (May (l.getD k ⟨0, 0⟩)) && decide (MayR r)) = true then distZ (nearP r (l.getD k ⟨0, 0⟩)) (l.getD k ⟨0, 0⟩) else 0)) ∧ Below w.heap.size w w' := fun k h w => by
      rw [he k h, ← NearF_eq]; exact Near_any r _ w
    have k7 : ∀ k (h : k < l.length) w, Calls Try.prog 30 #[pt l[k], pt (l[0]'(Nat.lt_of_le_of_lt (Nat.zero_le k) h))] w fun e w' => e = .returned (.int .u64 (if (decide (May (l.getD k ⟨0, 0⟩)) && decide (May (l.getD 0 ⟨0, 0⟩))) = true then distZ (l.getD k ⟨0, 0⟩) (l.getD 0 ⟨0, 0⟩) else 0)) ∧ Below w.heap.size w w' := fun k h w => by
      rw [he k h, he 0 (Nat.lt_of_le_of_lt (Nat.zero_le k) h), ← DistF_eq]; exact Dist_any _ _ w
    by_cases hx : MayR r <;> by_cases hy : MayR s
    · rcases Nat.eq_zero_or_pos n with h0 | hpos
      · have hnil : l = [] := List.length_eq_zero_iff.1 (by omega)
        rw [decide_eq_true hx] at kx kx' ko
        rw [decide_eq_true hy] at ky ky' ko
        unfold JoinF at kj
        rw [if_pos ⟨hx, hy⟩] at kj
        have hb : isB l = false := decide_eq_false fun h => h.1 hnil
        unfold BoundsF at kapp
        rw [hb] at kapp
        exact Rects_ZTT l A n c r.x0 r.y0 r.x1 r.y1 s.x0 s.y0 s.x1 s.y1 _ _ _ _ (decide (overR r s)) w hn hr h0 kapp kx ky kx' ky' ko ko' kj kj' 
      · have hne : l ≠ [] := by rintro rfl; simp at hn; omega
        by_cases hall : ∀ q ∈ l, May q
        · rw [decide_eq_true hx] at kx kx' ko k2 k4 k6
          rw [decide_eq_true hy] at ky ky' ko
          unfold JoinF at kj
          rw [if_pos ⟨hx, hy⟩] at kj
          have hb : isB l = true := decide_eq_true ⟨hne, hall⟩
          unfold BoundsF at kapp
          rw [hb] at kapp
          rw [decide_eq_true hall] at kall
          exact Rects_TTT l A n c r.x0 r.y0 r.x1 r.y1 s.x0 s.y0 s.x1 s.y1 _ _ _ _ _ _ _ _ (decide (overR r s)) (decide (May (l.getD 0 ⟨0, 0⟩))) (fun k => decide (May (l.getD k ⟨0, 0⟩))) (fun k => decide (holdsR r (l.getD k ⟨0, 0⟩))) (fun k => distZ (nearP r (l.getD k ⟨0, 0⟩)) (l.getD k ⟨0, 0⟩)) (fun k => distZ (l.getD k ⟨0, 0⟩) (l.getD 0 ⟨0, 0⟩)) w hn hr hpos hn1 kapp kall kx ky kx' ky' ko ko' kj (kb hpos) kj' k1 k0 k2 k3 k4 k5 k6 k7
        · rw [decide_eq_true hx] at kx kx' ko k2 k4 k6
          rw [decide_eq_true hy] at ky ky' ko
          unfold JoinF at kj
          rw [if_pos ⟨hx, hy⟩] at kj
          have hb : isB l = false := decide_eq_false fun h => hall h.2
          unfold BoundsF at kapp
          rw [hb] at kapp
          rw [decide_eq_false hall] at kall
          exact Rects_FTT l A n c r.x0 r.y0 r.x1 r.y1 s.x0 s.y0 s.x1 s.y1 _ _ _ _ (decide (overR r s)) (decide (May (l.getD 0 ⟨0, 0⟩))) (fun k => decide (May (l.getD k ⟨0, 0⟩))) (fun k => decide (holdsR r (l.getD k ⟨0, 0⟩))) (fun k => distZ (nearP r (l.getD k ⟨0, 0⟩)) (l.getD k ⟨0, 0⟩)) (fun k => distZ (l.getD k ⟨0, 0⟩) (l.getD 0 ⟨0, 0⟩)) w hn hr hpos hn1 kapp kall kx ky kx' ky' ko ko' kj kj' k1 k0 k2 k3 k4 k5 k6 k7
    · rcases Nat.eq_zero_or_pos n with h0 | hpos
      · have hnil : l = [] := List.length_eq_zero_iff.1 (by omega)
        rw [decide_eq_true hx] at kx kx' ko
        rw [decide_eq_false hy] at ky ky' ko
        unfold JoinF at kj
        rw [if_neg (fun h => hy h.2)] at kj
        have hb : isB l = false := decide_eq_false fun h => h.1 hnil
        unfold BoundsF at kapp
        rw [hb] at kapp
        exact Rects_ZTF l A n c r.x0 r.y0 r.x1 r.y1 s.x0 s.y0 s.x1 s.y1 (decide (overR r s)) w hn hr h0 kapp kx ky kx' ky' ko ko' kj 
      · have hne : l ≠ [] := by rintro rfl; simp at hn; omega
        by_cases hall : ∀ q ∈ l, May q
        · rw [decide_eq_true hx] at kx kx' ko k2 k4 k6
          rw [decide_eq_false hy] at ky ky' ko
          unfold JoinF at kj
          rw [if_neg (fun h => hy h.2)] at kj
          have hb : isB l = true := decide_eq_true ⟨hne, hall⟩
          unfold BoundsF at kapp
          rw [hb] at kapp
          rw [decide_eq_true hall] at kall
          exact Rects_TTF l A n c r.x0 r.y0 r.x1 r.y1 s.x0 s.y0 s.x1 s.y1 _ _ _ _ (decide (overR r s)) (decide (May (l.getD 0 ⟨0, 0⟩))) (fun k => decide (May (l.getD k ⟨0, 0⟩))) (fun k => decide (holdsR r (l.getD k ⟨0, 0⟩))) (fun k => distZ (nearP r (l.getD k ⟨0, 0⟩)) (l.getD k ⟨0, 0⟩)) (fun k => distZ (l.getD k ⟨0, 0⟩) (l.getD 0 ⟨0, 0⟩)) w hn hr hpos hn1 kapp kall kx ky kx' ky' ko ko' kj (kb hpos) k1 k0 k2 k3 k4 k5 k6 k7
        · rw [decide_eq_true hx] at kx kx' ko k2 k4 k6
          rw [decide_eq_false hy] at ky ky' ko
          unfold JoinF at kj
          rw [if_neg (fun h => hy h.2)] at kj
          have hb : isB l = false := decide_eq_false fun h => hall h.2
          unfold BoundsF at kapp
          rw [hb] at kapp
          rw [decide_eq_false hall] at kall
          exact Rects_FTF l A n c r.x0 r.y0 r.x1 r.y1 s.x0 s.y0 s.x1 s.y1 (decide (overR r s)) (decide (May (l.getD 0 ⟨0, 0⟩))) (fun k => decide (May (l.getD k ⟨0, 0⟩))) (fun k => decide (holdsR r (l.getD k ⟨0, 0⟩))) (fun k => distZ (nearP r (l.getD k ⟨0, 0⟩)) (l.getD k ⟨0, 0⟩)) (fun k => distZ (l.getD k ⟨0, 0⟩) (l.getD 0 ⟨0, 0⟩)) w hn hr hpos hn1 kapp kall kx ky kx' ky' ko ko' kj k1 k0 k2 k3 k4 k5 k6 k7
    · rcases Nat.eq_zero_or_pos n with h0 | hpos
      · have hnil : l = [] := List.length_eq_zero_iff.1 (by omega)
        rw [decide_eq_false hx] at kx kx' ko
        rw [decide_eq_true hy] at ky ky' ko
        unfold JoinF at kj
        rw [if_neg (fun h => hx h.1)] at kj
        have hb : isB l = false := decide_eq_false fun h => h.1 hnil
        unfold BoundsF at kapp
        rw [hb] at kapp
        exact Rects_ZFT l A n c r.x0 r.y0 r.x1 r.y1 s.x0 s.y0 s.x1 s.y1 (decide (overR r s)) w hn hr h0 kapp kx ky kx' ky' ko ko' kj 
      · have hne : l ≠ [] := by rintro rfl; simp at hn; omega
        by_cases hall : ∀ q ∈ l, May q
        · rw [decide_eq_false hx] at kx kx' ko k2 k4 k6
          rw [decide_eq_true hy] at ky ky' ko
          unfold JoinF at kj
          rw [if_neg (fun h => hx h.1)] at kj
          have hb : isB l = true := decide_eq_true ⟨hne, hall⟩
          unfold BoundsF at kapp
          rw [hb] at kapp
          rw [decide_eq_true hall] at kall
          exact Rects_TFT l A n c r.x0 r.y0 r.x1 r.y1 s.x0 s.y0 s.x1 s.y1 _ _ _ _ (decide (overR r s)) (decide (May (l.getD 0 ⟨0, 0⟩))) (fun k => decide (May (l.getD k ⟨0, 0⟩))) (fun k => decide (holdsR r (l.getD k ⟨0, 0⟩))) (fun k => distZ (nearP r (l.getD k ⟨0, 0⟩)) (l.getD k ⟨0, 0⟩)) (fun k => distZ (l.getD k ⟨0, 0⟩) (l.getD 0 ⟨0, 0⟩)) w hn hr hpos hn1 kapp kall kx ky kx' ky' ko ko' kj (kb hpos) k1 k0 k2 k3 k4 k5 k6 k7
        · rw [decide_eq_false hx] at kx kx' ko k2 k4 k6
          rw [decide_eq_true hy] at ky ky' ko
          unfold JoinF at kj
          rw [if_neg (fun h => hx h.1)] at kj
          have hb : isB l = false := decide_eq_false fun h => hall h.2
          unfold BoundsF at kapp
          rw [hb] at kapp
          rw [decide_eq_false hall] at kall
          exact Rects_FFT l A n c r.x0 r.y0 r.x1 r.y1 s.x0 s.y0 s.x1 s.y1 (decide (overR r s)) (decide (May (l.getD 0 ⟨0, 0⟩))) (fun k => decide (May (l.getD k ⟨0, 0⟩))) (fun k => decide (holdsR r (l.getD k ⟨0, 0⟩))) (fun k => distZ (nearP r (l.getD k ⟨0, 0⟩)) (l.getD k ⟨0, 0⟩)) (fun k => distZ (l.getD k ⟨0, 0⟩) (l.getD 0 ⟨0, 0⟩)) w hn hr hpos hn1 kapp kall kx ky kx' ky' ko ko' kj k1 k0 k2 k3 k4 k5 k6 k7
    · rcases Nat.eq_zero_or_pos n with h0 | hpos
      · have hnil : l = [] := List.length_eq_zero_iff.1 (by omega)
        rw [decide_eq_false hx] at kx kx' ko
        rw [decide_eq_false hy] at ky ky' ko
        unfold JoinF at kj
        rw [if_neg (fun h => hx h.1)] at kj
        have hb : isB l = false := decide_eq_false fun h => h.1 hnil
        unfold BoundsF at kapp
        rw [hb] at kapp
        exact Rects_ZFF l A n c r.x0 r.y0 r.x1 r.y1 s.x0 s.y0 s.x1 s.y1 (decide (overR r s)) w hn hr h0 kapp kx ky kx' ky' ko ko' kj 
      · have hne : l ≠ [] := by rintro rfl; simp at hn; omega
        by_cases hall : ∀ q ∈ l, May q
        · rw [decide_eq_false hx] at kx kx' ko k2 k4 k6
          rw [decide_eq_false hy] at ky ky' ko
          unfold JoinF at kj
          rw [if_neg (fun h => hx h.1)] at kj
          have hb : isB l = true := decide_eq_true ⟨hne, hall⟩
          unfold BoundsF at kapp
          rw [hb] at kapp
          rw [decide_eq_true hall] at kall
          exact Rects_TFF l A n c r.x0 r.y0 r.x1 r.y1 s.x0 s.y0 s.x1 s.y1 _ _ _ _ (decide (overR r s)) (decide (May (l.getD 0 ⟨0, 0⟩))) (fun k => decide (May (l.getD k ⟨0, 0⟩))) (fun k => decide (holdsR r (l.getD k ⟨0, 0⟩))) (fun k => distZ (nearP r (l.getD k ⟨0, 0⟩)) (l.getD k ⟨0, 0⟩)) (fun k => distZ (l.getD k ⟨0, 0⟩) (l.getD 0 ⟨0, 0⟩)) w hn hr hpos hn1 kapp kall kx ky kx' ky' ko ko' kj (kb hpos) k1 k0 k2 k3 k4 k5 k6 k7
        · rw [decide_eq_false hx] at kx kx' ko k2 k4 k6
          rw [decide_eq_false hy] at ky ky' ko
          unfold JoinF at kj
          rw [if_neg (fun h => hx h.1)] at kj
          have hb : isB l = false := decide_eq_false fun h => hall h.2
          unfold BoundsF at kapp
          rw [hb] at kapp
          rw [decide_eq_false hall] at kall
          exact Rects_FFF l A n c r.x0 r.y0 r.x1 r.y1 s.x0 s.y0 s.x1 s.y1 (decide (overR r s)) (decide (May (l.getD 0 ⟨0, 0⟩))) (fun k => decide (May (l.getD k ⟨0, 0⟩))) (fun k => decide (holdsR r (l.getD k ⟨0, 0⟩))) (fun k => distZ (nearP r (l.getD k ⟨0, 0⟩)) (l.getD k ⟨0, 0⟩)) (fun k => distZ (l.getD k ⟨0, 0⟩) (l.getD 0 ⟨0, 0⟩)) w hn hr hpos hn1 kapp kall kx ky kx' ky' ko ko' kj k1 k0 k2 k3 k4 k5 k6 k7
  · exact Rects_over A n c r s w hn1
end Go.Proofs.Ytkneohngbkmlpaa
