/- Walks: GeomJoins of any rows of points. -/
import Derived.Test.YtkneohngbkmlpaaW27
namespace Go.Proofs.Ytkneohngbkmlpaa
open Go.RowKit

theorem Joins_over (A B : Option Addr) (n k c d : Nat) (w : World) (h : ¬ ((n : Int) ≤ 60 ∧ (k : Int) ≤ 60)) :
    Calls Try.prog 7 #[.slice A n c, .slice B k d] w fun e w' => e = .returned (.bool true) ∧ Below w.heap.size w w' := by
  by_cases hn : (n : Int) ≤ 60
  · have hk : ¬ (k : Int) ≤ 60 := fun hk => h ⟨hn, hk⟩
    clear h
    go_enter Try.func7, Try.ntmps7
    go_wp2
    go_ret
    exact ⟨rfl, Below.refl _ w⟩
  · clear h
    go_enter Try.func7, Try.ntmps7
    go_wp2
    go_ret
    exact ⟨rfl, Below.refl _ w⟩

theorem Pts.onto {w w' : World} {A : Option Addr} {l : List Pt} (h : Pts w w.heap.size A l) (hb : Below w.heap.size w w') : Pts w' w'.heap.size A l := fun hne => by
  obtain ⟨p, e, h1, h2⟩ := h hne
  exact ⟨p, e, Nat.lt_of_lt_of_le h1 hb.size, fun k hk => ⟨(hb.cell (by rw [add_block]; exact h1)).trans (h2 k hk).1, (hb.cell (by rw [add_block, add_block]; exact h1)).trans (h2 k hk).2⟩⟩

theorem zero_beq (n : Nat) (l : List Pt) (h : l.length = n) : ((n : Int) == 0) = decide (l = []) := by
  subst h
  cases l with
  | nil => rfl
  | cons a l => simp; omega

theorem Joins_any (A B : Option Addr) (l m : List Pt) (n k c d : Nat) (w : World) (hln : l.length = n) (hmk : m.length = k) (hl : Pts w w.heap.size A l) (hm : Pts w w.heap.size B m) :
    Calls Try.prog 7 #[.slice A n c, .slice B k d] w fun e w' => e = .returned (.bool true) ∧ Below w.heap.size w w' := by
  by_cases h : (n : Int) ≤ 60 ∧ (k : Int) ≤ 60
  · obtain ⟨hn, hk⟩ := h
    have hl1 : Pts (w.alloc (.cells #[] 24)) w.heap.size A l := hl.below ((Below.refl _ w).alloc (Nat.le_refl _) _) (Nat.le_refl _)
    obtain ⟨v1, w1, hr1, ho1, hb1⟩ := run_appP (base := w.heap.size) 22 (OwnP.fresh w w.heap.size (Nat.le_refl _)) w.heap.size A c l hl1 (by simp) (by simp; omega)
    have hb1' : Below w.heap.size w w1 := ((Below.refl _ w).alloc (Nat.le_refl _) _).trans hb1
    rw [List.nil_append] at ho1
    have hm1 : Pts w1 w.heap.size B m := hm.below hb1' (Nat.le_refl _)
    obtain ⟨v2, w2, hr2, ho2, hb2⟩ := run_appP (base := w.heap.size) 22 ho1 w.heap.size B d m hm1 hb1'.size (by omega)
    have hb2' : Below w.heap.size w w2 := hb1'.trans hb2
    obtain ⟨A2, c2, rfl, hP⟩ := ho2.form
    have hlen : (l ++ m).length = n + k := by simp [hln, hmk]
    rw [hln] at hr1
    rw [hmk, hlen] at hr2
    have k1 : ∀ w', Below w.heap.size w w' → Calls Try.prog 25 #[.slice A n c] w' fun e w'' => e = .returned (.tuple #[rc (BoundsF l), .bool (isB l)]) ∧ Below w'.heap.size w' w'' := fun w' hb =>
      Bounds_any A l n c w' hln (hl.onto hb) (by omega)
    have k2 : ∀ w', Below w.heap.size w w' → Calls Try.prog 25 #[.slice B k d] w' fun e w'' => e = .returned (.tuple #[rc (BoundsF m), .bool (isB m)]) ∧ Below w'.heap.size w' w'' := fun w' hb =>
      Bounds_any B m k d w' hmk (hm.onto hb) (by omega)
    have k3 : ∀ w', Below w2.heap.size w2 w' → Calls Try.prog 25 #[.slice A2 (n + k) c2] w' fun e w'' => e = .returned (.tuple #[rc (BoundsF (l ++ m)), .bool (isB (l ++ m))]) ∧ Below w'.heap.size w' w'' := fun w' hb =>
      Bounds_any A2 (l ++ m) (n + k) c2 w' hlen (hP.onto hb) (by omega)
    by_cases hxy : isB l = true ∧ isB m = true
    · obtain ⟨hx, hy⟩ := hxy
      have hz := isB_true hx hy
      have ex : BoundsF l = bndL l := by unfold BoundsF; rw [if_pos hx]
      have ey : BoundsF m = bndL m := by unfold BoundsF; rw [if_pos hy]
      have ez : BoundsF (l ++ m) = bndL (l ++ m) := by unfold BoundsF; rw [if_pos hz]
      rw [hx, ex] at k1
      rw [hy, ey] at k2
      rw [hz, ez] at k3
      have gl := of_decide_eq_true hx
      have gm := of_decide_eq_true hy
      have gz := of_decide_eq_true hz
      have ml := mayR_bnd gl.1 gl.2
      have mm := mayR_bnd gm.1 gm.2
      have ej : JoinF (bndL l) (bndL m) = bndL (l ++ m) := by
        unfold JoinF; rw [if_pos ⟨ml, mm⟩, bnd_append gl.1 gm.1]
      have ej' : JoinF (bndL m) (bndL l) = bndL (l ++ m) := by
        unfold JoinF; rw [if_pos ⟨mm, ml⟩, bnd_append gl.1 gm.1, join_comm]
      have k4 := Join_any (bndL l) (bndL m)
      have k5 := Join_any (bndL m) (bndL l)
      rw [ej] at k4
      rw [ej'] at k5
      have k6 : ∀ q ∈ l ++ m, ∀ w', Calls Try.prog 27 #[rc (bndL (l ++ m)), pt q] w' fun e w'' => e = .returned (.bool true) ∧ Below w'.heap.size w' w'' := fun q hq w' => by
        have h := Holds_any (bndL (l ++ m)) q w'
        rwa [holdsF_bnd gz.2 hq] at h
      exact Joins_in A B A2 n k c d c2 v1 w w1 w2 _ _ _ _ _ _ _ _ _ _ _ _ hn hk hr1 hr2 hb2' (l ++ m) k1 k2 k3 hlen hP k4 k5 k6
    · have hz := isB_false hxy
      have hf : (isB l && isB m) = false := by
        cases hx : isB l <;> cases hy : isB m <;> simp_all
      exact Joins_out A B A2 n k c d c2 v1 w w1 w2 _ _ _ _ _ _ _ _ _ _ _ _ hn hk hr1 hr2 hb2' (isB l) (isB m) (isB (l ++ m)) (decide (l = [])) (decide (m = [])) (zero_beq n l hln) (zero_beq k m hmk) k1 k2 k3 hf hz
  · exact Joins_over A B n k c d w h
end Go.Proofs.Ytkneohngbkmlpaa
