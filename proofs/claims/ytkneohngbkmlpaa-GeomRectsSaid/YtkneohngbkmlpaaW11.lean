/- Walks: Inside; what the chapter's examples say. -/
import Derived.Test.YtkneohngbkmlpaaW10
namespace Go.Proofs.Ytkneohngbkmlpaa
open Go.RowKit

/-- Whether a point is in a ring. -/
def InsideF (l : List Pt) (p : Pt) : Int := if l = [] ∨ ¬ May p ∨ ¬ (∀ q ∈ l, May q) then 0 else goIn p (edgesOf l) (-1)

set_option maxHeartbeats 1000000 in
theorem Inside_none (A : Option Addr) (c : Nat) (p : Pt) (w : World) :
    Calls Try.prog 13 #[.slice A 0 c, pt p] w fun e w' => e = .returned (.int .i64 0) ∧ Below w.heap.size w w' := by
  obtain ⟨px, py⟩ := p
  go_enter Try.func13, Try.ntmps13
  go_wp2
  refine bodyPost_ret (v := .int .i64 0) ?_ rfl ⟨rfl, ?_⟩
  · simp [results, Try.results13, go_sem]
  · go_grown

set_option maxHeartbeats 1000000 in
theorem Inside_out (A : Option Addr) (n c : Nat) (px py : Int) (w : World) (hn : (0 : Int) < n)
    (k1 : ∀ w, Calls Try.prog 15 #[.agg #[.int .i64 px, .int .i64 py]] w fun e w' => e = .returned (.bool false) ∧ Below w.heap.size w w') :
    Calls Try.prog 13 #[.slice A n c, .agg #[.int .i64 px, .int .i64 py]] w fun e w' => e = .returned (.int .i64 0) ∧ Below w.heap.size w w' := by
  have K1 := Lib.hid k1
  clear k1
  obtain ⟨w0, hw0, p0, p1, g0, z0⟩ := boxes2 w #[.int .i64 px, .int .i64 py] #[.int .i64 0] 24 3
  have c0 := p0.two
  have HP := Lib.hid (And.intro p1 g0)
  have hne : ((n : Int) == 0) = false := by simp; omega
  clear p0 p1 g0 z0
  go_enter Try.func13, Try.ntmps13
  go_wp2_with fail
  refine (K1.out _).mono ?_
  rintro e w1 ⟨rfl, hb1⟩
  have fr := (HP.out.1.grew hb1).one
  have r2 := ((HP.out.1.grew hb1).set 0 (.int .i64 0)).one
  have HG := Lib.hid (grow HP.out.2 hb1)
  clear hb1 c0
  go_wp2
  refine bodyPost_ret (v := .int .i64 0) ?_ rfl ⟨rfl, HG.out.setCell (by show _ ≤ w.heap.size + 1; omega) _⟩
  simp [results, Try.results13, go_sem, r2.1]

set_option maxHeartbeats 1000000 in
theorem Inside_far (A : Option Addr) (n c : Nat) (px py : Int) (w : World) (hn : (0 : Int) < n)
    (k1 : ∀ w, Calls Try.prog 15 #[.agg #[.int .i64 px, .int .i64 py]] w fun e w' => e = .returned (.bool true) ∧ Below w.heap.size w w')
    (k2 : ∀ w', Below w.heap.size w w' → Calls Try.prog 39 #[.slice A n c] w' fun e w'' => e = .returned (.bool false) ∧ Below w'.heap.size w' w'') :
    Calls Try.prog 13 #[.slice A n c, .agg #[.int .i64 px, .int .i64 py]] w fun e w' => e = .returned (.int .i64 0) ∧ Below w.heap.size w w' := by
  have K1 := Lib.hid k1
  have K2 := Lib.hid k2
  clear k1 k2
  obtain ⟨w0, hw0, p0, p1, g0, z0⟩ := boxes2 w #[.int .i64 px, .int .i64 py] #[.int .i64 0] 24 3
  have c0 := p0.two
  have HP := Lib.hid (And.intro p1 g0)
  have hne : ((n : Int) == 0) = false := by simp; omega
  clear p0 p1 g0 z0
  go_enter Try.func13, Try.ntmps13
  go_wp2_with fail
  refine (K1.out _).mono ?_
  rintro e w1 ⟨rfl, hb1⟩
  have HQ := Lib.hid (And.intro (HP.out.1.grew hb1) (grow HP.out.2 hb1))
  clear hb1 c0
  go_wp2_with fail
  refine (K2.out _ HQ.out.2).mono ?_
  rintro e w2 ⟨rfl, hb2⟩
  have fr := (HQ.out.1.grew hb2).one
  have r2 := ((HQ.out.1.grew hb2).set 0 (.int .i64 0)).one
  have HG := Lib.hid (grow HQ.out.2 hb2)
  clear hb2
  go_wp2
  refine bodyPost_ret (v := .int .i64 0) ?_ rfl ⟨rfl, HG.out.setCell (by show _ ≤ w.heap.size + 1; omega) _⟩
  simp [results, Try.results13, go_sem, r2.1]

theorem Inside_any (A : Option Addr) (l : List Pt) (n c : Nat) (p : Pt) (w : World) (hn : l.length = n) (hr : Pts w w.heap.size A l) (hl : (n : Int) ≤ 1000) :
    Calls Try.prog 13 #[.slice A n c, pt p] w fun e w' => e = .returned (.int .i64 (InsideF l p)) ∧ Below w.heap.size w w' := by
  have ka : ∀ w', Below w.heap.size w w' → Calls Try.prog 39 #[.slice A n c] w' fun e w'' => e = .returned (.bool (decide (∀ q ∈ l, May q))) ∧ Below w'.heap.size w' w'' := fun w' hb =>
    all_any A l n c w' hn (fun hne => by
      obtain ⟨q, e, hq, hc⟩ := (hr.below hb (Nat.le_refl _)) hne
      exact ⟨q, e, Nat.lt_of_lt_of_le hq hb.size, hc⟩) (by omega)
  have km := May_any p
  unfold InsideF
  by_cases h0 : l = []
  · rw [if_pos (.inl h0)]
    have : n = 0 := by rw [← hn, h0]; rfl
    subst this
    exact Inside_none A c p w
  have hn0 : (0 : Int) < n := by
    have := List.length_pos_iff.2 h0
    omega
  by_cases h1 : May p
  · by_cases h2 : ∀ q ∈ l, May q
    · rw [if_neg (by rintro (h | h | h); exact h0 h; exact h h1; exact h h2)]
      exact Inside_loop p.x p.y l A n c w hn hr hn0 hl h1 h2
    · rw [if_pos (.inr (.inr h2))]
      rw [decide_eq_true h1] at km
      rw [decide_eq_false h2] at ka
      exact Inside_far A n c p.x p.y w hn0 km ka
  · rw [if_pos (.inr (.inl h1))]
    rw [decide_eq_false h1] at km
    exact Inside_out A n c p.x p.y w hn0 km

end Go.Proofs.Ytkneohngbkmlpaa
