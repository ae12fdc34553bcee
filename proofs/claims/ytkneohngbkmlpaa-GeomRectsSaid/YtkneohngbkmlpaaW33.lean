/- Walks: GeomNear of any rects and point; the plain law of the least distance. -/
import Derived.Test.YtkneohngbkmlpaaW32
namespace Go.Proofs.Ytkneohngbkmlpaa
open Go.RowKit

theorem sq_le {a b : Int} (h : a.natAbs ≤ b.natAbs) : a * a ≤ b * b := by
  have := Nat.mul_le_mul h h
  rw [← Int.natAbs_mul_self (a := a), ← Int.natAbs_mul_self (a := b)]
  exact Int.ofNat_le.2 this
theorem near_le {r : Rc} {p q : Pt} (h : holdsR r q) : distZ (nearP r p) p ≤ distZ q p := by
  obtain ⟨h0, h1, h2, h3⟩ := h
  unfold distZ nearP
  dsimp only
  have hx := sq_le (a := min (max p.x r.x0) r.x1 - p.x) (b := q.x - p.x) (by omega)
  have hy := sq_le (a := min (max p.y r.y0) r.y1 - p.y) (b := q.y - p.y) (by omega)
  omega
theorem near_in {r : Rc} {p : Pt} (h : MayR r) : holdsR r (nearP r p) := by
  unfold MayR holdsR nearP at *
  dsimp only
  omega
theorem near_may {r : Rc} {p : Pt} (h : MayR r) : May (nearP r p) := by
  unfold MayR May nearP at *
  dsimp only at *
  omega
theorem near_zero {r : Rc} {p : Pt} (h : MayR r) : distZ (nearP r p) p = 0 ↔ holdsR r p := by
  unfold distZ nearP holdsR MayR at *
  dsimp only
  constructor
  · intro hz
    have a0 := sq_le (a := 0) (b := min (max p.x r.x0) r.x1 - p.x) (by omega)
    have b0 := sq_le (a := 0) (b := min (max p.y r.y0) r.y1 - p.y) (by omega)
    have a1 : min (max p.x r.x0) r.x1 - p.x = 0 := Classical.byContradiction fun hn => by
      have := sq_le (a := 1) (b := min (max p.x r.x0) r.x1 - p.x) (by omega)
      omega
    have b1 : min (max p.y r.y0) r.y1 - p.y = 0 := Classical.byContradiction fun hn => by
      have := sq_le (a := 1) (b := min (max p.y r.y0) r.y1 - p.y) (by omega)
      omega
    omega
  · rintro ⟨h0, h1, h2, h3⟩
    have a1 : min (max p.x r.x0) r.x1 - p.x = 0 := by omega
    have b1 : min (max p.y r.y0) r.y1 - p.y = 0 := by omega
    rw [a1, b1]; rfl
theorem mayR_join {r s : Rc} (h : MayR r) (k : MayR s) : MayR (joinR r s) := by
  unfold MayR May joinR at *
  dsimp only at *
  omega
theorem holds_join {r : Rc} (s : Rc) {q : Pt} (h : holdsR r q) : holdsR (joinR r s) q := by
  unfold holdsR joinR at *
  dsimp only
  omega

theorem Near_any (r : Rc) (p : Pt) (w : World) : Calls Try.prog 29 #[rc r, pt p] w fun e w' => e = .returned (.int .u64 (NearF r p)) ∧ Below w.heap.size w w' := by
  have h := Near_road r.x0 r.y0 r.x1 r.y1 p.x p.y (nearP r p).x (nearP r p).y (DistF (nearP r p) p) _ _ rfl rfl (MayR_any r) (May_any p) (fun x y hx hy w => by subst hx hy; exact Dist_any (nearP r p) p w) w
  rw [← Bool.decide_and] at h
  unfold NearF
  by_cases hm : MayR r ∧ May p
  · rw [if_pos hm]
    rw [decide_eq_true hm, if_pos rfl] at h
    unfold DistF at h
    rw [if_pos ⟨near_may hm.1, hm.2⟩] at h
    exact h
  · rw [if_neg hm]
    rw [decide_eq_false hm] at h
    exact h

theorem NearLaw_any (r s : Rc) (p : Pt) (hr : MayR r) (hs : MayR s) (hp : May p) (w : World) :
    Calls Try.prog 8 #[rc r, rc s, pt p] w fun e w' => e = .returned (.bool true) ∧ Below w.heap.size w w' := by
  have k1 := MayR_any r
  have k2 := MayR_any s
  have k3 := May_any p
  rw [decide_eq_true hr] at k1
  rw [decide_eq_true hs] at k2
  rw [decide_eq_true hp] at k3
  have hj := mayR_join hr hs
  have ej : JoinF r s = joinR r s := by unfold JoinF; rw [if_pos ⟨hr, hs⟩]
  have k8 := Join_any r s
  rw [ej] at k8
  have k9 := Near_any (joinR r s) p
  have k10 := Over_any (joinR r s) r
  have eo : OverF (joinR r s) r = true := by
    unfold OverF
    rw [decide_eq_true hj, decide_eq_true hr, decide_eq_true (show overR (joinR r s) r from ?_)]
    · rfl
    · unfold overR joinR MayR at *
      dsimp only
      omega
  rw [eo] at k10
  have n1 : NearF r p = distZ (nearP r p) p := by unfold NearF; rw [if_pos ⟨hr, hp⟩]
  have n2 : NearF (joinR r s) p = distZ (nearP (joinR r s) p) p := by unfold NearF; rw [if_pos ⟨hj, hp⟩]
  have k4 := Near_any r p
  rw [n1] at k4
  rw [n2] at k9
  refine Near_road2 r.x0 r.y0 r.x1 r.y1 s.x0 s.y0 s.x1 s.y1 p.x p.y _ _ _ _ _ _ (HoldsF r p) (fun k => HoldsF r (corner s k)) (fun k => DistF (corner s k) p) ?_ ?_ ?_ k1 k2 k3 k4
    (fun k _ w => Holds_any r (corner s k) w) (fun k _ w => Dist_any (corner s k) p w) (Holds_any r p) k8 k9 k10 w
  · unfold HoldsF
    rw [decide_eq_true hr, decide_eq_true hp]
    have := near_zero (p := p) hr
    by_cases hh : holdsR r p
    · rw [decide_eq_true hh, this.2 hh]; rfl
    · rw [decide_eq_false hh]
      have hne : ¬ distZ (nearP r p) p = 0 := fun h => hh (this.1 h)
      simp [hne]
  · exact near_le (holds_join s (near_in hr))
  · intro k _ hk
    (try dsimp only at hk ⊢)
    unfold HoldsF at hk
    rw [Bool.and_eq_true, Bool.and_eq_true] at hk
    have hc := of_decide_eq_true hk.1.2
    have hh := of_decide_eq_true hk.2
    unfold DistF
    rw [if_pos ⟨hc, hp⟩]
    exact near_le hh

set_option maxHeartbeats 1000000 in
theorem NearLaw_out (rx0 ry0 rx1 ry1 sx0 sy0 sx1 sy1 px py : Int) (m y z : Bool)
    (k1 : ∀ w, Calls Try.prog 28 #[.agg #[.int .i64 rx0, .int .i64 ry0, .int .i64 rx1, .int .i64 ry1]] w fun e w' => e = .returned (.bool m) ∧ Below w.heap.size w w')
    (k2 : ∀ w, Calls Try.prog 28 #[.agg #[.int .i64 sx0, .int .i64 sy0, .int .i64 sx1, .int .i64 sy1]] w fun e w' => e = .returned (.bool y) ∧ Below w.heap.size w w')
    (k3 : ∀ w, Calls Try.prog 15 #[.agg #[.int .i64 px, .int .i64 py]] w fun e w' => e = .returned (.bool z) ∧ Below w.heap.size w w') (h : (m && y && z) = false) (w : World) :
    Calls Try.prog 8 #[.agg #[.int .i64 rx0, .int .i64 ry0, .int .i64 rx1, .int .i64 ry1], .agg #[.int .i64 sx0, .int .i64 sy0, .int .i64 sx1, .int .i64 sy1], .agg #[.int .i64 px, .int .i64 py]] w fun e w' => e = .returned (.bool true) ∧ Below w.heap.size w w' := by
  have K1 := Lib.hid k1
  have K2 := Lib.hid k2
  have K3 := Lib.hid k3
  clear k1 k2 k3
  obtain ⟨w0, hw0, p0, p1, p2, g0, z0⟩ := boxes3 w #[.int .i64 rx0, .int .i64 ry0, .int .i64 rx1, .int .i64 ry1] #[.int .i64 sx0, .int .i64 sy0, .int .i64 sx1, .int .i64 sy1] #[.int .i64 px, .int .i64 py] 38 38 24
  have B0 := Lib.hid (And.intro p0 (And.intro p1 (And.intro p2 g0)))
  clear p0 p1 p2 g0 z0
  have c0 := B0.out.1.four
  have c1 := B0.out.2.1.four
  have c2 := B0.out.2.2.1.two
  cases m
  · go_enter Try.func8, Try.ntmps8
    go_wp2_with fail
    refine (K1.out _).mono ?_
    rintro e w1 ⟨rfl, hb⟩
    have B1 := Lib.hid (grow B0.out.2.2.2 hb)
    clear hb c0 c1 c2 B0
    go_wp2_with fail
    refine (awake_any _).mono ?_
    rintro e w2 ⟨rfl, hb⟩
    have HE := Lib.hid (grow B1.out hb)
    clear hb
    go_wp2
    go_ret
    exact ⟨rfl, HE.out⟩
  · cases y
    · go_enter Try.func8, Try.ntmps8
      go_wp2_with fail
      refine (K1.out _).mono ?_
      rintro e w1 ⟨rfl, hb⟩
      (try clear hw0)
      have B1 := Lib.hid (And.intro (B0.out.1.grew hb) (And.intro (B0.out.2.1.grew hb) (And.intro (B0.out.2.2.1.grew hb) (grow B0.out.2.2.2 hb))))
      clear hb c0 c1 c2 B0
      have c1 := B1.out.2.1.four
      go_wp2_with fail
      refine (K2.out _).mono ?_
      rintro e w2 ⟨rfl, hb⟩
      have B2 := Lib.hid (grow B1.out.2.2.2 hb)
      clear hb c1 B1
      go_wp2_with fail
      refine (awake_any _).mono ?_
      rintro e w3 ⟨rfl, hb⟩
      have HE := Lib.hid (grow B2.out hb)
      clear hb
      go_wp2
      go_ret
      exact ⟨rfl, HE.out⟩
    · cases z
      · go_enter Try.func8, Try.ntmps8
        go_wp2_with fail
        refine (K1.out _).mono ?_
        rintro e w1 ⟨rfl, hb⟩
        (try clear hw0)
        have B1 := Lib.hid (And.intro (B0.out.1.grew hb) (And.intro (B0.out.2.1.grew hb) (And.intro (B0.out.2.2.1.grew hb) (grow B0.out.2.2.2 hb))))
        clear hb c0 c1 c2 B0
        have c1 := B1.out.2.1.four
        go_wp2_with fail
        refine (K2.out _).mono ?_
        rintro e w2 ⟨rfl, hb⟩
        have B2 := Lib.hid (And.intro (B1.out.1.grew hb) (And.intro (B1.out.2.1.grew hb) (And.intro (B1.out.2.2.1.grew hb) (grow B1.out.2.2.2 hb))))
        clear hb c1 B1
        have c2 := B2.out.2.2.1.two
        go_wp2_with fail
        refine (K3.out _).mono ?_
        rintro e w3 ⟨rfl, hb⟩
        have B3 := Lib.hid (grow B2.out.2.2.2 hb)
        clear hb c2 B2
        go_wp2_with fail
        refine (awake_any _).mono ?_
        rintro e w4 ⟨rfl, hb⟩
        have HE := Lib.hid (grow B3.out hb)
        clear hb
        go_wp2
        go_ret
        exact ⟨rfl, HE.out⟩
      · cases h

theorem GeomNear_any (r s : Rc) (p : Pt) (w : World) :
    Calls Try.prog 8 #[rc r, rc s, pt p] w fun e w' => e = .returned (.bool true) ∧ Below w.heap.size w w' := by
  by_cases h : MayR r ∧ MayR s ∧ May p
  · exact NearLaw_any r s p h.1 h.2.1 h.2.2 w
  · refine NearLaw_out r.x0 r.y0 r.x1 r.y1 s.x0 s.y0 s.x1 s.y1 p.x p.y _ _ _ (MayR_any r) (MayR_any s) (May_any p) ?_ w
    rw [← Bool.decide_and, ← Bool.decide_and]
    exact decide_eq_false fun ⟨⟨a, b⟩, c⟩ => h ⟨a, b, c⟩
end Go.Proofs.Ytkneohngbkmlpaa
