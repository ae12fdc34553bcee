/- Walks: rects. -/
import Derived.Test.YtkneohngbkmlpaaW22
import Derived.Test.YtkneohngbkmlpaaW17
namespace Go.Proofs.Ytkneohngbkmlpaa
open Go.RowKit

def HoldsF (r : Rc) (p : Pt) : Bool := decide (MayR r) && decide (May p) && decide (holdsR r p)
def overR (r s : Rc) : Prop := r.x0 ≤ s.x1 ∧ s.x0 ≤ r.x1 ∧ r.y0 ≤ s.y1 ∧ s.y0 ≤ r.y1
instance (r s : Rc) : Decidable (overR r s) := inferInstanceAs (Decidable (_ ∧ _))
def OverF (r s : Rc) : Bool := decide (MayR r) && decide (MayR s) && decide (overR r s)
def joinR (r s : Rc) : Rc := ⟨min r.x0 s.x0, min r.y0 s.y0, max r.x1 s.x1, max r.y1 s.y1⟩
def zeroR : Rc := ⟨0, 0, 0, 0⟩
def JoinF (r s : Rc) : Rc := if MayR r ∧ MayR s then joinR r s else zeroR
def nearP (r : Rc) (p : Pt) : Pt := ⟨min (max p.x r.x0) r.x1, min (max p.y r.y0) r.y1⟩
def NearF (r : Rc) (p : Pt) : Int := if MayR r ∧ May p then distZ (nearP r p) p else 0

theorem Holds_road (rx0 ry0 rx1 ry1 px py : Int) (m y h : Bool)
    (k1 : ∀ w, Calls Try.prog 28 #[.agg #[.int .i64 rx0, .int .i64 ry0, .int .i64 rx1, .int .i64 ry1]] w fun e w' => e = .returned (.bool m) ∧ Below w.heap.size w w')
    (k2 : ∀ w, Calls Try.prog 15 #[.agg #[.int .i64 px, .int .i64 py]] w fun e w' => e = .returned (.bool y) ∧ Below w.heap.size w w')
    (k3 : ∀ w, Calls Try.prog 50 #[.agg #[.int .i64 rx0, .int .i64 ry0, .int .i64 rx1, .int .i64 ry1], .agg #[.int .i64 px, .int .i64 py]] w fun e w' => e = .returned (.bool h) ∧ Below w.heap.size w w') (w : World) :
    Calls Try.prog 27 #[.agg #[.int .i64 rx0, .int .i64 ry0, .int .i64 rx1, .int .i64 ry1], .agg #[.int .i64 px, .int .i64 py]] w fun e w' => e = .returned (.bool (m && y && h)) ∧ Below w.heap.size w w' := by
  have keep : ∀ a b : World, Below a.heap.size a b → (fun v : World => v.cell? ⟨w.heap.size, 0, none⟩ = some (.int .i64 rx0) ∧ v.cell? ⟨w.heap.size, 1, none⟩ = some (.int .i64 ry0) ∧ v.cell? ⟨w.heap.size, 2, none⟩ = some (.int .i64 rx1) ∧ v.cell? ⟨w.heap.size, 3, none⟩ = some (.int .i64 ry1) ∧ v.cell? ⟨w.heap.size + 1, 0, none⟩ = some (.int .i64 px) ∧ v.cell? ⟨w.heap.size + 1, 1, none⟩ = some (.int .i64 py) ∧ Below w.heap.size w v) a → (fun v : World => v.cell? ⟨w.heap.size, 0, none⟩ = some (.int .i64 rx0) ∧ v.cell? ⟨w.heap.size, 1, none⟩ = some (.int .i64 ry0) ∧ v.cell? ⟨w.heap.size, 2, none⟩ = some (.int .i64 rx1) ∧ v.cell? ⟨w.heap.size, 3, none⟩ = some (.int .i64 ry1) ∧ v.cell? ⟨w.heap.size + 1, 0, none⟩ = some (.int .i64 px) ∧ v.cell? ⟨w.heap.size + 1, 1, none⟩ = some (.int .i64 py) ∧ Below w.heap.size w v) b := fun a b hb ⟨h0, h1, h2, h3, h4, h5, h6⟩ => ⟨cell_grew h0 hb, cell_grew h1 hb, cell_grew h2 hb, cell_grew h3 hb, cell_grew h4 hb, cell_grew h5 hb, grow h6 hb⟩
  have KS := Lib.hid keep
  have drew : ∀ a : World, (fun v : World => v.cell? ⟨w.heap.size, 0, none⟩ = some (.int .i64 rx0) ∧ v.cell? ⟨w.heap.size, 1, none⟩ = some (.int .i64 ry0) ∧ v.cell? ⟨w.heap.size, 2, none⟩ = some (.int .i64 rx1) ∧ v.cell? ⟨w.heap.size, 3, none⟩ = some (.int .i64 ry1) ∧ v.cell? ⟨w.heap.size + 1, 0, none⟩ = some (.int .i64 px) ∧ v.cell? ⟨w.heap.size + 1, 1, none⟩ = some (.int .i64 py) ∧ Below w.heap.size w v) a → (fun v : World => v.cell? ⟨w.heap.size, 0, none⟩ = some (.int .i64 rx0) ∧ v.cell? ⟨w.heap.size, 1, none⟩ = some (.int .i64 ry0) ∧ v.cell? ⟨w.heap.size, 2, none⟩ = some (.int .i64 rx1) ∧ v.cell? ⟨w.heap.size, 3, none⟩ = some (.int .i64 ry1) ∧ v.cell? ⟨w.heap.size + 1, 0, none⟩ = some (.int .i64 px) ∧ v.cell? ⟨w.heap.size + 1, 1, none⟩ = some (.int .i64 py) ∧ Below w.heap.size w v) a.drew := fun a ⟨h0, h1, h2, h3, h4, h5, h6⟩ => ⟨h0, h1, h2, h3, h4, h5, h6.drew⟩
  have HD := Lib.hid drew
  have alc : ∀ (a : World) (o : Obj), (fun v : World => v.cell? ⟨w.heap.size, 0, none⟩ = some (.int .i64 rx0) ∧ v.cell? ⟨w.heap.size, 1, none⟩ = some (.int .i64 ry0) ∧ v.cell? ⟨w.heap.size, 2, none⟩ = some (.int .i64 rx1) ∧ v.cell? ⟨w.heap.size, 3, none⟩ = some (.int .i64 ry1) ∧ v.cell? ⟨w.heap.size + 1, 0, none⟩ = some (.int .i64 px) ∧ v.cell? ⟨w.heap.size + 1, 1, none⟩ = some (.int .i64 py) ∧ Below w.heap.size w v) a → (fun v : World => v.cell? ⟨w.heap.size, 0, none⟩ = some (.int .i64 rx0) ∧ v.cell? ⟨w.heap.size, 1, none⟩ = some (.int .i64 ry0) ∧ v.cell? ⟨w.heap.size, 2, none⟩ = some (.int .i64 rx1) ∧ v.cell? ⟨w.heap.size, 3, none⟩ = some (.int .i64 ry1) ∧ v.cell? ⟨w.heap.size + 1, 0, none⟩ = some (.int .i64 px) ∧ v.cell? ⟨w.heap.size + 1, 1, none⟩ = some (.int .i64 py) ∧ Below w.heap.size w v) (a.alloc o) := fun a o h => keep _ _ ((Below.refl _ a).alloc (Nat.le_refl _) o) h
  have HA := Lib.hid alc
  clear keep drew alc
  obtain ⟨w0, hw0, p0, p1, g0, z0⟩ := boxes2 w #[.int .i64 rx0, .int .i64 ry0, .int .i64 rx1, .int .i64 ry1] #[.int .i64 px, .int .i64 py] 38 24
  have hS0 : (fun v : World => v.cell? ⟨w.heap.size, 0, none⟩ = some (.int .i64 rx0) ∧ v.cell? ⟨w.heap.size, 1, none⟩ = some (.int .i64 ry0) ∧ v.cell? ⟨w.heap.size, 2, none⟩ = some (.int .i64 rx1) ∧ v.cell? ⟨w.heap.size, 3, none⟩ = some (.int .i64 ry1) ∧ v.cell? ⟨w.heap.size + 1, 0, none⟩ = some (.int .i64 px) ∧ v.cell? ⟨w.heap.size + 1, 1, none⟩ = some (.int .i64 py) ∧ Below w.heap.size w v) w0 := ⟨p0.four.1, p0.four.2.1, p0.four.2.2.1, p0.four.2.2.2.1, p1.two.1, p1.two.2.1, g0⟩
  clear p0 p1 z0 g0
  have K1 := Lib.hid k1
  have K2 := Lib.hid k2
  have K3 := Lib.hid k3
  clear k1 k2 k3
  cases m
  · go_enter Try.func27, Try.ntmps27
    obtain ⟨c0, c1, c2, c3, c4, c5, c6⟩ := id hS0
    have CB := Lib.hid c6
    clear c6
    go_wp2_with fail
    (try clear hw0)
    refine (K1.out _).mono ?_
    rintro e w1 ⟨rfl, hb⟩
    have hS1 := KS.out _ _ hb hS0
    clear c0 c1 c2 c3 c4 c5 CB
    clear hb hS0
    obtain ⟨c0, c1, c2, c3, c4, c5, c6⟩ := id hS1
    have CB := Lib.hid c6
    clear c6
    go_wp2
    go_ret
    exact ⟨rfl, CB.out⟩
  · cases y
    · go_enter Try.func27, Try.ntmps27
      obtain ⟨c0, c1, c2, c3, c4, c5, c6⟩ := id hS0
      have CB := Lib.hid c6
      clear c6
      go_wp2_with fail
      (try clear hw0)
      refine (K1.out _).mono ?_
      rintro e w1 ⟨rfl, hb⟩
      have hS1 := KS.out _ _ hb hS0
      clear c0 c1 c2 c3 c4 c5 CB
      clear hb hS0
      obtain ⟨c0, c1, c2, c3, c4, c5, c6⟩ := id hS1
      have CB := Lib.hid c6
      clear c6
      go_wp2_with fail
      refine (K2.out _).mono ?_
      rintro e w2 ⟨rfl, hb⟩
      have hS2 := KS.out _ _ hb hS1
      clear c0 c1 c2 c3 c4 c5 CB
      clear hb hS1
      obtain ⟨c0, c1, c2, c3, c4, c5, c6⟩ := id hS2
      have CB := Lib.hid c6
      clear c6
      go_wp2
      go_ret
      exact ⟨rfl, CB.out⟩
    · go_enter Try.func27, Try.ntmps27
      obtain ⟨c0, c1, c2, c3, c4, c5, c6⟩ := id hS0
      have CB := Lib.hid c6
      clear c6
      go_wp2_with fail
      (try clear hw0)
      refine (K1.out _).mono ?_
      rintro e w1 ⟨rfl, hb⟩
      have hS1 := KS.out _ _ hb hS0
      clear c0 c1 c2 c3 c4 c5 CB
      clear hb hS0
      obtain ⟨c0, c1, c2, c3, c4, c5, c6⟩ := id hS1
      have CB := Lib.hid c6
      clear c6
      go_wp2_with fail
      refine (K2.out _).mono ?_
      rintro e w2 ⟨rfl, hb⟩
      have hS2 := KS.out _ _ hb hS1
      clear c0 c1 c2 c3 c4 c5 CB
      clear hb hS1
      obtain ⟨c0, c1, c2, c3, c4, c5, c6⟩ := id hS2
      have CB := Lib.hid c6
      clear c6
      go_wp2_with fail
      refine (K3.out _).mono ?_
      rintro e w3 ⟨rfl, hb⟩
      have hS3 := KS.out _ _ hb hS2
      clear c0 c1 c2 c3 c4 c5 CB
      clear hb hS2
      obtain ⟨c0, c1, c2, c3, c4, c5, c6⟩ := id hS3
      have CB := Lib.hid c6
      clear c6
      go_wp2
      go_ret
      exact ⟨rfl, CB.out⟩

theorem Holds_any (r : Rc) (p : Pt) (w : World) : Calls Try.prog 27 #[rc r, pt p] w fun e w' => e = .returned (.bool (HoldsF r p)) ∧ Below w.heap.size w w' :=
  Holds_road r.x0 r.y0 r.x1 r.y1 p.x p.y _ _ _ (MayR_any r) (May_any p) (holds_any r p) w

set_option maxHeartbeats 2000000 in
theorem Over_road (rx0 ry0 rx1 ry1 sx0 sy0 sx1 sy1 : Int) (m y a b c d : Bool)
    (ha : decide (rx0 ≤ sx1) = a) (hb : decide (sx0 ≤ rx1) = b) (hc : decide (ry0 ≤ sy1) = c) (hd : decide (sy0 ≤ ry1) = d)
    (k1 : ∀ w, Calls Try.prog 28 #[.agg #[.int .i64 rx0, .int .i64 ry0, .int .i64 rx1, .int .i64 ry1]] w fun e w' => e = .returned (.bool m) ∧ Below w.heap.size w w')
    (k2 : ∀ w, Calls Try.prog 28 #[.agg #[.int .i64 sx0, .int .i64 sy0, .int .i64 sx1, .int .i64 sy1]] w fun e w' => e = .returned (.bool y) ∧ Below w.heap.size w w') (w : World) :
    Calls Try.prog 31 #[.agg #[.int .i64 rx0, .int .i64 ry0, .int .i64 rx1, .int .i64 ry1], .agg #[.int .i64 sx0, .int .i64 sy0, .int .i64 sx1, .int .i64 sy1]] w fun e w' => e = .returned (.bool (m && y && (a && (b && (c && d))))) ∧ Below w.heap.size w w' := by
  have keep : ∀ a b : World, Below a.heap.size a b → (fun v : World => v.cell? ⟨w.heap.size, 0, none⟩ = some (.int .i64 rx0) ∧ v.cell? ⟨w.heap.size, 1, none⟩ = some (.int .i64 ry0) ∧ v.cell? ⟨w.heap.size, 2, none⟩ = some (.int .i64 rx1) ∧ v.cell? ⟨w.heap.size, 3, none⟩ = some (.int .i64 ry1) ∧ v.cell? ⟨w.heap.size + 1, 0, none⟩ = some (.int .i64 sx0) ∧ v.cell? ⟨w.heap.size + 1, 1, none⟩ = some (.int .i64 sy0) ∧ v.cell? ⟨w.heap.size + 1, 2, none⟩ = some (.int .i64 sx1) ∧ v.cell? ⟨w.heap.size + 1, 3, none⟩ = some (.int .i64 sy1) ∧ Below w.heap.size w v) a → (fun v : World => v.cell? ⟨w.heap.size, 0, none⟩ = some (.int .i64 rx0) ∧ v.cell? ⟨w.heap.size, 1, none⟩ = some (.int .i64 ry0) ∧ v.cell? ⟨w.heap.size, 2, none⟩ = some (.int .i64 rx1) ∧ v.cell? ⟨w.heap.size, 3, none⟩ = some (.int .i64 ry1) ∧ v.cell? ⟨w.heap.size + 1, 0, none⟩ = some (.int .i64 sx0) ∧ v.cell? ⟨w.heap.size + 1, 1, none⟩ = some (.int .i64 sy0) ∧ v.cell? ⟨w.heap.size + 1, 2, none⟩ = some (.int .i64 sx1) ∧ v.cell? ⟨w.heap.size + 1, 3, none⟩ = some (.int .i64 sy1) ∧ Below w.heap.size w v) b := fun a b hb ⟨h0, h1, h2, h3, h4, h5, h6, h7, h8⟩ => ⟨cell_grew h0 hb, cell_grew h1 hb, cell_grew h2 hb, cell_grew h3 hb, cell_grew h4 hb, cell_grew h5 hb, cell_grew h6 hb, cell_grew h7 hb, grow h8 hb⟩
  have KS := Lib.hid keep
  have drew : ∀ a : World, (fun v : World => v.cell? ⟨w.heap.size, 0, none⟩ = some (.int .i64 rx0) ∧ v.cell? ⟨w.heap.size, 1, none⟩ = some (.int .i64 ry0) ∧ v.cell? ⟨w.heap.size, 2, none⟩ = some (.int .i64 rx1) ∧ v.cell? ⟨w.heap.size, 3, none⟩ = some (.int .i64 ry1) ∧ v.cell? ⟨w.heap.size + 1, 0, none⟩ = some (.int .i64 sx0) ∧ v.cell? ⟨w.heap.size + 1, 1, none⟩ = some (.int .i64 sy0) ∧ v.cell? ⟨w.heap.size + 1, 2, none⟩ = some (.int .i64 sx1) ∧ v.cell? ⟨w.heap.size + 1, 3, none⟩ = some (.int .i64 sy1) ∧ Below w.heap.size w v) a → (fun v : World => v.cell? ⟨w.heap.size, 0, none⟩ = some (.int .i64 rx0) ∧ v.cell? ⟨w.heap.size, 1, none⟩ = some (.int .i64 ry0) ∧ v.cell? ⟨w.heap.size, 2, none⟩ = some (.int .i64 rx1) ∧ v.cell? ⟨w.heap.size, 3, none⟩ = some (.int .i64 ry1) ∧ v.cell? ⟨w.heap.size + 1, 0, none⟩ = some (.int .i64 sx0) ∧ v.cell? ⟨w.heap.size + 1, 1, none⟩ = some (.int .i64 sy0) ∧ v.cell? ⟨w.heap.size + 1, 2, none⟩ = some (.int .i64 sx1) ∧ v.cell? ⟨w.heap.size + 1, 3, none⟩ = some (.int .i64 sy1) ∧ Below w.heap.size w v) a.drew := fun a ⟨h0, h1, h2, h3, h4, h5, h6, h7, h8⟩ => ⟨h0, h1, h2, h3, h4, h5, h6, h7, h8.drew⟩
  have HD := Lib.hid drew
  have alc : ∀ (a : World) (o : Obj), (fun v : World => v.cell? ⟨w.heap.size, 0, none⟩ = some (.int .i64 rx0) ∧ v.cell? ⟨w.heap.size, 1, none⟩ = some (.int .i64 ry0) ∧ v.cell? ⟨w.heap.size, 2, none⟩ = some (.int .i64 rx1) ∧ v.cell? ⟨w.heap.size, 3, none⟩ = some (.int .i64 ry1) ∧ v.cell? ⟨w.heap.size + 1, 0, none⟩ = some (.int .i64 sx0) ∧ v.cell? ⟨w.heap.size + 1, 1, none⟩ = some (.int .i64 sy0) ∧ v.cell? ⟨w.heap.size + 1, 2, none⟩ = some (.int .i64 sx1) ∧ v.cell? ⟨w.heap.size + 1, 3, none⟩ = some (.int .i64 sy1) ∧ Below w.heap.size w v) a → (fun v : World => v.cell? ⟨w.heap.size, 0, none⟩ = some (.int .i64 rx0) ∧ v.cell? ⟨w.heap.size, 1, none⟩ = some (.int .i64 ry0) ∧ v.cell? ⟨w.heap.size, 2, none⟩ = some (.int .i64 rx1) ∧ v.cell? ⟨w.heap.size, 3, none⟩ = some (.int .i64 ry1) ∧ v.cell? ⟨w.heap.size + 1, 0, none⟩ = some (.int .i64 sx0) ∧ v.cell? ⟨w.heap.size + 1, 1, none⟩ = some (.int .i64 sy0) ∧ v.cell? ⟨w.heap.size + 1, 2, none⟩ = some (.int .i64 sx1) ∧ v.cell? ⟨w.heap.size + 1, 3, none⟩ = some (.int .i64 sy1) ∧ Below w.heap.size w v) (a.alloc o) := fun a o h => keep _ _ ((Below.refl _ a).alloc (Nat.le_refl _) o) h
  have HA := Lib.hid alc
  clear keep drew alc
  obtain ⟨w0, hw0, p0, p1, g0, z0⟩ := boxes2 w #[.int .i64 rx0, .int .i64 ry0, .int .i64 rx1, .int .i64 ry1] #[.int .i64 sx0, .int .i64 sy0, .int .i64 sx1, .int .i64 sy1] 38 38
  have hS0 : (fun v : World => v.cell? ⟨w.heap.size, 0, none⟩ = some (.int .i64 rx0) ∧ v.cell? ⟨w.heap.size, 1, none⟩ = some (.int .i64 ry0) ∧ v.cell? ⟨w.heap.size, 2, none⟩ = some (.int .i64 rx1) ∧ v.cell? ⟨w.heap.size, 3, none⟩ = some (.int .i64 ry1) ∧ v.cell? ⟨w.heap.size + 1, 0, none⟩ = some (.int .i64 sx0) ∧ v.cell? ⟨w.heap.size + 1, 1, none⟩ = some (.int .i64 sy0) ∧ v.cell? ⟨w.heap.size + 1, 2, none⟩ = some (.int .i64 sx1) ∧ v.cell? ⟨w.heap.size + 1, 3, none⟩ = some (.int .i64 sy1) ∧ Below w.heap.size w v) w0 := ⟨p0.four.1, p0.four.2.1, p0.four.2.2.1, p0.four.2.2.2.1, p1.four.1, p1.four.2.1, p1.four.2.2.1, p1.four.2.2.2.1, g0⟩
  clear p0 p1 z0 g0
  have K1 := Lib.hid k1
  have K2 := Lib.hid k2
  clear k1 k2
  cases m
  · go_enter Try.func31, Try.ntmps31
    obtain ⟨c0, c1, c2, c3, c4, c5, c6, c7, c8⟩ := id hS0
    have CB := Lib.hid c8
    clear c8
    go_wp2_with fail
    (try clear hw0)
    refine (K1.out _).mono ?_
    rintro e w1 ⟨rfl, hb⟩
    have hS1 := KS.out _ _ hb hS0
    clear c0 c1 c2 c3 c4 c5 c6 c7 CB
    clear hb hS0
    obtain ⟨c0, c1, c2, c3, c4, c5, c6, c7, c8⟩ := id hS1
    have CB := Lib.hid c8
    clear c8
    go_wp2
    go_ret
    exact ⟨rfl, CB.out⟩
  · cases y
    · go_enter Try.func31, Try.ntmps31
      obtain ⟨c0, c1, c2, c3, c4, c5, c6, c7, c8⟩ := id hS0
      have CB := Lib.hid c8
      clear c8
      go_wp2_with fail
      (try clear hw0)
      refine (K1.out _).mono ?_
      rintro e w1 ⟨rfl, hb⟩
      have hS1 := KS.out _ _ hb hS0
      clear c0 c1 c2 c3 c4 c5 c6 c7 CB
      clear hb hS0
      obtain ⟨c0, c1, c2, c3, c4, c5, c6, c7, c8⟩ := id hS1
      have CB := Lib.hid c8
      clear c8
      go_wp2_with fail
      refine (K2.out _).mono ?_
      rintro e w2 ⟨rfl, hb⟩
      have hS2 := KS.out _ _ hb hS1
      clear c0 c1 c2 c3 c4 c5 c6 c7 CB
      clear hb hS1
      obtain ⟨c0, c1, c2, c3, c4, c5, c6, c7, c8⟩ := id hS2
      have CB := Lib.hid c8
      clear c8
      go_wp2
      go_ret
      exact ⟨rfl, CB.out⟩
    · cases a
      · go_enter Try.func31, Try.ntmps31
        obtain ⟨c0, c1, c2, c3, c4, c5, c6, c7, c8⟩ := id hS0
        have CB := Lib.hid c8
        clear c8
        go_wp2_with fail
        (try clear hw0)
        refine (K1.out _).mono ?_
        rintro e w1 ⟨rfl, hb⟩
        have hS1 := KS.out _ _ hb hS0
        clear c0 c1 c2 c3 c4 c5 c6 c7 CB
        clear hb hS0
        obtain ⟨c0, c1, c2, c3, c4, c5, c6, c7, c8⟩ := id hS1
        have CB := Lib.hid c8
        clear c8
        go_wp2_with fail
        refine (K2.out _).mono ?_
        rintro e w2 ⟨rfl, hb⟩
        have hS2 := KS.out _ _ hb hS1
        clear c0 c1 c2 c3 c4 c5 c6 c7 CB
        clear hb hS1
        obtain ⟨c0, c1, c2, c3, c4, c5, c6, c7, c8⟩ := id hS2
        have CB := Lib.hid c8
        clear c8
        go_wp2
        go_ret
        exact ⟨rfl, CB.out⟩
      · cases b
        · go_enter Try.func31, Try.ntmps31
          obtain ⟨c0, c1, c2, c3, c4, c5, c6, c7, c8⟩ := id hS0
          have CB := Lib.hid c8
          clear c8
          go_wp2_with fail
          (try clear hw0)
          refine (K1.out _).mono ?_
          rintro e w1 ⟨rfl, hb⟩
          have hS1 := KS.out _ _ hb hS0
          clear c0 c1 c2 c3 c4 c5 c6 c7 CB
          clear hb hS0
          obtain ⟨c0, c1, c2, c3, c4, c5, c6, c7, c8⟩ := id hS1
          have CB := Lib.hid c8
          clear c8
          go_wp2_with fail
          refine (K2.out _).mono ?_
          rintro e w2 ⟨rfl, hb⟩
          have hS2 := KS.out _ _ hb hS1
          clear c0 c1 c2 c3 c4 c5 c6 c7 CB
          clear hb hS1
          obtain ⟨c0, c1, c2, c3, c4, c5, c6, c7, c8⟩ := id hS2
          have CB := Lib.hid c8
          clear c8
          go_wp2
          go_ret
          exact ⟨rfl, CB.out⟩
        · cases c
          · go_enter Try.func31, Try.ntmps31
            obtain ⟨c0, c1, c2, c3, c4, c5, c6, c7, c8⟩ := id hS0
            have CB := Lib.hid c8
            clear c8
            go_wp2_with fail
            (try clear hw0)
            refine (K1.out _).mono ?_
            rintro e w1 ⟨rfl, hb⟩
            have hS1 := KS.out _ _ hb hS0
            clear c0 c1 c2 c3 c4 c5 c6 c7 CB
            clear hb hS0
            obtain ⟨c0, c1, c2, c3, c4, c5, c6, c7, c8⟩ := id hS1
            have CB := Lib.hid c8
            clear c8
            go_wp2_with fail
            refine (K2.out _).mono ?_
            rintro e w2 ⟨rfl, hb⟩
            have hS2 := KS.out _ _ hb hS1
            clear c0 c1 c2 c3 c4 c5 c6 c7 CB
            clear hb hS1
            obtain ⟨c0, c1, c2, c3, c4, c5, c6, c7, c8⟩ := id hS2
            have CB := Lib.hid c8
            clear c8
            go_wp2
            go_ret
            exact ⟨rfl, CB.out⟩
          · cases d
            · go_enter Try.func31, Try.ntmps31
              obtain ⟨c0, c1, c2, c3, c4, c5, c6, c7, c8⟩ := id hS0
              have CB := Lib.hid c8
              clear c8
              go_wp2_with fail
              (try clear hw0)
              refine (K1.out _).mono ?_
              rintro e w1 ⟨rfl, hb⟩
              have hS1 := KS.out _ _ hb hS0
              clear c0 c1 c2 c3 c4 c5 c6 c7 CB
              clear hb hS0
              obtain ⟨c0, c1, c2, c3, c4, c5, c6, c7, c8⟩ := id hS1
              have CB := Lib.hid c8
              clear c8
              go_wp2_with fail
              refine (K2.out _).mono ?_
              rintro e w2 ⟨rfl, hb⟩
              have hS2 := KS.out _ _ hb hS1
              clear c0 c1 c2 c3 c4 c5 c6 c7 CB
              clear hb hS1
              obtain ⟨c0, c1, c2, c3, c4, c5, c6, c7, c8⟩ := id hS2
              have CB := Lib.hid c8
              clear c8
              go_wp2
              go_ret
              exact ⟨rfl, CB.out⟩
            · go_enter Try.func31, Try.ntmps31
              obtain ⟨c0, c1, c2, c3, c4, c5, c6, c7, c8⟩ := id hS0
              have CB := Lib.hid c8
              clear c8
              go_wp2_with fail
              (try clear hw0)
              refine (K1.out _).mono ?_
              rintro e w1 ⟨rfl, hb⟩
              have hS1 := KS.out _ _ hb hS0
              clear c0 c1 c2 c3 c4 c5 c6 c7 CB
              clear hb hS0
              obtain ⟨c0, c1, c2, c3, c4, c5, c6, c7, c8⟩ := id hS1
              have CB := Lib.hid c8
              clear c8
              go_wp2_with fail
              refine (K2.out _).mono ?_
              rintro e w2 ⟨rfl, hb⟩
              have hS2 := KS.out _ _ hb hS1
              clear c0 c1 c2 c3 c4 c5 c6 c7 CB
              clear hb hS1
              obtain ⟨c0, c1, c2, c3, c4, c5, c6, c7, c8⟩ := id hS2
              have CB := Lib.hid c8
              clear c8
              go_wp2
              go_ret
              exact ⟨rfl, CB.out⟩

theorem Over_any (r s : Rc) (w : World) : Calls Try.prog 31 #[rc r, rc s] w fun e w' => e = .returned (.bool (OverF r s)) ∧ Below w.heap.size w w' := by
  have h := Over_road r.x0 r.y0 r.x1 r.y1 s.x0 s.y0 s.x1 s.y1 _ _ _ _ _ _ rfl rfl rfl rfl (MayR_any r) (MayR_any s) w
  rw [← Bool.decide_and (p := r.y0 ≤ s.y1), ← Bool.decide_and (p := s.x0 ≤ r.x1), ← Bool.decide_and (p := r.x0 ≤ s.x1)] at h
  exact h

set_option maxHeartbeats 2000000 in
theorem join_any (r s : Rc) (w : World) : Calls Try.prog 49 #[rc r, rc s] w fun e w' => e = .returned (rc (joinR r s)) ∧ Below w.heap.size w w' := by
  obtain ⟨rx0, ry0, rx1, ry1⟩ := r
  obtain ⟨sx0, sy0, sx1, sy1⟩ := s
  go_enter Try.func49, Try.ntmps49
  go_wp2
  all_goals
    refine bodyPost_ret (v := rc (joinR ⟨rx0, ry0, rx1, ry1⟩ ⟨sx0, sy0, sx1, sy1⟩)) ?_ rfl ⟨rfl, ?_⟩
    · simp [results, Try.results49, go_sem, joinR]
      try omega
    · go_grown

set_option maxHeartbeats 4000000 in
theorem refJoin_any (r s : Rc) (w : World) : Calls Try.prog 35 #[rc r, rc s] w fun e w' => e = .returned (rc (joinR r s)) ∧ Below w.heap.size w w' := by
  obtain ⟨rx0, ry0, rx1, ry1⟩ := r
  obtain ⟨sx0, sy0, sx1, sy1⟩ := s
  by_cases h1 : sx0 < rx0 <;> by_cases h2 : sy0 < ry0 <;> by_cases h3 : rx1 < sx1 <;> by_cases h4 : ry1 < sy1
  all_goals
    go_enter Try.func35, Try.ntmps35
    go_wp2
    refine bodyPost_ret (v := rc (joinR ⟨rx0, ry0, rx1, ry1⟩ ⟨sx0, sy0, sx1, sy1⟩)) ?_ rfl ⟨rfl, ?_⟩
    · simp [results, Try.results35, go_sem, joinR]
      try omega
    · go_grown
end Go.Proofs.Ytkneohngbkmlpaa
