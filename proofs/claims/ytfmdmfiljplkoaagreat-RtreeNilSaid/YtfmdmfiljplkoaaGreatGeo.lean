/- The plane: May, MayRect, Overlap, Join, Nearest (chapter 08's contracts, turned to this seat by mk_geo.py). -/
import Derived.Deep.RegionHeld3
import Derived.Lib.Mul64
import Derived.Laws.Bits64b
import Derived.Test.YtfmdmfiljplkoaaGreatChecked
import Derived.Test.YtfmdmfiljplkoaaGreatRange
import Derived.Test.YtfmdmfiljplkoaaGreatSteady
import Derived.Test.YtfmdmfiljplkoaaGreatHeld
namespace Go.Proofs.YtfmdmfiljplkoaaGreat.Geo
open Go.RowKit
def cmpZ (x y : Int) : Int := if x < y then -1 else if y < x then 1 else 0
def orZ (x y : Int) : Int := if x = 0 then y else x
end Go.Proofs.YtfmdmfiljplkoaaGreat.Geo
namespace Go.Proofs.YtfmdmfiljplkoaaGreat.Geo
open Go.RowKit
end Go.Proofs.YtfmdmfiljplkoaaGreat.Geo
namespace Go.Proofs.YtfmdmfiljplkoaaGreat.Geo
open Go.RowKit
structure Pt where
  x : Int
  y : Int
deriving DecidableEq
/-- A point as a value. -/
abbrev pt (p : Pt) : Value := .agg #[.int .i64 p.x, .int .i64 p.y]
/-- A point that may be. -/
def May (p : Pt) : Prop := -1800000000 ≤ p.x ∧ p.x ≤ 1800000000 ∧ -900000000 ≤ p.y ∧ p.y ≤ 900000000
instance (p : Pt) : Decidable (May p) := inferInstanceAs (Decidable (_ ∧ _))
/-- How three points turn. -/
def turnZ (a b c : Pt) : Int := cmpZ ((b.x - a.x) * (c.y - a.y)) ((b.y - a.y) * (c.x - a.x))
/-- Boxes laid one upon the other. -/
theorem boxes1 (w : World) (c0 : Array Value) (t0 : TypeId) : ∃ w0, w.alloc (.cells c0 t0) = w0 ∧ Blk w0 w.heap.size c0 t0 ∧ Below w.heap.size w w0 ∧ w0.heap.size = w.heap.size + 1 :=
  ⟨_, rfl, Blk.new w c0 t0, grow_alloc (Below.refl _ w) _, by simp⟩
theorem boxes2 (w : World) (c0 c1 : Array Value) (t0 t1 : TypeId) : ∃ w0, (w.alloc (.cells c0 t0)).alloc (.cells c1 t1) = w0 ∧ Blk w0 w.heap.size c0 t0 ∧ Blk w0 (w.heap.size + 1) c1 t1 ∧ Below w.heap.size w w0 ∧ w0.heap.size = w.heap.size + 2 := by
  obtain ⟨w1, e1, p0, g, z⟩ := boxes1 w c0 t0
  refine ⟨_, rfl, ?_⟩
  rw [e1]
  exact ⟨p0.alloc _, Blk.new' w1 c1 t1 (by omega), grow_alloc g _, by simp [z]⟩
end Go.Proofs.YtfmdmfiljplkoaaGreat.Geo
namespace Go.Proofs.YtfmdmfiljplkoaaGreat.Geo
open Go.RowKit
theorem within_any (n l h : Int) (w : World) : Calls Tryz.prog 46 #[.int .i64 n, .int .i64 l, .int .i64 h] w fun e w' => e = .returned (.bool (decide (l ≤ n ∧ n ≤ h))) ∧ w = w' := by
  by_cases h1 : l ≤ n
  · by_cases h2 : n ≤ h
    · rw [decide_eq_true ⟨h1, h2⟩]
      go_enter Tryz.func46, Tryz.ntmps46
      go_wp2
      go_ret
      exact ⟨rfl, rfl⟩
    · rw [decide_eq_false (fun q => h2 q.2)]
      go_enter Tryz.func46, Tryz.ntmps46
      go_wp2
      go_ret
      exact ⟨rfl, rfl⟩
  · rw [decide_eq_false (fun q => h1 q.1)]
    go_enter Tryz.func46, Tryz.ntmps46
    go_wp2
    go_ret
    exact ⟨rfl, rfl⟩
theorem May_any (p : Pt) (w : World) : Calls Tryz.prog 14 #[pt p] w fun e w' => e = .returned (.bool (decide (May p))) ∧ Below w.heap.size w w' := by
  obtain ⟨x, y⟩ := p
  have k1 := within_any x (-1800000000) 1800000000
  have k2 := within_any y (-900000000) 900000000
  have hd : decide (May ⟨x, y⟩) = (decide (-1800000000 ≤ x ∧ x ≤ 1800000000) && decide (-900000000 ≤ y ∧ y ≤ 900000000)) := by
    rw [← Bool.decide_and, decide_eq_decide]
    exact ⟨fun ⟨a, b, c, d⟩ => ⟨⟨a, b⟩, c, d⟩, fun ⟨⟨a, b⟩, c, d⟩ => ⟨a, b, c, d⟩⟩
  rw [hd]
  generalize decide (-1800000000 ≤ x ∧ x ≤ 1800000000) = b1 at *
  generalize decide (-900000000 ≤ y ∧ y ≤ 900000000) = b2 at *
  have K1 := Lib.hid k1
  have K2 := Lib.hid k2
  clear k1 k2 hd
  cases b1
  · go_enter Tryz.func14, Tryz.ntmps14
    go_wp2_with fail
    refine (K1.out _).mono ?_
    rintro e w1 ⟨rfl, rfl⟩
    go_wp2
    go_ret
    exact ⟨rfl, by go_grown⟩
  · go_enter Tryz.func14, Tryz.ntmps14
    go_wp2_with fail
    refine (K1.out _).mono ?_
    rintro e w1 ⟨rfl, rfl⟩
    go_wp2_with fail
    refine (K2.out _).mono ?_
    rintro e w1 ⟨rfl, rfl⟩
    go_wp2
    go_ret
    exact ⟨rfl, by go_grown⟩
structure Rc where
  x0 : Int
  y0 : Int
  x1 : Int
  y1 : Int
abbrev rc (r : Rc) : Value := .agg #[.int .i64 r.x0, .int .i64 r.y0, .int .i64 r.x1, .int .i64 r.y1]
def spanR (a b : Pt) : Rc := ⟨min a.x b.x, min a.y b.y, max a.x b.x, max a.y b.y⟩
def holdsR (r : Rc) (p : Pt) : Prop := r.x0 ≤ p.x ∧ p.x ≤ r.x1 ∧ r.y0 ≤ p.y ∧ p.y ≤ r.y1
instance (r : Rc) (p : Pt) : Decidable (holdsR r p) := inferInstanceAs (Decidable (_ ∧ _))
/-- Is a point on an edge? -/
def onZ (a b p : Pt) : Prop := turnZ a b p = 0 ∧ holdsR (spanR a b) p
instance (a b p : Pt) : Decidable (onZ a b p) := inferInstanceAs (Decidable (_ ∧ _))
end Go.Proofs.YtfmdmfiljplkoaaGreat.Geo
namespace Go.Proofs.YtfmdmfiljplkoaaGreat.Geo
open Go.RowKit
/-- What a cell holds. -/
def val (w : World) (a : Addr) : Value := (w.cell? a).getD undef
end Go.Proofs.YtfmdmfiljplkoaaGreat.Geo
namespace Go.Proofs.YtfmdmfiljplkoaaGreat.Geo
open Go.RowKit
theorem add_block (p : Addr) (k : Nat) : (p.add k).block = p.block := by
  unfold Addr.add; split <;> rfl
theorem add_one (p : Addr) : p.add 1 = ⟨p.block, p.off + 1, none⟩ := by
  show (if _ then _ else _) = _
  simp
/-- A slice reads as points, in a block below L. -/
def Pts (w : World) (L : Nat) (A : Option Addr) (l : List Pt) : Prop :=
  l ≠ [] → ∃ p, A = some p ∧ p.block < L ∧ ∀ k (h : k < l.length), w.cell? (p.add (k * 2)) = some (.int .i64 l[k].x) ∧ w.cell? ((p.add (k * 2)).add 1) = some (.int .i64 l[k].y)
theorem Pts.below {w w' : World} {L B : Nat} {A : Option Addr} {l : List Pt} (h : Pts w L A l) (hb : Below B w w') (hL : L ≤ B) : Pts w' L A l := by
  intro hn
  obtain ⟨p, e, hp, hc⟩ := h hn
  refine ⟨p, e, hp, fun k hk => ?_⟩
  rw [hb.cell (by rw [add_block]; omega), hb.cell (by rw [add_block, add_block]; omega)]
  exact hc k hk
theorem Pts.get {w : World} {L : Nat} {A : Option Addr} {l : List Pt} (h : Pts w L A l) {k : Nat} (hk : k < l.length) : ∃ p, A = some p ∧ p.block < L ∧ w.cell? (p.add (k * 2)) = some (.int .i64 l[k].x) ∧ w.cell? ((p.add (k * 2)).add 1) = some (.int .i64 l[k].y) := by
  obtain ⟨p, e, hp, hc⟩ := h (by intro e; rw [e] at hk; simp at hk)
  exact ⟨p, e, hp, hc k hk⟩
set_option maxHeartbeats 1000000 in
theorem all_any (A : Option Addr) (l : List Pt) (n c : Nat) (w : World) (hn : l.length = n) (hr : Pts w w.heap.size A l) (hl : (n : Int) ≤ 1000000) :
    Calls Tryz.prog 49 #[.slice A n c] w fun e w' => e = .returned (.bool (decide (∀ p ∈ l, May p))) ∧ Below w.heap.size w w' := by
  have HR := Lib.hid hr
  have HN := Lib.hid hn
  clear hr hn
  go_enter Tryz.func49, Tryz.ntmps49
  go_wp2
  go_loopw [7] (fun i wr => ∃ k : Nat, k ≤ n ∧ i = .int .i64 k ∧ Hid (Below w.heap.size w wr) ∧ Hid (∀ j (h : j < l.length), j < k → May l[j])) (fun i _ => n - (intOf i).toNat)
  case atStart => exact ⟨0, by omega, rfl, Lib.hid (Below.refl _ _), Lib.hid fun j _ h => absurd h (by omega)⟩
  case round =>
    obtain ⟨k, hk, rfl, HB, HM⟩ := hrel
    by_cases hlt : k < n
    · have hkl : k < l.length := by rw [HN.out]; exact hlt
      obtain ⟨p, e, _, h1, h2⟩ := (HR.out.below HB.out (Nat.le_refl _)).get hkl
      cases e
      obtain ⟨q, hq⟩ : ∃ q, l[k] = q := ⟨_, rfl⟩
      rw [hq] at h1 h2
      have HQ := Lib.hid hq
      clear hq
      have km := May_any q
      obtain ⟨qx, qy⟩ := q
      dsimp only at h1 h2
      have KM := Lib.hid km
      clear km
      rw [add_one] at h2
      by_cases hm : May ⟨qx, qy⟩
      · have hd : decide (May ⟨qx, qy⟩) = true := decide_eq_true hm
        go_wp2_with fail
        refine (KM.out _).mono ?_
        rintro e w1 ⟨rfl, hb1⟩
        have HB1 := Lib.hid (grow (grow_alloc HB.out (.cells #[.int .i64 qx, .int .i64 qy] 24)) hb1)
        clear hb1
        rw [hd]
        have HM2 := Lib.hid hm
        clear hm hd
        go_wp2
        go_round
        case rel => exact ⟨k + 1, by omega, val_int rfl, HB1, Lib.hid fun j h hj => by
          by_cases e : j = k
          · subst e; rw [HQ.out]; exact HM2.out
          · exact HM.out j h (by omega)⟩
        case measure => simp only [intOf]; omega
      · have hd : decide (May ⟨qx, qy⟩) = false := decide_eq_false hm
        have hno : decide (∀ p ∈ l, May p) = false := decide_eq_false fun h => hm (by rw [← HQ.out]; exact h _ (List.getElem_mem _))
        have HNO := Lib.hid hno
        clear hno hm
        go_wp2_with fail
        refine (KM.out _).mono ?_
        rintro e w1 ⟨rfl, hb1⟩
        have HB1 := Lib.hid (grow (grow_alloc HB.out (.cells #[.int .i64 qx, .int .i64 qy] 24)) hb1)
        clear hb1
        rw [hd]
        go_wp2
        go_ret
        exact ⟨ret_bool HNO.out.symm, HB1.out⟩
    · have hyes : decide (∀ p ∈ l, May p) = true := decide_eq_true fun p hp => by
        obtain ⟨j, hj, rfl⟩ := List.mem_iff_getElem.1 hp
        exact HM.out j hj (by have := HN.out; omega)
      have HY := Lib.hid hyes
      clear hyes
      go_wp2
      go_ret
      exact ⟨ret_bool HY.out.symm, HB.out⟩
end Go.Proofs.YtfmdmfiljplkoaaGreat.Geo
namespace Go.Proofs.YtfmdmfiljplkoaaGreat.Geo
open Go.RowKit
end Go.Proofs.YtfmdmfiljplkoaaGreat.Geo
namespace Go.Proofs.YtfmdmfiljplkoaaGreat.Geo
open Go.RowKit
end Go.Proofs.YtfmdmfiljplkoaaGreat.Geo
namespace Go.Proofs.YtfmdmfiljplkoaaGreat.Geo
open Go.RowKit
/-- Do two edges cross? -/
def crossZ (a b c d : Pt) : Bool := decide (turnZ a b c * turnZ a b d < 0) && decide (turnZ c d a * turnZ c d b < 0)
/-- Have two edges a point in common? -/
def meetZ (a b c d : Pt) : Bool := crossZ a b c d || (decide (onZ a b c) || (decide (onZ a b d) || (decide (onZ c d a) || decide (onZ c d b))))
/-- The functions that look first whether all points may be. -/
def TurnF (a b c : Pt) : Int := if May a ∧ May b ∧ May c then turnZ a b c else 0
def OnF (a b c : Pt) : Bool := decide (May a ∧ May b ∧ May c) && decide (onZ a b c)
def MeetF (a b c d : Pt) : Bool := decide (May a ∧ May b ∧ May c ∧ May d) && meetZ a b c d
def CrossF (a b c d : Pt) : Bool := decide (May a ∧ May b ∧ May c ∧ May d) && crossZ a b c d
end Go.Proofs.YtfmdmfiljplkoaaGreat.Geo
namespace Go.Proofs.YtfmdmfiljplkoaaGreat.Geo
open Go.RowKit
def btw (a n b : Int) : Prop := a ≤ n ∧ n ≤ b ∨ b ≤ n ∧ n ≤ a
instance (a n b : Int) : Decidable (btw a n b) := inferInstanceAs (Decidable (_ ∨ _))
theorem mul_bd {x y m n : Int} (x0 : -m ≤ x) (x1 : x ≤ m) (y0 : -n ≤ y) (y1 : y ≤ n) : -(m * n) ≤ x * y ∧ x * y ≤ m * n := by
  have h1 : 0 ≤ (m - x) * (n + y) := Int.mul_nonneg (by omega) (by omega)
  have h2 : 0 ≤ (m + x) * (n - y) := Int.mul_nonneg (by omega) (by omega)
  have h3 : 0 ≤ (m - x) * (n - y) := Int.mul_nonneg (by omega) (by omega)
  have h4 : 0 ≤ (m + x) * (n + y) := Int.mul_nonneg (by omega) (by omega)
  simp only [Int.sub_mul, Int.mul_sub, Int.add_mul, Int.mul_add] at h1 h2 h3 h4
  generalize x * y = p at *
  generalize m * n = q at *
  generalize m * y = r at *
  generalize x * n = s at *
  omega
end Go.Proofs.YtfmdmfiljplkoaaGreat.Geo
namespace Go.Proofs.YtfmdmfiljplkoaaGreat.Geo
open Go.RowKit
theorem square_any (n : Int) (h1 : -3600000000 ≤ n) (h2 : n ≤ 3600000000) (w : World) :
    Calls Tryz.prog 103 #[.int .i64 n] w fun e w' => e = .returned (.int .u64 (n * n)) ∧ w = w' := by
  have hb := mul_bd (x := n) (y := n) (m := 3600000000) (n := 3600000000) h1 h2 h1 h2
  have h0 : 0 ≤ n * n := by
    rcases Int.le_total 0 n with h | h
    · exact Int.mul_nonneg h h
    · exact Int.mul_nonneg_of_nonpos_of_nonpos h h
  have f : IntKind.u64.wrap (IntKind.u64.wrap n * IntKind.u64.wrap n) = n * n := by
    rw [IntKind.wrap_u64, IntKind.wrap_u64, ← Int.mul_emod]
    exact Int.emod_eq_of_lt h0 (by omega)
  have F := Lib.hid f
  clear f hb h0 h1 h2
  go_enter Tryz.func103, Tryz.ntmps103
  go_wp2
  go_ret
  exact ⟨ret_int F.out, rfl⟩
theorem pts2 {w : World} {b : Nat} {x0 y0 x1 y1 : Int} (h : Blk w b #[.int .i64 x0, .int .i64 y0, .int .i64 x1, .int .i64 y1] 24) : Pts w w.heap.size (some ⟨b, 0, none⟩) [⟨x0, y0⟩, ⟨x1, y1⟩] := by
  refine fun _ => ⟨⟨b, 0, none⟩, rfl, h.lt, fun k hk => ?_⟩
  have c := h.four
  match k, hk with
  | 0, _ => exact ⟨c.1, c.2.1⟩
  | 1, _ => exact ⟨c.2.2.1, c.2.2.2.1⟩
theorem all2 (x0 y0 x1 y1 : Int) (w0 : World) : ∀ b, b = w0.heap.size →
    Calls Tryz.prog 49 #[.slice (some ⟨b, 0, none⟩) 2 2] (w0.alloc (.cells #[.int .i64 x0, .int .i64 y0, .int .i64 x1, .int .i64 y1] 24)) fun e w' => e = .returned (.bool (decide (May ⟨x0, y0⟩ ∧ May ⟨x1, y1⟩))) ∧ Below w0.heap.size w0 w' := by
  intro b hb
  have h := all_any (some ⟨b, 0, none⟩) [⟨x0, y0⟩, ⟨x1, y1⟩] 2 2 (w0.alloc (.cells #[.int .i64 x0, .int .i64 y0, .int .i64 x1, .int .i64 y1] 24)) rfl (pts2 (Blk.new' w0 _ 24 hb)) (by decide)
  have e : decide (∀ p ∈ [(⟨x0, y0⟩ : Pt), ⟨x1, y1⟩], May p) = decide (May ⟨x0, y0⟩ ∧ May ⟨x1, y1⟩) := by
    rw [decide_eq_decide]; simp
  rw [e] at h
  exact h.mono fun e w' ⟨h1, h2⟩ => ⟨h1, grow (grow_alloc (Below.refl _ w0) _) h2⟩
def distZ (a b : Pt) : Int := (a.x - b.x) * (a.x - b.x) + (a.y - b.y) * (a.y - b.y)
def DistF (a b : Pt) : Int := if May a ∧ May b then distZ a b else 0
set_option maxHeartbeats 2000000 in
theorem Dist_road (ax ay bx byy X Y Z DX DY : Int) (m : Bool)
    (k1 : ∀ w0 : World, ∀ b, b = w0.heap.size → Calls Tryz.prog 49 #[.slice (some ⟨b, 0, none⟩) 2 2] (w0.alloc (.cells #[.int .i64 ax, .int .i64 ay, .int .i64 bx, .int .i64 byy] 24)) fun e w' => e = .returned (.bool m) ∧ Below w0.heap.size w0 w')
    (d1 : IntKind.i64.wrap (ax - bx) = DX) (d2 : IntKind.i64.wrap (ay - byy) = DY) (d3 : m = true → IntKind.u64.wrap (X + Y) = Z)
    (k2 : m = true → ∀ w, Calls Tryz.prog 103 #[.int .i64 DX] w fun e w' => e = .returned (.int .u64 X) ∧ Below w.heap.size w w')
    (k3 : m = true → ∀ w, Calls Tryz.prog 103 #[.int .i64 DY] w fun e w' => e = .returned (.int .u64 Y) ∧ Below w.heap.size w w') (w : World) :
    Calls Tryz.prog 47 #[.agg #[.int .i64 ax, .int .i64 ay], .agg #[.int .i64 bx, .int .i64 byy]] w fun e w' => e = .returned (.int .u64 (if m then Z else 0)) ∧ Below w.heap.size w w' := by
  have keep : ∀ a b : World, Below a.heap.size a b → (fun v : World => v.cell? ⟨w.heap.size, 0, none⟩ = some (.int .i64 ax) ∧ v.cell? ⟨w.heap.size, 1, none⟩ = some (.int .i64 ay) ∧ v.cell? ⟨w.heap.size + 1, 0, none⟩ = some (.int .i64 bx) ∧ v.cell? ⟨w.heap.size + 1, 1, none⟩ = some (.int .i64 byy) ∧ Below w.heap.size w v) a → (fun v : World => v.cell? ⟨w.heap.size, 0, none⟩ = some (.int .i64 ax) ∧ v.cell? ⟨w.heap.size, 1, none⟩ = some (.int .i64 ay) ∧ v.cell? ⟨w.heap.size + 1, 0, none⟩ = some (.int .i64 bx) ∧ v.cell? ⟨w.heap.size + 1, 1, none⟩ = some (.int .i64 byy) ∧ Below w.heap.size w v) b := fun a b hb ⟨h0, h1, h2, h3, h4⟩ => ⟨cell_grew h0 hb, cell_grew h1 hb, cell_grew h2 hb, cell_grew h3 hb, grow h4 hb⟩
  have KS := Lib.hid keep
  have drew : ∀ a : World, (fun v : World => v.cell? ⟨w.heap.size, 0, none⟩ = some (.int .i64 ax) ∧ v.cell? ⟨w.heap.size, 1, none⟩ = some (.int .i64 ay) ∧ v.cell? ⟨w.heap.size + 1, 0, none⟩ = some (.int .i64 bx) ∧ v.cell? ⟨w.heap.size + 1, 1, none⟩ = some (.int .i64 byy) ∧ Below w.heap.size w v) a → (fun v : World => v.cell? ⟨w.heap.size, 0, none⟩ = some (.int .i64 ax) ∧ v.cell? ⟨w.heap.size, 1, none⟩ = some (.int .i64 ay) ∧ v.cell? ⟨w.heap.size + 1, 0, none⟩ = some (.int .i64 bx) ∧ v.cell? ⟨w.heap.size + 1, 1, none⟩ = some (.int .i64 byy) ∧ Below w.heap.size w v) a.drew := fun a ⟨h0, h1, h2, h3, h4⟩ => ⟨h0, h1, h2, h3, h4.drew⟩
  have HD := Lib.hid drew
  have alc : ∀ (a : World) (o : Obj), (fun v : World => v.cell? ⟨w.heap.size, 0, none⟩ = some (.int .i64 ax) ∧ v.cell? ⟨w.heap.size, 1, none⟩ = some (.int .i64 ay) ∧ v.cell? ⟨w.heap.size + 1, 0, none⟩ = some (.int .i64 bx) ∧ v.cell? ⟨w.heap.size + 1, 1, none⟩ = some (.int .i64 byy) ∧ Below w.heap.size w v) a → (fun v : World => v.cell? ⟨w.heap.size, 0, none⟩ = some (.int .i64 ax) ∧ v.cell? ⟨w.heap.size, 1, none⟩ = some (.int .i64 ay) ∧ v.cell? ⟨w.heap.size + 1, 0, none⟩ = some (.int .i64 bx) ∧ v.cell? ⟨w.heap.size + 1, 1, none⟩ = some (.int .i64 byy) ∧ Below w.heap.size w v) (a.alloc o) := fun a o h => keep _ _ ((Below.refl _ a).alloc (Nat.le_refl _) o) h
  have HA := Lib.hid alc
  clear keep drew alc
  obtain ⟨w0, hw0, p0, p1, g0, z0⟩ := boxes2 w #[.int .i64 ax, .int .i64 ay] #[.int .i64 bx, .int .i64 byy] 24 24
  have hS0 : (fun v : World => v.cell? ⟨w.heap.size, 0, none⟩ = some (.int .i64 ax) ∧ v.cell? ⟨w.heap.size, 1, none⟩ = some (.int .i64 ay) ∧ v.cell? ⟨w.heap.size + 1, 0, none⟩ = some (.int .i64 bx) ∧ v.cell? ⟨w.heap.size + 1, 1, none⟩ = some (.int .i64 byy) ∧ Below w.heap.size w v) w0 := ⟨p0.two.1, p0.two.2.1, p1.two.1, p1.two.2.1, g0⟩
  clear p0 p1 z0 g0
  have K1 := Lib.hid k1
  have K2 := Lib.hid k2
  have K3 := Lib.hid k3
  have D3 := Lib.hid d3
  clear k1 k2 k3 d3
  cases m
  · go_enter Tryz.func47, Tryz.ntmps47
    obtain ⟨c0, c1, c2, c3, c4⟩ := id hS0
    have CB := Lib.hid c4
    clear c4
    go_wp2_with fail
    (try clear hw0)
    refine (K1.out _ _ rfl).mono ?_
    rintro e w1 ⟨rfl, hb⟩
    have hS1 := KS.out _ _ hb hS0
    clear c0 c1 c2 c3 CB
    clear hb hS0
    obtain ⟨c0, c1, c2, c3, c4⟩ := id hS1
    have CB := Lib.hid c4
    clear c4
    go_wp2
    go_ret
    exact ⟨rfl, CB.out⟩
  · have K2' := Lib.hid (K2.out rfl)
    have K3' := Lib.hid (K3.out rfl)
    have d4 := D3.out rfl
    clear K2 K3 D3
    go_enter Tryz.func47, Tryz.ntmps47
    obtain ⟨c0, c1, c2, c3, c4⟩ := id hS0
    have CB := Lib.hid c4
    clear c4
    go_wp2_with fail
    (try clear hw0)
    refine (K1.out _ _ rfl).mono ?_
    rintro e w1 ⟨rfl, hb⟩
    have hS1 := KS.out _ _ hb hS0
    clear c0 c1 c2 c3 CB
    clear hb hS0
    obtain ⟨c0, c1, c2, c3, c4⟩ := id hS1
    have CB := Lib.hid c4
    clear c4
    go_wp2_with fail
    clear c0 c1 c2 c3 CB
    refine wp_region_steady (S := (fun v : World => v.cell? ⟨w.heap.size, 0, none⟩ = some (.int .i64 ax) ∧ v.cell? ⟨w.heap.size, 1, none⟩ = some (.int .i64 ay) ∧ v.cell? ⟨w.heap.size + 1, 0, none⟩ = some (.int .i64 bx) ∧ v.cell? ⟨w.heap.size + 1, 1, none⟩ = some (.int .i64 byy) ∧ Below w.heap.size w v)) (by kernel_rfl) (HD.out _ hS1) ?_
    refine wpS_take (i := 0) (v := ?_) rfl rfl (by kernel_rfl) (by kernel_rfl) (by kernel_rfl) (fun _ _ _ h => h) (Steady.value (by rfl) ?_) ?_
    rotate_left
    · (intro w hS; (try dsimp only at hS); go_simp; try with_reducible rfl)
    simp only [List.setIfInBounds_toArray, List.set_cons_zero, List.set_cons_succ]
    refine wpS_take (i := 1) (v := ?_) rfl rfl (by kernel_rfl) (by kernel_rfl) (by kernel_rfl) (fun _ _ _ h => h) (Steady.value (by rfl) ?_) ?_
    rotate_left
    · (intro w hS; (try dsimp only at hS); go_simp; try with_reducible rfl)
    simp only [List.setIfInBounds_toArray, List.set_cons_zero, List.set_cons_succ]
    refine wpS_take (i := 2) (v := ?_) rfl rfl (by kernel_rfl) (by kernel_rfl) (by kernel_rfl) (fun _ _ _ h => h) (Steady.value (by rfl) ?_) ?_
    rotate_left
    · (intro w hS; (try dsimp only at hS); go_simp; try with_reducible rfl)
    simp only [List.setIfInBounds_toArray, List.set_cons_zero, List.set_cons_succ]
    refine wpS_take (i := 3) (v := ?_) rfl rfl (by kernel_rfl) (by kernel_rfl) (by kernel_rfl) (fun _ _ _ h => h) (Steady.value (by rfl) ?_) ?_
    rotate_left
    · (intro w hS; (try dsimp only at hS); go_simp; try with_reducible rfl)
    simp only [List.setIfInBounds_toArray, List.set_cons_zero, List.set_cons_succ]
    refine wpS_take (i := 4) (v := ?_) rfl rfl (by kernel_rfl) (by kernel_rfl) (by kernel_rfl) (fun _ _ _ h => h) (Steady.value (by rfl) ?_) ?_
    rotate_left
    · (intro w hS; (try dsimp only at hS); go_simp; try with_reducible rfl)
    simp only [List.setIfInBounds_toArray, List.set_cons_zero, List.set_cons_succ]
    refine wpS_take (i := 5) rfl rfl (by kernel_rfl) (by kernel_rfl) (by kernel_rfl) (fun _ _ _ h => h) (Steady.call (by rfl) (steady_below KS.out K2'.out) (fun w hS => by (go_simp))) ?_
    simp only [List.setIfInBounds_toArray, List.set_cons_zero, List.set_cons_succ]
    refine wpS_take (i := 6) (v := ?_) rfl rfl (by kernel_rfl) (by kernel_rfl) (by kernel_rfl) (fun _ _ _ h => h) (Steady.value (by rfl) ?_) ?_
    rotate_left
    · (intro w hS; (try dsimp only at hS); go_simp; try with_reducible rfl)
    simp only [List.setIfInBounds_toArray, List.set_cons_zero, List.set_cons_succ]
    refine wpS_take (i := 7) (v := ?_) rfl rfl (by kernel_rfl) (by kernel_rfl) (by kernel_rfl) (fun _ _ _ h => h) (Steady.value (by rfl) ?_) ?_
    rotate_left
    · (intro w hS; (try dsimp only at hS); go_simp; try with_reducible rfl)
    simp only [List.setIfInBounds_toArray, List.set_cons_zero, List.set_cons_succ]
    refine wpS_take (i := 8) (v := ?_) rfl rfl (by kernel_rfl) (by kernel_rfl) (by kernel_rfl) (fun _ _ _ h => h) (Steady.value (by rfl) ?_) ?_
    rotate_left
    · (intro w hS; (try dsimp only at hS); go_simp; try with_reducible rfl)
    simp only [List.setIfInBounds_toArray, List.set_cons_zero, List.set_cons_succ]
    refine wpS_take (i := 9) (v := ?_) rfl rfl (by kernel_rfl) (by kernel_rfl) (by kernel_rfl) (fun _ _ _ h => h) (Steady.value (by rfl) ?_) ?_
    rotate_left
    · (intro w hS; (try dsimp only at hS); go_simp; try with_reducible rfl)
    simp only [List.setIfInBounds_toArray, List.set_cons_zero, List.set_cons_succ]
    refine wpS_take (i := 10) (v := ?_) rfl rfl (by kernel_rfl) (by kernel_rfl) (by kernel_rfl) (fun _ _ _ h => h) (Steady.value (by rfl) ?_) ?_
    rotate_left
    · (intro w hS; (try dsimp only at hS); go_simp; try with_reducible rfl)
    simp only [List.setIfInBounds_toArray, List.set_cons_zero, List.set_cons_succ]
    refine wpS_take (i := 11) rfl rfl (by kernel_rfl) (by kernel_rfl) (by kernel_rfl) (fun _ _ _ h => h) (Steady.call (by rfl) (steady_below KS.out K3'.out) (fun w hS => by (go_simp))) ?_
    simp only [List.setIfInBounds_toArray, List.set_cons_zero, List.set_cons_succ]
    refine wpS_take (i := 12) (v := ?_) rfl rfl (by kernel_rfl) (by kernel_rfl) (by kernel_rfl) (fun _ _ _ h => h) (Steady.value (by rfl) ?_) ?_
    rotate_left
    · (intro w hS; (try dsimp only at hS); go_simp; try with_reducible rfl)
    simp only [List.setIfInBounds_toArray, List.set_cons_zero, List.set_cons_succ]
    refine wpS_take (i := 13) (v := ?_) rfl rfl (by kernel_rfl) (by kernel_rfl) (by kernel_rfl) (fun _ _ _ h => h) (Steady.value (by rfl) ?_) ?_
    rotate_left
    · (intro w hS; (try dsimp only at hS); go_simp; try with_reducible rfl)
    simp only [List.setIfInBounds_toArray, List.set_cons_zero, List.set_cons_succ]
    refine wpS_done (by kernel_rfl) (fun W hS => ?_) _
    go_wp2
    go_ret
    exact ⟨rfl, hS.2.2.2.2⟩
theorem Dist_any (a b : Pt) (w : World) : Calls Tryz.prog 47 #[pt a, pt b] w fun e w' => e = .returned (.int .u64 (DistF a b)) ∧ Below w.heap.size w w' := by
  have h := Dist_road a.x a.y b.x b.y ((a.x - b.x) * (a.x - b.x)) ((a.y - b.y) * (a.y - b.y)) (distZ a b)
  unfold DistF
  by_cases hm : May a ∧ May b
  · obtain ⟨⟨a0, a1, a2, a3⟩, ⟨b0, b1, b2, b3⟩⟩ := id hm
    have k1 := all2 a.x a.y b.x b.y
    have e : decide (May ⟨a.x, a.y⟩ ∧ May ⟨b.x, b.y⟩) = true := decide_eq_true hm
    rw [e] at k1
    rw [if_pos hm]
    have hx := mul_bd (x := a.x - b.x) (y := a.x - b.x) (m := 3600000000) (n := 3600000000) (by omega) (by omega) (by omega) (by omega)
    have hy := mul_bd (x := a.y - b.y) (y := a.y - b.y) (m := 1800000000) (n := 1800000000) (by omega) (by omega) (by omega) (by omega)
    have hx0 : 0 ≤ (a.x - b.x) * (a.x - b.x) := by
      rcases Int.le_total 0 (a.x - b.x) with h | h
      · exact Int.mul_nonneg h h
      · exact Int.mul_nonneg_of_nonpos_of_nonpos h h
    have hy0 : 0 ≤ (a.y - b.y) * (a.y - b.y) := by
      rcases Int.le_total 0 (a.y - b.y) with h | h
      · exact Int.mul_nonneg h h
      · exact Int.mul_nonneg_of_nonpos_of_nonpos h h
    exact h (a.x - b.x) (a.y - b.y) true k1 (by rw [IntKind.wrap_i64]; omega) (by rw [IntKind.wrap_i64]; omega) (fun _ => by rw [IntKind.wrap_u64]; unfold distZ; exact Int.emod_eq_of_lt (by omega) (by omega))
      (fun _ w => (square_any _ (by omega) (by omega) w).mono fun _ _ ⟨h1, h2⟩ => ⟨h1, by rw [h2]; exact Below.refl _ _⟩)
      (fun _ w => (square_any _ (by omega) (by omega) w).mono fun _ _ ⟨h1, h2⟩ => ⟨h1, by rw [h2]; exact Below.refl _ _⟩) w
  · have k1 := all2 a.x a.y b.x b.y
    have e : decide (May ⟨a.x, a.y⟩ ∧ May ⟨b.x, b.y⟩) = false := decide_eq_false hm
    rw [e] at k1
    rw [if_neg hm]
    exact h _ _ false k1 rfl rfl (fun h => by cases h) (fun h => by cases h) (fun h => by cases h) w
theorem low_any (r : Rc) (w : World) : Calls Tryz.prog 50 #[rc r] w fun e w' => e = .returned (.agg #[.int .i64 r.x0, .int .i64 r.y0]) ∧ Below w.heap.size w w' := by
  obtain ⟨x0, y0, x1, y1⟩ := r
  go_enter Tryz.func50, Tryz.ntmps50
  go_wp2
  refine bodyPost_ret (v := .agg #[.int .i64 x0, .int .i64 y0]) (by simp [results, Tryz.results50, go_sem]) rfl ⟨rfl, ?_⟩
  go_grown
theorem high_any (r : Rc) (w : World) : Calls Tryz.prog 51 #[rc r] w fun e w' => e = .returned (.agg #[.int .i64 r.x1, .int .i64 r.y1]) ∧ Below w.heap.size w w' := by
  obtain ⟨x0, y0, x1, y1⟩ := r
  go_enter Tryz.func51, Tryz.ntmps51
  go_wp2
  refine bodyPost_ret (v := .agg #[.int .i64 x1, .int .i64 y1]) (by simp [results, Tryz.results51, go_sem]) rfl ⟨rfl, ?_⟩
  go_grown
def MayR (r : Rc) : Prop := May ⟨r.x0, r.y0⟩ ∧ May ⟨r.x1, r.y1⟩ ∧ r.x0 ≤ r.x1 ∧ r.y0 ≤ r.y1
instance (r : Rc) : Decidable (MayR r) := inferInstanceAs (Decidable (_ ∧ _))
set_option maxHeartbeats 4000000 in
theorem MayR_road (x0 y0 x1 y1 : Int) (m a b : Bool) (ha : decide (x0 ≤ x1) = a) (hb : decide (y0 ≤ y1) = b)
    (k1 : ∀ w0 : World, ∀ b, b = w0.heap.size → Calls Tryz.prog 49 #[.slice (some ⟨b, 0, none⟩) 2 2] (w0.alloc (.cells #[.int .i64 x0, .int .i64 y0, .int .i64 x1, .int .i64 y1] 24)) fun e w' => e = .returned (.bool m) ∧ Below w0.heap.size w0 w') (w : World) :
    Calls Tryz.prog 17 #[.agg #[.int .i64 x0, .int .i64 y0, .int .i64 x1, .int .i64 y1]] w fun e w' => e = .returned (.bool (m && a && b)) ∧ Below w.heap.size w w' := by
  have l1 := low_any ⟨x0, y0, x1, y1⟩
  have l2 := high_any ⟨x0, y0, x1, y1⟩
  have keep : ∀ a b : World, Below a.heap.size a b → (fun v : World => v.cell? ⟨w.heap.size, 0, none⟩ = some (.int .i64 x0) ∧ v.cell? ⟨w.heap.size, 1, none⟩ = some (.int .i64 y0) ∧ v.cell? ⟨w.heap.size, 2, none⟩ = some (.int .i64 x1) ∧ v.cell? ⟨w.heap.size, 3, none⟩ = some (.int .i64 y1) ∧ Below w.heap.size w v) a → (fun v : World => v.cell? ⟨w.heap.size, 0, none⟩ = some (.int .i64 x0) ∧ v.cell? ⟨w.heap.size, 1, none⟩ = some (.int .i64 y0) ∧ v.cell? ⟨w.heap.size, 2, none⟩ = some (.int .i64 x1) ∧ v.cell? ⟨w.heap.size, 3, none⟩ = some (.int .i64 y1) ∧ Below w.heap.size w v) b := fun a b hb ⟨h0, h1, h2, h3, h4⟩ => ⟨cell_grew h0 hb, cell_grew h1 hb, cell_grew h2 hb, cell_grew h3 hb, grow h4 hb⟩
  have KS := Lib.hid keep
  have drew : ∀ a : World, (fun v : World => v.cell? ⟨w.heap.size, 0, none⟩ = some (.int .i64 x0) ∧ v.cell? ⟨w.heap.size, 1, none⟩ = some (.int .i64 y0) ∧ v.cell? ⟨w.heap.size, 2, none⟩ = some (.int .i64 x1) ∧ v.cell? ⟨w.heap.size, 3, none⟩ = some (.int .i64 y1) ∧ Below w.heap.size w v) a → (fun v : World => v.cell? ⟨w.heap.size, 0, none⟩ = some (.int .i64 x0) ∧ v.cell? ⟨w.heap.size, 1, none⟩ = some (.int .i64 y0) ∧ v.cell? ⟨w.heap.size, 2, none⟩ = some (.int .i64 x1) ∧ v.cell? ⟨w.heap.size, 3, none⟩ = some (.int .i64 y1) ∧ Below w.heap.size w v) a.drew := fun a ⟨h0, h1, h2, h3, h4⟩ => ⟨h0, h1, h2, h3, h4.drew⟩
  have HD := Lib.hid drew
  have alc : ∀ (a : World) (o : Obj), (fun v : World => v.cell? ⟨w.heap.size, 0, none⟩ = some (.int .i64 x0) ∧ v.cell? ⟨w.heap.size, 1, none⟩ = some (.int .i64 y0) ∧ v.cell? ⟨w.heap.size, 2, none⟩ = some (.int .i64 x1) ∧ v.cell? ⟨w.heap.size, 3, none⟩ = some (.int .i64 y1) ∧ Below w.heap.size w v) a → (fun v : World => v.cell? ⟨w.heap.size, 0, none⟩ = some (.int .i64 x0) ∧ v.cell? ⟨w.heap.size, 1, none⟩ = some (.int .i64 y0) ∧ v.cell? ⟨w.heap.size, 2, none⟩ = some (.int .i64 x1) ∧ v.cell? ⟨w.heap.size, 3, none⟩ = some (.int .i64 y1) ∧ Below w.heap.size w v) (a.alloc o) := fun a o h => keep _ _ ((Below.refl _ a).alloc (Nat.le_refl _) o) h
  have HA := Lib.hid alc
  clear keep drew alc
  obtain ⟨w0, hw0, p0, g0, z0⟩ := boxes1 w #[.int .i64 x0, .int .i64 y0, .int .i64 x1, .int .i64 y1] 33
  have hS0 : (fun v : World => v.cell? ⟨w.heap.size, 0, none⟩ = some (.int .i64 x0) ∧ v.cell? ⟨w.heap.size, 1, none⟩ = some (.int .i64 y0) ∧ v.cell? ⟨w.heap.size, 2, none⟩ = some (.int .i64 x1) ∧ v.cell? ⟨w.heap.size, 3, none⟩ = some (.int .i64 y1) ∧ Below w.heap.size w v) w0 := ⟨p0.four.1, p0.four.2.1, p0.four.2.2.1, p0.four.2.2.2.1, g0⟩
  clear p0 z0 g0
  have K1 := Lib.hid k1
  have L1 := Lib.hid l1
  have L2 := Lib.hid l2
  clear k1 l1 l2
  cases m
  · go_enter Tryz.func17, Tryz.ntmps17
    go_wp2_with fail
    refine wp_region_held_drew (S := (fun v : World => v.cell? ⟨w.heap.size, 0, none⟩ = some (.int .i64 x0) ∧ v.cell? ⟨w.heap.size, 1, none⟩ = some (.int .i64 y0) ∧ v.cell? ⟨w.heap.size, 2, none⟩ = some (.int .i64 x1) ∧ v.cell? ⟨w.heap.size, 3, none⟩ = some (.int .i64 y1) ∧ Below w.heap.size w v)) (by kernel_rfl) (HD.out _ hS0) (fun hS0 => ?_)
    refine wpH_take (i := 0) (v := ?_) rfl rfl (by kernel_rfl) (by kernel_rfl) (by kernel_rfl) (fun _ _ _ h => h) (Or.inl ⟨by rfl, ?_⟩) hS0 ?_
    rotate_left
    · (intro w_ hw_; (try dsimp only at hw_); go_simp; try with_reducible rfl)
    simp only [List.setIfInBounds_toArray, List.set_cons_zero, List.set_cons_succ]
    refine wpH_take (i := 2) (v := ?_) rfl rfl (by kernel_rfl) (by kernel_rfl) (by kernel_rfl) (fun _ _ _ h => h) (Or.inl ⟨by rfl, ?_⟩) hS0 ?_
    rotate_left
    · (intro w_ hw_; (try dsimp only at hw_); go_simp; try with_reducible rfl)
    simp only [List.setIfInBounds_toArray, List.set_cons_zero, List.set_cons_succ]
    refine wpH_call (i := 1) (by kernel_rfl) rfl rfl (by rfl) (L1.out w0.drew) (by go_simp) (fun v1 hR => ?_)
    have hS1 := KS.out _ _ hR hS0
    refine ⟨hS1, ?_⟩
    clear hR hS0
    simp only [List.setIfInBounds_toArray, List.set_cons_zero, List.set_cons_succ]
    refine wpH_call (i := 3) (by kernel_rfl) rfl rfl (by rfl) (L2.out v1) (by go_simp) (fun v2 hR => ?_)
    have hS2 := KS.out _ _ hR hS1
    refine ⟨hS2, ?_⟩
    clear hR hS1
    simp only [List.setIfInBounds_toArray, List.set_cons_zero, List.set_cons_succ]
    refine wpH_run (i := 4) (v := .slice (some ⟨(v2).heap.size, 0, none⟩) 2 2) (w' := (v2).alloc (.cells #[.int .i64 x0, .int .i64 y0, .int .i64 x1, .int .i64 y1] 24)) (by kernel_rfl) rfl rfl (by rfl) (by go_simp) (HA.out _ (.cells #[.int .i64 x0, .int .i64 y0, .int .i64 x1, .int .i64 y1] 24) hS2) ?_
    have hS3 := HA.out _ (.cells #[.int .i64 x0, .int .i64 y0, .int .i64 x1, .int .i64 y1] 24) hS2
    simp only [List.setIfInBounds_toArray, List.set_cons_zero, List.set_cons_succ]
    refine wpH_call (i := 5) (by kernel_rfl) rfl rfl (by rfl) (K1.out v2 _ rfl) (by go_simp) (fun v4 hR => ?_)
    have hS4 := KS.out _ _ hR hS2
    refine ⟨hS4, ?_⟩
    clear hR hS3
    simp only [List.setIfInBounds_toArray, List.set_cons_zero, List.set_cons_succ]
    refine wpH_take (i := 6) (v := ?_) rfl rfl (by kernel_rfl) (by kernel_rfl) (by kernel_rfl) (fun _ _ _ h => h) (Or.inl ⟨by rfl, ?_⟩) hS4 ?_
    rotate_left
    · (intro w_ hw_; (try dsimp only at hw_); go_simp; try with_reducible rfl)
    simp only [List.setIfInBounds_toArray, List.set_cons_zero, List.set_cons_succ]
    refine wpH_take (i := 7) (v := undef) rfl rfl (by kernel_rfl) (by kernel_rfl) (by kernel_rfl) (fun _ _ _ h => h) (Or.inr ⟨by rfl, rfl⟩) hS4 ?_
    simp only [List.setIfInBounds_toArray, List.set_cons_zero, List.set_cons_succ]
    refine wpH_take (i := 8) (v := undef) rfl rfl (by kernel_rfl) (by kernel_rfl) (by kernel_rfl) (fun _ _ _ h => h) (Or.inr ⟨by rfl, rfl⟩) hS4 ?_
    simp only [List.setIfInBounds_toArray, List.set_cons_zero, List.set_cons_succ]
    refine wpH_take (i := 9) (v := undef) rfl rfl (by kernel_rfl) (by kernel_rfl) (by kernel_rfl) (fun _ _ _ h => h) (Or.inr ⟨by rfl, rfl⟩) hS4 ?_
    simp only [List.setIfInBounds_toArray, List.set_cons_zero, List.set_cons_succ]
    refine wpH_take (i := 10) (v := undef) rfl rfl (by kernel_rfl) (by kernel_rfl) (by kernel_rfl) (fun _ _ _ h => h) (Or.inr ⟨by rfl, rfl⟩) hS4 ?_
    simp only [List.setIfInBounds_toArray, List.set_cons_zero, List.set_cons_succ]
    refine wpH_take (i := 11) (v := undef) rfl rfl (by kernel_rfl) (by kernel_rfl) (by kernel_rfl) (fun _ _ _ h => h) (Or.inr ⟨by rfl, rfl⟩) hS4 ?_
    simp only [List.setIfInBounds_toArray, List.set_cons_zero, List.set_cons_succ]
    refine wpH_take (i := 12) (v := ?_) rfl rfl (by kernel_rfl) (by kernel_rfl) (by kernel_rfl) (fun _ _ _ h => h) (Or.inl ⟨by rfl, ?_⟩) hS4 ?_
    rotate_left
    · (intro w_ hw_; (try dsimp only at hw_); go_simp; try with_reducible rfl)
    simp only [List.setIfInBounds_toArray, List.set_cons_zero, List.set_cons_succ]
    refine wpH_take (i := 13) (v := ?_) rfl rfl (by kernel_rfl) (by kernel_rfl) (by kernel_rfl) (fun _ _ _ h => h) (Or.inl ⟨by rfl, ?_⟩) hS4 ?_
    rotate_left
    · (intro w_ hw_; (try dsimp only at hw_); go_simp; try with_reducible rfl)
    simp only [List.setIfInBounds_toArray, List.set_cons_zero, List.set_cons_succ]
    refine wpH_take (i := 14) (v := undef) rfl rfl (by kernel_rfl) (by kernel_rfl) (by kernel_rfl) (fun _ _ _ h => h) (Or.inr ⟨by rfl, rfl⟩) hS4 ?_
    simp only [List.setIfInBounds_toArray, List.set_cons_zero, List.set_cons_succ]
    refine wpH_take (i := 15) (v := undef) rfl rfl (by kernel_rfl) (by kernel_rfl) (by kernel_rfl) (fun _ _ _ h => h) (Or.inr ⟨by rfl, rfl⟩) hS4 ?_
    simp only [List.setIfInBounds_toArray, List.set_cons_zero, List.set_cons_succ]
    refine wpH_take (i := 16) (v := undef) rfl rfl (by kernel_rfl) (by kernel_rfl) (by kernel_rfl) (fun _ _ _ h => h) (Or.inr ⟨by rfl, rfl⟩) hS4 ?_
    simp only [List.setIfInBounds_toArray, List.set_cons_zero, List.set_cons_succ]
    refine wpH_take (i := 17) (v := undef) rfl rfl (by kernel_rfl) (by kernel_rfl) (by kernel_rfl) (fun _ _ _ h => h) (Or.inr ⟨by rfl, rfl⟩) hS4 ?_
    simp only [List.setIfInBounds_toArray, List.set_cons_zero, List.set_cons_succ]
    refine wpH_take (i := 18) (v := undef) rfl rfl (by kernel_rfl) (by kernel_rfl) (by kernel_rfl) (fun _ _ _ h => h) (Or.inr ⟨by rfl, rfl⟩) hS4 ?_
    simp only [List.setIfInBounds_toArray, List.set_cons_zero, List.set_cons_succ]
    refine wpH_take (i := 19) (v := ?_) rfl rfl (by kernel_rfl) (by kernel_rfl) (by kernel_rfl) (fun _ _ _ h => h) (Or.inl ⟨by rfl, ?_⟩) hS4 ?_
    rotate_left
    · (intro w_ hw_; (try dsimp only at hw_); go_simp; try with_reducible rfl)
    simp only [List.setIfInBounds_toArray, List.set_cons_zero, List.set_cons_succ]
    refine wpH_take (i := 20) (v := ?_) rfl rfl (by kernel_rfl) (by kernel_rfl) (by kernel_rfl) (fun _ _ _ h => h) (Or.inl ⟨by rfl, ?_⟩) hS4 ?_
    rotate_left
    · (intro w_ hw_; (try dsimp only at hw_); go_simp; try with_reducible rfl)
    simp only [List.setIfInBounds_toArray, List.set_cons_zero, List.set_cons_succ]
    refine wpAnyH_done (by kernel_rfl) ?_ _
    go_wp2
    go_ret
    exact ⟨rfl, hS4.2.2.2.2⟩
  · cases a
    · go_enter Tryz.func17, Tryz.ntmps17
      go_wp2_with fail
      refine wp_region_held_drew (S := (fun v : World => v.cell? ⟨w.heap.size, 0, none⟩ = some (.int .i64 x0) ∧ v.cell? ⟨w.heap.size, 1, none⟩ = some (.int .i64 y0) ∧ v.cell? ⟨w.heap.size, 2, none⟩ = some (.int .i64 x1) ∧ v.cell? ⟨w.heap.size, 3, none⟩ = some (.int .i64 y1) ∧ Below w.heap.size w v)) (by kernel_rfl) (HD.out _ hS0) (fun hS0 => ?_)
      refine wpH_take (i := 0) (v := ?_) rfl rfl (by kernel_rfl) (by kernel_rfl) (by kernel_rfl) (fun _ _ _ h => h) (Or.inl ⟨by rfl, ?_⟩) hS0 ?_
      rotate_left
      · (intro w_ hw_; (try dsimp only at hw_); go_simp; try with_reducible rfl)
      simp only [List.setIfInBounds_toArray, List.set_cons_zero, List.set_cons_succ]
      refine wpH_take (i := 2) (v := ?_) rfl rfl (by kernel_rfl) (by kernel_rfl) (by kernel_rfl) (fun _ _ _ h => h) (Or.inl ⟨by rfl, ?_⟩) hS0 ?_
      rotate_left
      · (intro w_ hw_; (try dsimp only at hw_); go_simp; try with_reducible rfl)
      simp only [List.setIfInBounds_toArray, List.set_cons_zero, List.set_cons_succ]
      refine wpH_call (i := 1) (by kernel_rfl) rfl rfl (by rfl) (L1.out w0.drew) (by go_simp) (fun v1 hR => ?_)
      have hS1 := KS.out _ _ hR hS0
      refine ⟨hS1, ?_⟩
      clear hR hS0
      simp only [List.setIfInBounds_toArray, List.set_cons_zero, List.set_cons_succ]
      refine wpH_call (i := 3) (by kernel_rfl) rfl rfl (by rfl) (L2.out v1) (by go_simp) (fun v2 hR => ?_)
      have hS2 := KS.out _ _ hR hS1
      refine ⟨hS2, ?_⟩
      clear hR hS1
      simp only [List.setIfInBounds_toArray, List.set_cons_zero, List.set_cons_succ]
      refine wpH_run (i := 4) (v := .slice (some ⟨(v2).heap.size, 0, none⟩) 2 2) (w' := (v2).alloc (.cells #[.int .i64 x0, .int .i64 y0, .int .i64 x1, .int .i64 y1] 24)) (by kernel_rfl) rfl rfl (by rfl) (by go_simp) (HA.out _ (.cells #[.int .i64 x0, .int .i64 y0, .int .i64 x1, .int .i64 y1] 24) hS2) ?_
      have hS3 := HA.out _ (.cells #[.int .i64 x0, .int .i64 y0, .int .i64 x1, .int .i64 y1] 24) hS2
      simp only [List.setIfInBounds_toArray, List.set_cons_zero, List.set_cons_succ]
      refine wpH_call (i := 5) (by kernel_rfl) rfl rfl (by rfl) (K1.out v2 _ rfl) (by go_simp) (fun v4 hR => ?_)
      have hS4 := KS.out _ _ hR hS2
      refine ⟨hS4, ?_⟩
      clear hR hS3
      simp only [List.setIfInBounds_toArray, List.set_cons_zero, List.set_cons_succ]
      refine wpH_take (i := 6) (v := ?_) rfl rfl (by kernel_rfl) (by kernel_rfl) (by kernel_rfl) (fun _ _ _ h => h) (Or.inl ⟨by rfl, ?_⟩) hS4 ?_
      rotate_left
      · (intro w_ hw_; (try dsimp only at hw_); go_simp; try with_reducible rfl)
      simp only [List.setIfInBounds_toArray, List.set_cons_zero, List.set_cons_succ]
      refine wpH_take (i := 7) (v := ?_) rfl rfl (by kernel_rfl) (by kernel_rfl) (by kernel_rfl) (fun _ _ _ h => h) (Or.inl ⟨by rfl, ?_⟩) hS4 ?_
      rotate_left
      · (intro w_ hw_; (try dsimp only at hw_); go_simp; try with_reducible rfl)
      simp only [List.setIfInBounds_toArray, List.set_cons_zero, List.set_cons_succ]
      refine wpH_take (i := 8) (v := ?_) rfl rfl (by kernel_rfl) (by kernel_rfl) (by kernel_rfl) (fun _ _ _ h => h) (Or.inl ⟨by rfl, ?_⟩) hS4 ?_
      rotate_left
      · (intro w_ hw_; (try dsimp only at hw_); go_simp; try with_reducible rfl)
      simp only [List.setIfInBounds_toArray, List.set_cons_zero, List.set_cons_succ]
      refine wpH_take (i := 9) (v := ?_) rfl rfl (by kernel_rfl) (by kernel_rfl) (by kernel_rfl) (fun _ _ _ h => h) (Or.inl ⟨by rfl, ?_⟩) hS4 ?_
      rotate_left
      · (intro w_ hw_; (try dsimp only at hw_); go_simp; try with_reducible rfl)
      simp only [List.setIfInBounds_toArray, List.set_cons_zero, List.set_cons_succ]
      refine wpH_take (i := 10) (v := ?_) rfl rfl (by kernel_rfl) (by kernel_rfl) (by kernel_rfl) (fun _ _ _ h => h) (Or.inl ⟨by rfl, ?_⟩) hS4 ?_
      rotate_left
      · (intro w_ hw_; (try dsimp only at hw_); go_simp; try with_reducible rfl)
      simp only [List.setIfInBounds_toArray, List.set_cons_zero, List.set_cons_succ]
      refine wpH_take (i := 11) (v := ?_) rfl rfl (by kernel_rfl) (by kernel_rfl) (by kernel_rfl) (fun _ _ _ h => h) (Or.inl ⟨by rfl, ?_⟩) hS4 ?_
      rotate_left
      · (intro w_ hw_; (try dsimp only at hw_); go_simp; try with_reducible rfl)
      simp only [List.setIfInBounds_toArray, List.set_cons_zero, List.set_cons_succ]
      refine wpH_take (i := 12) (v := ?_) rfl rfl (by kernel_rfl) (by kernel_rfl) (by kernel_rfl) (fun _ _ _ h => h) (Or.inl ⟨by rfl, ?_⟩) hS4 ?_
      rotate_left
      · (intro w_ hw_; (try dsimp only at hw_); go_simp; try with_reducible rfl)
      simp only [List.setIfInBounds_toArray, List.set_cons_zero, List.set_cons_succ]
      refine wpH_take (i := 13) (v := ?_) rfl rfl (by kernel_rfl) (by kernel_rfl) (by kernel_rfl) (fun _ _ _ h => h) (Or.inl ⟨by rfl, ?_⟩) hS4 ?_
      rotate_left
      · (intro w_ hw_; (try dsimp only at hw_); go_simp; try with_reducible rfl)
      simp only [List.setIfInBounds_toArray, List.set_cons_zero, List.set_cons_succ]
      refine wpH_take (i := 14) (v := undef) rfl rfl (by kernel_rfl) (by kernel_rfl) (by kernel_rfl) (fun _ _ _ h => h) (Or.inr ⟨by rfl, rfl⟩) hS4 ?_
      simp only [List.setIfInBounds_toArray, List.set_cons_zero, List.set_cons_succ]
      refine wpH_take (i := 15) (v := undef) rfl rfl (by kernel_rfl) (by kernel_rfl) (by kernel_rfl) (fun _ _ _ h => h) (Or.inr ⟨by rfl, rfl⟩) hS4 ?_
      simp only [List.setIfInBounds_toArray, List.set_cons_zero, List.set_cons_succ]
      refine wpH_take (i := 16) (v := undef) rfl rfl (by kernel_rfl) (by kernel_rfl) (by kernel_rfl) (fun _ _ _ h => h) (Or.inr ⟨by rfl, rfl⟩) hS4 ?_
      simp only [List.setIfInBounds_toArray, List.set_cons_zero, List.set_cons_succ]
      refine wpH_take (i := 17) (v := undef) rfl rfl (by kernel_rfl) (by kernel_rfl) (by kernel_rfl) (fun _ _ _ h => h) (Or.inr ⟨by rfl, rfl⟩) hS4 ?_
      simp only [List.setIfInBounds_toArray, List.set_cons_zero, List.set_cons_succ]
      refine wpH_take (i := 18) (v := undef) rfl rfl (by kernel_rfl) (by kernel_rfl) (by kernel_rfl) (fun _ _ _ h => h) (Or.inr ⟨by rfl, rfl⟩) hS4 ?_
      simp only [List.setIfInBounds_toArray, List.set_cons_zero, List.set_cons_succ]
      refine wpH_take (i := 19) (v := ?_) rfl rfl (by kernel_rfl) (by kernel_rfl) (by kernel_rfl) (fun _ _ _ h => h) (Or.inl ⟨by rfl, ?_⟩) hS4 ?_
      rotate_left
      · (intro w_ hw_; (try dsimp only at hw_); go_simp; try with_reducible rfl)
      simp only [List.setIfInBounds_toArray, List.set_cons_zero, List.set_cons_succ]
      refine wpH_take (i := 20) (v := ?_) rfl rfl (by kernel_rfl) (by kernel_rfl) (by kernel_rfl) (fun _ _ _ h => h) (Or.inl ⟨by rfl, ?_⟩) hS4 ?_
      rotate_left
      · (intro w_ hw_; (try dsimp only at hw_); go_simp; try with_reducible rfl)
      simp only [List.setIfInBounds_toArray, List.set_cons_zero, List.set_cons_succ]
      refine wpAnyH_done (by kernel_rfl) ?_ _
      go_wp2
      go_ret
      exact ⟨rfl, hS4.2.2.2.2⟩
    · cases b
      · go_enter Tryz.func17, Tryz.ntmps17
        go_wp2_with fail
        refine wp_region_held_drew (S := (fun v : World => v.cell? ⟨w.heap.size, 0, none⟩ = some (.int .i64 x0) ∧ v.cell? ⟨w.heap.size, 1, none⟩ = some (.int .i64 y0) ∧ v.cell? ⟨w.heap.size, 2, none⟩ = some (.int .i64 x1) ∧ v.cell? ⟨w.heap.size, 3, none⟩ = some (.int .i64 y1) ∧ Below w.heap.size w v)) (by kernel_rfl) (HD.out _ hS0) (fun hS0 => ?_)
        refine wpH_take (i := 0) (v := ?_) rfl rfl (by kernel_rfl) (by kernel_rfl) (by kernel_rfl) (fun _ _ _ h => h) (Or.inl ⟨by rfl, ?_⟩) hS0 ?_
        rotate_left
        · (intro w_ hw_; (try dsimp only at hw_); go_simp; try with_reducible rfl)
        simp only [List.setIfInBounds_toArray, List.set_cons_zero, List.set_cons_succ]
        refine wpH_take (i := 2) (v := ?_) rfl rfl (by kernel_rfl) (by kernel_rfl) (by kernel_rfl) (fun _ _ _ h => h) (Or.inl ⟨by rfl, ?_⟩) hS0 ?_
        rotate_left
        · (intro w_ hw_; (try dsimp only at hw_); go_simp; try with_reducible rfl)
        simp only [List.setIfInBounds_toArray, List.set_cons_zero, List.set_cons_succ]
        refine wpH_call (i := 1) (by kernel_rfl) rfl rfl (by rfl) (L1.out w0.drew) (by go_simp) (fun v1 hR => ?_)
        have hS1 := KS.out _ _ hR hS0
        refine ⟨hS1, ?_⟩
        clear hR hS0
        simp only [List.setIfInBounds_toArray, List.set_cons_zero, List.set_cons_succ]
        refine wpH_call (i := 3) (by kernel_rfl) rfl rfl (by rfl) (L2.out v1) (by go_simp) (fun v2 hR => ?_)
        have hS2 := KS.out _ _ hR hS1
        refine ⟨hS2, ?_⟩
        clear hR hS1
        simp only [List.setIfInBounds_toArray, List.set_cons_zero, List.set_cons_succ]
        refine wpH_run (i := 4) (v := .slice (some ⟨(v2).heap.size, 0, none⟩) 2 2) (w' := (v2).alloc (.cells #[.int .i64 x0, .int .i64 y0, .int .i64 x1, .int .i64 y1] 24)) (by kernel_rfl) rfl rfl (by rfl) (by go_simp) (HA.out _ (.cells #[.int .i64 x0, .int .i64 y0, .int .i64 x1, .int .i64 y1] 24) hS2) ?_
        have hS3 := HA.out _ (.cells #[.int .i64 x0, .int .i64 y0, .int .i64 x1, .int .i64 y1] 24) hS2
        simp only [List.setIfInBounds_toArray, List.set_cons_zero, List.set_cons_succ]
        refine wpH_call (i := 5) (by kernel_rfl) rfl rfl (by rfl) (K1.out v2 _ rfl) (by go_simp) (fun v4 hR => ?_)
        have hS4 := KS.out _ _ hR hS2
        refine ⟨hS4, ?_⟩
        clear hR hS3
        simp only [List.setIfInBounds_toArray, List.set_cons_zero, List.set_cons_succ]
        refine wpH_take (i := 6) (v := ?_) rfl rfl (by kernel_rfl) (by kernel_rfl) (by kernel_rfl) (fun _ _ _ h => h) (Or.inl ⟨by rfl, ?_⟩) hS4 ?_
        rotate_left
        · (intro w_ hw_; (try dsimp only at hw_); go_simp; try with_reducible rfl)
        simp only [List.setIfInBounds_toArray, List.set_cons_zero, List.set_cons_succ]
        refine wpH_take (i := 7) (v := ?_) rfl rfl (by kernel_rfl) (by kernel_rfl) (by kernel_rfl) (fun _ _ _ h => h) (Or.inl ⟨by rfl, ?_⟩) hS4 ?_
        rotate_left
        · (intro w_ hw_; (try dsimp only at hw_); go_simp; try with_reducible rfl)
        simp only [List.setIfInBounds_toArray, List.set_cons_zero, List.set_cons_succ]
        refine wpH_take (i := 8) (v := ?_) rfl rfl (by kernel_rfl) (by kernel_rfl) (by kernel_rfl) (fun _ _ _ h => h) (Or.inl ⟨by rfl, ?_⟩) hS4 ?_
        rotate_left
        · (intro w_ hw_; (try dsimp only at hw_); go_simp; try with_reducible rfl)
        simp only [List.setIfInBounds_toArray, List.set_cons_zero, List.set_cons_succ]
        refine wpH_take (i := 9) (v := ?_) rfl rfl (by kernel_rfl) (by kernel_rfl) (by kernel_rfl) (fun _ _ _ h => h) (Or.inl ⟨by rfl, ?_⟩) hS4 ?_
        rotate_left
        · (intro w_ hw_; (try dsimp only at hw_); go_simp; try with_reducible rfl)
        simp only [List.setIfInBounds_toArray, List.set_cons_zero, List.set_cons_succ]
        refine wpH_take (i := 10) (v := ?_) rfl rfl (by kernel_rfl) (by kernel_rfl) (by kernel_rfl) (fun _ _ _ h => h) (Or.inl ⟨by rfl, ?_⟩) hS4 ?_
        rotate_left
        · (intro w_ hw_; (try dsimp only at hw_); go_simp; try with_reducible rfl)
        simp only [List.setIfInBounds_toArray, List.set_cons_zero, List.set_cons_succ]
        refine wpH_take (i := 11) (v := ?_) rfl rfl (by kernel_rfl) (by kernel_rfl) (by kernel_rfl) (fun _ _ _ h => h) (Or.inl ⟨by rfl, ?_⟩) hS4 ?_
        rotate_left
        · (intro w_ hw_; (try dsimp only at hw_); go_simp; try with_reducible rfl)
        simp only [List.setIfInBounds_toArray, List.set_cons_zero, List.set_cons_succ]
        refine wpH_take (i := 12) (v := ?_) rfl rfl (by kernel_rfl) (by kernel_rfl) (by kernel_rfl) (fun _ _ _ h => h) (Or.inl ⟨by rfl, ?_⟩) hS4 ?_
        rotate_left
        · (intro w_ hw_; (try dsimp only at hw_); go_simp; try with_reducible rfl)
        simp only [List.setIfInBounds_toArray, List.set_cons_zero, List.set_cons_succ]
        refine wpH_take (i := 13) (v := ?_) rfl rfl (by kernel_rfl) (by kernel_rfl) (by kernel_rfl) (fun _ _ _ h => h) (Or.inl ⟨by rfl, ?_⟩) hS4 ?_
        rotate_left
        · (intro w_ hw_; (try dsimp only at hw_); go_simp; try with_reducible rfl)
        simp only [List.setIfInBounds_toArray, List.set_cons_zero, List.set_cons_succ]
        refine wpH_take (i := 14) (v := ?_) rfl rfl (by kernel_rfl) (by kernel_rfl) (by kernel_rfl) (fun _ _ _ h => h) (Or.inl ⟨by rfl, ?_⟩) hS4 ?_
        rotate_left
        · (intro w_ hw_; (try dsimp only at hw_); go_simp; try with_reducible rfl)
        simp only [List.setIfInBounds_toArray, List.set_cons_zero, List.set_cons_succ]
        refine wpH_take (i := 15) (v := ?_) rfl rfl (by kernel_rfl) (by kernel_rfl) (by kernel_rfl) (fun _ _ _ h => h) (Or.inl ⟨by rfl, ?_⟩) hS4 ?_
        rotate_left
        · (intro w_ hw_; (try dsimp only at hw_); go_simp; try with_reducible rfl)
        simp only [List.setIfInBounds_toArray, List.set_cons_zero, List.set_cons_succ]
        refine wpH_take (i := 16) (v := ?_) rfl rfl (by kernel_rfl) (by kernel_rfl) (by kernel_rfl) (fun _ _ _ h => h) (Or.inl ⟨by rfl, ?_⟩) hS4 ?_
        rotate_left
        · (intro w_ hw_; (try dsimp only at hw_); go_simp; try with_reducible rfl)
        simp only [List.setIfInBounds_toArray, List.set_cons_zero, List.set_cons_succ]
        refine wpH_take (i := 17) (v := ?_) rfl rfl (by kernel_rfl) (by kernel_rfl) (by kernel_rfl) (fun _ _ _ h => h) (Or.inl ⟨by rfl, ?_⟩) hS4 ?_
        rotate_left
        · (intro w_ hw_; (try dsimp only at hw_); go_simp; try with_reducible rfl)
        simp only [List.setIfInBounds_toArray, List.set_cons_zero, List.set_cons_succ]
        refine wpH_take (i := 18) (v := ?_) rfl rfl (by kernel_rfl) (by kernel_rfl) (by kernel_rfl) (fun _ _ _ h => h) (Or.inl ⟨by rfl, ?_⟩) hS4 ?_
        rotate_left
        · (intro w_ hw_; (try dsimp only at hw_); go_simp; try with_reducible rfl)
        simp only [List.setIfInBounds_toArray, List.set_cons_zero, List.set_cons_succ]
        refine wpH_take (i := 19) (v := ?_) rfl rfl (by kernel_rfl) (by kernel_rfl) (by kernel_rfl) (fun _ _ _ h => h) (Or.inl ⟨by rfl, ?_⟩) hS4 ?_
        rotate_left
        · (intro w_ hw_; (try dsimp only at hw_); go_simp; try with_reducible rfl)
        simp only [List.setIfInBounds_toArray, List.set_cons_zero, List.set_cons_succ]
        refine wpH_take (i := 20) (v := ?_) rfl rfl (by kernel_rfl) (by kernel_rfl) (by kernel_rfl) (fun _ _ _ h => h) (Or.inl ⟨by rfl, ?_⟩) hS4 ?_
        rotate_left
        · (intro w_ hw_; (try dsimp only at hw_); go_simp; try with_reducible rfl)
        simp only [List.setIfInBounds_toArray, List.set_cons_zero, List.set_cons_succ]
        refine wpAnyH_done (by kernel_rfl) ?_ _
        go_wp2
        go_ret
        exact ⟨rfl, hS4.2.2.2.2⟩
      · go_enter Tryz.func17, Tryz.ntmps17
        go_wp2_with fail
        refine wp_region_held_drew (S := (fun v : World => v.cell? ⟨w.heap.size, 0, none⟩ = some (.int .i64 x0) ∧ v.cell? ⟨w.heap.size, 1, none⟩ = some (.int .i64 y0) ∧ v.cell? ⟨w.heap.size, 2, none⟩ = some (.int .i64 x1) ∧ v.cell? ⟨w.heap.size, 3, none⟩ = some (.int .i64 y1) ∧ Below w.heap.size w v)) (by kernel_rfl) (HD.out _ hS0) (fun hS0 => ?_)
        refine wpH_take (i := 0) (v := ?_) rfl rfl (by kernel_rfl) (by kernel_rfl) (by kernel_rfl) (fun _ _ _ h => h) (Or.inl ⟨by rfl, ?_⟩) hS0 ?_
        rotate_left
        · (intro w_ hw_; (try dsimp only at hw_); go_simp; try with_reducible rfl)
        simp only [List.setIfInBounds_toArray, List.set_cons_zero, List.set_cons_succ]
        refine wpH_take (i := 2) (v := ?_) rfl rfl (by kernel_rfl) (by kernel_rfl) (by kernel_rfl) (fun _ _ _ h => h) (Or.inl ⟨by rfl, ?_⟩) hS0 ?_
        rotate_left
        · (intro w_ hw_; (try dsimp only at hw_); go_simp; try with_reducible rfl)
        simp only [List.setIfInBounds_toArray, List.set_cons_zero, List.set_cons_succ]
        refine wpH_call (i := 1) (by kernel_rfl) rfl rfl (by rfl) (L1.out w0.drew) (by go_simp) (fun v1 hR => ?_)
        have hS1 := KS.out _ _ hR hS0
        refine ⟨hS1, ?_⟩
        clear hR hS0
        simp only [List.setIfInBounds_toArray, List.set_cons_zero, List.set_cons_succ]
        refine wpH_call (i := 3) (by kernel_rfl) rfl rfl (by rfl) (L2.out v1) (by go_simp) (fun v2 hR => ?_)
        have hS2 := KS.out _ _ hR hS1
        refine ⟨hS2, ?_⟩
        clear hR hS1
        simp only [List.setIfInBounds_toArray, List.set_cons_zero, List.set_cons_succ]
        refine wpH_run (i := 4) (v := .slice (some ⟨(v2).heap.size, 0, none⟩) 2 2) (w' := (v2).alloc (.cells #[.int .i64 x0, .int .i64 y0, .int .i64 x1, .int .i64 y1] 24)) (by kernel_rfl) rfl rfl (by rfl) (by go_simp) (HA.out _ (.cells #[.int .i64 x0, .int .i64 y0, .int .i64 x1, .int .i64 y1] 24) hS2) ?_
        have hS3 := HA.out _ (.cells #[.int .i64 x0, .int .i64 y0, .int .i64 x1, .int .i64 y1] 24) hS2
        simp only [List.setIfInBounds_toArray, List.set_cons_zero, List.set_cons_succ]
        refine wpH_call (i := 5) (by kernel_rfl) rfl rfl (by rfl) (K1.out v2 _ rfl) (by go_simp) (fun v4 hR => ?_)
        have hS4 := KS.out _ _ hR hS2
        refine ⟨hS4, ?_⟩
        clear hR hS3
        simp only [List.setIfInBounds_toArray, List.set_cons_zero, List.set_cons_succ]
        refine wpH_take (i := 6) (v := ?_) rfl rfl (by kernel_rfl) (by kernel_rfl) (by kernel_rfl) (fun _ _ _ h => h) (Or.inl ⟨by rfl, ?_⟩) hS4 ?_
        rotate_left
        · (intro w_ hw_; (try dsimp only at hw_); go_simp; try with_reducible rfl)
        simp only [List.setIfInBounds_toArray, List.set_cons_zero, List.set_cons_succ]
        refine wpH_take (i := 7) (v := ?_) rfl rfl (by kernel_rfl) (by kernel_rfl) (by kernel_rfl) (fun _ _ _ h => h) (Or.inl ⟨by rfl, ?_⟩) hS4 ?_
        rotate_left
        · (intro w_ hw_; (try dsimp only at hw_); go_simp; try with_reducible rfl)
        simp only [List.setIfInBounds_toArray, List.set_cons_zero, List.set_cons_succ]
        refine wpH_take (i := 8) (v := ?_) rfl rfl (by kernel_rfl) (by kernel_rfl) (by kernel_rfl) (fun _ _ _ h => h) (Or.inl ⟨by rfl, ?_⟩) hS4 ?_
        rotate_left
        · (intro w_ hw_; (try dsimp only at hw_); go_simp; try with_reducible rfl)
        simp only [List.setIfInBounds_toArray, List.set_cons_zero, List.set_cons_succ]
        refine wpH_take (i := 9) (v := ?_) rfl rfl (by kernel_rfl) (by kernel_rfl) (by kernel_rfl) (fun _ _ _ h => h) (Or.inl ⟨by rfl, ?_⟩) hS4 ?_
        rotate_left
        · (intro w_ hw_; (try dsimp only at hw_); go_simp; try with_reducible rfl)
        simp only [List.setIfInBounds_toArray, List.set_cons_zero, List.set_cons_succ]
        refine wpH_take (i := 10) (v := ?_) rfl rfl (by kernel_rfl) (by kernel_rfl) (by kernel_rfl) (fun _ _ _ h => h) (Or.inl ⟨by rfl, ?_⟩) hS4 ?_
        rotate_left
        · (intro w_ hw_; (try dsimp only at hw_); go_simp; try with_reducible rfl)
        simp only [List.setIfInBounds_toArray, List.set_cons_zero, List.set_cons_succ]
        refine wpH_take (i := 11) (v := ?_) rfl rfl (by kernel_rfl) (by kernel_rfl) (by kernel_rfl) (fun _ _ _ h => h) (Or.inl ⟨by rfl, ?_⟩) hS4 ?_
        rotate_left
        · (intro w_ hw_; (try dsimp only at hw_); go_simp; try with_reducible rfl)
        simp only [List.setIfInBounds_toArray, List.set_cons_zero, List.set_cons_succ]
        refine wpH_take (i := 12) (v := ?_) rfl rfl (by kernel_rfl) (by kernel_rfl) (by kernel_rfl) (fun _ _ _ h => h) (Or.inl ⟨by rfl, ?_⟩) hS4 ?_
        rotate_left
        · (intro w_ hw_; (try dsimp only at hw_); go_simp; try with_reducible rfl)
        simp only [List.setIfInBounds_toArray, List.set_cons_zero, List.set_cons_succ]
        refine wpH_take (i := 13) (v := ?_) rfl rfl (by kernel_rfl) (by kernel_rfl) (by kernel_rfl) (fun _ _ _ h => h) (Or.inl ⟨by rfl, ?_⟩) hS4 ?_
        rotate_left
        · (intro w_ hw_; (try dsimp only at hw_); go_simp; try with_reducible rfl)
        simp only [List.setIfInBounds_toArray, List.set_cons_zero, List.set_cons_succ]
        refine wpH_take (i := 14) (v := ?_) rfl rfl (by kernel_rfl) (by kernel_rfl) (by kernel_rfl) (fun _ _ _ h => h) (Or.inl ⟨by rfl, ?_⟩) hS4 ?_
        rotate_left
        · (intro w_ hw_; (try dsimp only at hw_); go_simp; try with_reducible rfl)
        simp only [List.setIfInBounds_toArray, List.set_cons_zero, List.set_cons_succ]
        refine wpH_take (i := 15) (v := ?_) rfl rfl (by kernel_rfl) (by kernel_rfl) (by kernel_rfl) (fun _ _ _ h => h) (Or.inl ⟨by rfl, ?_⟩) hS4 ?_
        rotate_left
        · (intro w_ hw_; (try dsimp only at hw_); go_simp; try with_reducible rfl)
        simp only [List.setIfInBounds_toArray, List.set_cons_zero, List.set_cons_succ]
        refine wpH_take (i := 16) (v := ?_) rfl rfl (by kernel_rfl) (by kernel_rfl) (by kernel_rfl) (fun _ _ _ h => h) (Or.inl ⟨by rfl, ?_⟩) hS4 ?_
        rotate_left
        · (intro w_ hw_; (try dsimp only at hw_); go_simp; try with_reducible rfl)
        simp only [List.setIfInBounds_toArray, List.set_cons_zero, List.set_cons_succ]
        refine wpH_take (i := 17) (v := ?_) rfl rfl (by kernel_rfl) (by kernel_rfl) (by kernel_rfl) (fun _ _ _ h => h) (Or.inl ⟨by rfl, ?_⟩) hS4 ?_
        rotate_left
        · (intro w_ hw_; (try dsimp only at hw_); go_simp; try with_reducible rfl)
        simp only [List.setIfInBounds_toArray, List.set_cons_zero, List.set_cons_succ]
        refine wpH_take (i := 18) (v := ?_) rfl rfl (by kernel_rfl) (by kernel_rfl) (by kernel_rfl) (fun _ _ _ h => h) (Or.inl ⟨by rfl, ?_⟩) hS4 ?_
        rotate_left
        · (intro w_ hw_; (try dsimp only at hw_); go_simp; try with_reducible rfl)
        simp only [List.setIfInBounds_toArray, List.set_cons_zero, List.set_cons_succ]
        refine wpH_take (i := 19) (v := ?_) rfl rfl (by kernel_rfl) (by kernel_rfl) (by kernel_rfl) (fun _ _ _ h => h) (Or.inl ⟨by rfl, ?_⟩) hS4 ?_
        rotate_left
        · (intro w_ hw_; (try dsimp only at hw_); go_simp; try with_reducible rfl)
        simp only [List.setIfInBounds_toArray, List.set_cons_zero, List.set_cons_succ]
        refine wpH_take (i := 20) (v := ?_) rfl rfl (by kernel_rfl) (by kernel_rfl) (by kernel_rfl) (fun _ _ _ h => h) (Or.inl ⟨by rfl, ?_⟩) hS4 ?_
        rotate_left
        · (intro w_ hw_; (try dsimp only at hw_); go_simp; try with_reducible rfl)
        simp only [List.setIfInBounds_toArray, List.set_cons_zero, List.set_cons_succ]
        refine wpAnyH_done (by kernel_rfl) ?_ _
        go_wp2
        go_ret
        exact ⟨rfl, hS4.2.2.2.2⟩
theorem MayR_any (r : Rc) (w : World) : Calls Tryz.prog 17 #[rc r] w fun e w' => e = .returned (.bool (decide (MayR r))) ∧ Below w.heap.size w w' := by
  have h := MayR_road r.x0 r.y0 r.x1 r.y1 _ _ _ rfl rfl (all2 r.x0 r.y0 r.x1 r.y1) w
  rw [← Bool.decide_and, ← Bool.decide_and, show decide (((May ⟨r.x0, r.y0⟩ ∧ May ⟨r.x1, r.y1⟩) ∧ r.x0 ≤ r.x1) ∧ r.y0 ≤ r.y1) = decide (MayR r) from by
    rw [decide_eq_decide]; unfold MayR; simp only [and_assoc]] at h
  exact h
end Go.Proofs.YtfmdmfiljplkoaaGreat.Geo
namespace Go.Proofs.YtfmdmfiljplkoaaGreat.Geo
open Go.RowKit
def HoldsF (r : Rc) (p : Pt) : Bool := decide (MayR r) && decide (May p) && decide (holdsR r p)
def overR (r s : Rc) : Prop := r.x0 ≤ s.x1 ∧ s.x0 ≤ r.x1 ∧ r.y0 ≤ s.y1 ∧ s.y0 ≤ r.y1
instance (r s : Rc) : Decidable (overR r s) := inferInstanceAs (Decidable (_ ∧ _))
def OverF (r s : Rc) : Bool := decide (MayR r) && decide (MayR s) && decide (overR r s)
def joinR (r s : Rc) : Rc := ⟨min r.x0 s.x0, min r.y0 s.y0, max r.x1 s.x1, max r.y1 s.y1⟩
def zeroR : Rc := ⟨0, 0, 0, 0⟩
def JoinF (r s : Rc) : Rc := if MayR r ∧ MayR s then joinR r s else zeroR
def nearP (r : Rc) (p : Pt) : Pt := ⟨min (max p.x r.x0) r.x1, min (max p.y r.y0) r.y1⟩
def NearF (r : Rc) (p : Pt) : Int := if MayR r ∧ May p then distZ (nearP r p) p else 0
set_option maxHeartbeats 2000000 in
theorem Over_road (rx0 ry0 rx1 ry1 sx0 sy0 sx1 sy1 : Int) (m y a b c d : Bool)
    (ha : decide (rx0 ≤ sx1) = a) (hb : decide (sx0 ≤ rx1) = b) (hc : decide (ry0 ≤ sy1) = c) (hd : decide (sy0 ≤ ry1) = d)
    (k1 : ∀ w, Calls Tryz.prog 17 #[.agg #[.int .i64 rx0, .int .i64 ry0, .int .i64 rx1, .int .i64 ry1]] w fun e w' => e = .returned (.bool m) ∧ Below w.heap.size w w')
    (k2 : ∀ w, Calls Tryz.prog 17 #[.agg #[.int .i64 sx0, .int .i64 sy0, .int .i64 sx1, .int .i64 sy1]] w fun e w' => e = .returned (.bool y) ∧ Below w.heap.size w w') (w : World) :
    Calls Tryz.prog 42 #[.agg #[.int .i64 rx0, .int .i64 ry0, .int .i64 rx1, .int .i64 ry1], .agg #[.int .i64 sx0, .int .i64 sy0, .int .i64 sx1, .int .i64 sy1]] w fun e w' => e = .returned (.bool (m && y && (a && (b && (c && d))))) ∧ Below w.heap.size w w' := by
  have keep : ∀ a b : World, Below a.heap.size a b → (fun v : World => v.cell? ⟨w.heap.size, 0, none⟩ = some (.int .i64 rx0) ∧ v.cell? ⟨w.heap.size, 1, none⟩ = some (.int .i64 ry0) ∧ v.cell? ⟨w.heap.size, 2, none⟩ = some (.int .i64 rx1) ∧ v.cell? ⟨w.heap.size, 3, none⟩ = some (.int .i64 ry1) ∧ v.cell? ⟨w.heap.size + 1, 0, none⟩ = some (.int .i64 sx0) ∧ v.cell? ⟨w.heap.size + 1, 1, none⟩ = some (.int .i64 sy0) ∧ v.cell? ⟨w.heap.size + 1, 2, none⟩ = some (.int .i64 sx1) ∧ v.cell? ⟨w.heap.size + 1, 3, none⟩ = some (.int .i64 sy1) ∧ Below w.heap.size w v) a → (fun v : World => v.cell? ⟨w.heap.size, 0, none⟩ = some (.int .i64 rx0) ∧ v.cell? ⟨w.heap.size, 1, none⟩ = some (.int .i64 ry0) ∧ v.cell? ⟨w.heap.size, 2, none⟩ = some (.int .i64 rx1) ∧ v.cell? ⟨w.heap.size, 3, none⟩ = some (.int .i64 ry1) ∧ v.cell? ⟨w.heap.size + 1, 0, none⟩ = some (.int .i64 sx0) ∧ v.cell? ⟨w.heap.size + 1, 1, none⟩ = some (.int .i64 sy0) ∧ v.cell? ⟨w.heap.size + 1, 2, none⟩ = some (.int .i64 sx1) ∧ v.cell? ⟨w.heap.size + 1, 3, none⟩ = some (.int .i64 sy1) ∧ Below w.heap.size w v) b := fun a b hb ⟨h0, h1, h2, h3, h4, h5, h6, h7, h8⟩ => ⟨cell_grew h0 hb, cell_grew h1 hb, cell_grew h2 hb, cell_grew h3 hb, cell_grew h4 hb, cell_grew h5 hb, cell_grew h6 hb, cell_grew h7 hb, grow h8 hb⟩
  have KS := Lib.hid keep
  have drew : ∀ a : World, (fun v : World => v.cell? ⟨w.heap.size, 0, none⟩ = some (.int .i64 rx0) ∧ v.cell? ⟨w.heap.size, 1, none⟩ = some (.int .i64 ry0) ∧ v.cell? ⟨w.heap.size, 2, none⟩ = some (.int .i64 rx1) ∧ v.cell? ⟨w.heap.size, 3, none⟩ = some (.int .i64 ry1) ∧ v.cell? ⟨w.heap.size + 1, 0, none⟩ = some (.int .i64 sx0) ∧ v.cell? ⟨w.heap.size + 1, 1, none⟩ = some (.int .i64 sy0) ∧ v.cell? ⟨w.heap.size + 1, 2, none⟩ = some (.int .i64 sx1) ∧ v.cell? ⟨w.heap.size + 1, 3, none⟩ = some (.int .i64 sy1) ∧ Below w.heap.size w v) a → (fun v : World => v.cell? ⟨w.heap.size, 0, none⟩ = some (.int .i64 rx0) ∧ v.cell? ⟨w.heap.size, 1, none⟩ = some (.int .i64 ry0) ∧ v.cell? ⟨w.heap.size, 2, none⟩ = some (.int .i64 rx1) ∧ v.cell? ⟨w.heap.size, 3, none⟩ = some (.int .i64 ry1) ∧ v.cell? ⟨w.heap.size + 1, 0, none⟩ = some (.int .i64 sx0) ∧ v.cell? ⟨w.heap.size + 1, 1, none⟩ = some (.int .i64 sy0) ∧ v.cell? ⟨w.heap.size + 1, 2, none⟩ = some (.int .i64 sx1) ∧ v.cell? ⟨w.heap.size + 1, 3, none⟩ = some (.int .i64 sy1) ∧ Below w.heap.size w v) a.drew := fun a ⟨h0, h1, h2, h3, h4, h5, h6, h7, h8⟩ => ⟨h0, h1, h2, h3, h4, h5, h6, h7, h8.drew⟩
  have HD := Lib.hid drew
  have alc : ∀ (a : World) (o : Obj), (fun v : World => v.cell? ⟨w.heap.size, 0, none⟩ = some (.int .i64 rx0) ∧ v.cell? ⟨w.heap.size, 1, none⟩ = some (.int .i64 ry0) ∧ v.cell? ⟨w.heap.size, 2, none⟩ = some (.int .i64 rx1) ∧ v.cell? ⟨w.heap.size, 3, none⟩ = some (.int .i64 ry1) ∧ v.cell? ⟨w.heap.size + 1, 0, none⟩ = some (.int .i64 sx0) ∧ v.cell? ⟨w.heap.size + 1, 1, none⟩ = some (.int .i64 sy0) ∧ v.cell? ⟨w.heap.size + 1, 2, none⟩ = some (.int .i64 sx1) ∧ v.cell? ⟨w.heap.size + 1, 3, none⟩ = some (.int .i64 sy1) ∧ Below w.heap.size w v) a → (fun v : World => v.cell? ⟨w.heap.size, 0, none⟩ = some (.int .i64 rx0) ∧ v.cell? ⟨w.heap.size, 1, none⟩ = some (.int .i64 ry0) ∧ v.cell? ⟨w.heap.size, 2, none⟩ = some (.int .i64 rx1) ∧ v.cell? ⟨w.heap.size, 3, none⟩ = some (.int .i64 ry1) ∧ v.cell? ⟨w.heap.size + 1, 0, none⟩ = some (.int .i64 sx0) ∧ v.cell? ⟨w.heap.size + 1, 1, none⟩ = some (.int .i64 sy0) ∧ v.cell? ⟨w.heap.size + 1, 2, none⟩ = some (.int .i64 sx1) ∧ v.cell? ⟨w.heap.size + 1, 3, none⟩ = some (.int .i64 sy1) ∧ Below w.heap.size w v) (a.alloc o) := fun a o h => keep _ _ ((Below.refl _ a).alloc (Nat.le_refl _) o) h
  have HA := Lib.hid alc
  clear keep drew alc
  obtain ⟨w0, hw0, p0, p1, g0, z0⟩ := boxes2 w #[.int .i64 rx0, .int .i64 ry0, .int .i64 rx1, .int .i64 ry1] #[.int .i64 sx0, .int .i64 sy0, .int .i64 sx1, .int .i64 sy1] 33 33
  have hS0 : (fun v : World => v.cell? ⟨w.heap.size, 0, none⟩ = some (.int .i64 rx0) ∧ v.cell? ⟨w.heap.size, 1, none⟩ = some (.int .i64 ry0) ∧ v.cell? ⟨w.heap.size, 2, none⟩ = some (.int .i64 rx1) ∧ v.cell? ⟨w.heap.size, 3, none⟩ = some (.int .i64 ry1) ∧ v.cell? ⟨w.heap.size + 1, 0, none⟩ = some (.int .i64 sx0) ∧ v.cell? ⟨w.heap.size + 1, 1, none⟩ = some (.int .i64 sy0) ∧ v.cell? ⟨w.heap.size + 1, 2, none⟩ = some (.int .i64 sx1) ∧ v.cell? ⟨w.heap.size + 1, 3, none⟩ = some (.int .i64 sy1) ∧ Below w.heap.size w v) w0 := ⟨p0.four.1, p0.four.2.1, p0.four.2.2.1, p0.four.2.2.2.1, p1.four.1, p1.four.2.1, p1.four.2.2.1, p1.four.2.2.2.1, g0⟩
  clear p0 p1 z0 g0
  have K1 := Lib.hid k1
  have K2 := Lib.hid k2
  clear k1 k2
  cases m
  · go_enter Tryz.func42, Tryz.ntmps42
    obtain ⟨c0, c1, c2, c3, c4, c5, c6, c7, c8⟩ := id hS0
    have CB := Lib.hid c8
    clear c8
    go_wp2_with fail
    (try clear hw0)
    refine (K1.out _).mono ?_
    rintro e w1 ⟨rfl, hb⟩
    have hS1 := KS.out _ _ hb hS0
    clear c0 c1 c2 c3 c4 c5 c6 c7 CB
    clear hb hS0
    obtain ⟨c0, c1, c2, c3, c4, c5, c6, c7, c8⟩ := id hS1
    have CB := Lib.hid c8
    clear c8
    go_wp2
    go_ret
    exact ⟨rfl, CB.out⟩
  · cases y
    · go_enter Tryz.func42, Tryz.ntmps42
      obtain ⟨c0, c1, c2, c3, c4, c5, c6, c7, c8⟩ := id hS0
      have CB := Lib.hid c8
      clear c8
      go_wp2_with fail
      (try clear hw0)
      refine (K1.out _).mono ?_
      rintro e w1 ⟨rfl, hb⟩
      have hS1 := KS.out _ _ hb hS0
      clear c0 c1 c2 c3 c4 c5 c6 c7 CB
      clear hb hS0
      obtain ⟨c0, c1, c2, c3, c4, c5, c6, c7, c8⟩ := id hS1
      have CB := Lib.hid c8
      clear c8
      go_wp2_with fail
      refine (K2.out _).mono ?_
      rintro e w2 ⟨rfl, hb⟩
      have hS2 := KS.out _ _ hb hS1
      clear c0 c1 c2 c3 c4 c5 c6 c7 CB
      clear hb hS1
      obtain ⟨c0, c1, c2, c3, c4, c5, c6, c7, c8⟩ := id hS2
      have CB := Lib.hid c8
      clear c8
      go_wp2
      go_ret
      exact ⟨rfl, CB.out⟩
    · cases a
      · go_enter Tryz.func42, Tryz.ntmps42
        obtain ⟨c0, c1, c2, c3, c4, c5, c6, c7, c8⟩ := id hS0
        have CB := Lib.hid c8
        clear c8
        go_wp2_with fail
        (try clear hw0)
        refine (K1.out _).mono ?_
        rintro e w1 ⟨rfl, hb⟩
        have hS1 := KS.out _ _ hb hS0
        clear c0 c1 c2 c3 c4 c5 c6 c7 CB
        clear hb hS0
        obtain ⟨c0, c1, c2, c3, c4, c5, c6, c7, c8⟩ := id hS1
        have CB := Lib.hid c8
        clear c8
        go_wp2_with fail
        refine (K2.out _).mono ?_
        rintro e w2 ⟨rfl, hb⟩
        have hS2 := KS.out _ _ hb hS1
        clear c0 c1 c2 c3 c4 c5 c6 c7 CB
        clear hb hS1
        obtain ⟨c0, c1, c2, c3, c4, c5, c6, c7, c8⟩ := id hS2
        have CB := Lib.hid c8
        clear c8
        go_wp2
        go_ret
        exact ⟨rfl, CB.out⟩
      · cases b
        · go_enter Tryz.func42, Tryz.ntmps42
          obtain ⟨c0, c1, c2, c3, c4, c5, c6, c7, c8⟩ := id hS0
          have CB := Lib.hid c8
          clear c8
          go_wp2_with fail
          (try clear hw0)
          refine (K1.out _).mono ?_
          rintro e w1 ⟨rfl, hb⟩
          have hS1 := KS.out _ _ hb hS0
          clear c0 c1 c2 c3 c4 c5 c6 c7 CB
          clear hb hS0
          obtain ⟨c0, c1, c2, c3, c4, c5, c6, c7, c8⟩ := id hS1
          have CB := Lib.hid c8
          clear c8
          go_wp2_with fail
          refine (K2.out _).mono ?_
          rintro e w2 ⟨rfl, hb⟩
          have hS2 := KS.out _ _ hb hS1
          clear c0 c1 c2 c3 c4 c5 c6 c7 CB
          clear hb hS1
          obtain ⟨c0, c1, c2, c3, c4, c5, c6, c7, c8⟩ := id hS2
          have CB := Lib.hid c8
          clear c8
          go_wp2
          go_ret
          exact ⟨rfl, CB.out⟩
        · cases c
          · go_enter Tryz.func42, Tryz.ntmps42
            obtain ⟨c0, c1, c2, c3, c4, c5, c6, c7, c8⟩ := id hS0
            have CB := Lib.hid c8
            clear c8
            go_wp2_with fail
            (try clear hw0)
            refine (K1.out _).mono ?_
            rintro e w1 ⟨rfl, hb⟩
            have hS1 := KS.out _ _ hb hS0
            clear c0 c1 c2 c3 c4 c5 c6 c7 CB
            clear hb hS0
            obtain ⟨c0, c1, c2, c3, c4, c5, c6, c7, c8⟩ := id hS1
            have CB := Lib.hid c8
            clear c8
            go_wp2_with fail
            refine (K2.out _).mono ?_
            rintro e w2 ⟨rfl, hb⟩
            have hS2 := KS.out _ _ hb hS1
            clear c0 c1 c2 c3 c4 c5 c6 c7 CB
            clear hb hS1
            obtain ⟨c0, c1, c2, c3, c4, c5, c6, c7, c8⟩ := id hS2
            have CB := Lib.hid c8
            clear c8
            go_wp2
            go_ret
            exact ⟨rfl, CB.out⟩
          · cases d
            · go_enter Tryz.func42, Tryz.ntmps42
              obtain ⟨c0, c1, c2, c3, c4, c5, c6, c7, c8⟩ := id hS0
              have CB := Lib.hid c8
              clear c8
              go_wp2_with fail
              (try clear hw0)
              refine (K1.out _).mono ?_
              rintro e w1 ⟨rfl, hb⟩
              have hS1 := KS.out _ _ hb hS0
              clear c0 c1 c2 c3 c4 c5 c6 c7 CB
              clear hb hS0
              obtain ⟨c0, c1, c2, c3, c4, c5, c6, c7, c8⟩ := id hS1
              have CB := Lib.hid c8
              clear c8
              go_wp2_with fail
              refine (K2.out _).mono ?_
              rintro e w2 ⟨rfl, hb⟩
              have hS2 := KS.out _ _ hb hS1
              clear c0 c1 c2 c3 c4 c5 c6 c7 CB
              clear hb hS1
              obtain ⟨c0, c1, c2, c3, c4, c5, c6, c7, c8⟩ := id hS2
              have CB := Lib.hid c8
              clear c8
              go_wp2
              go_ret
              exact ⟨rfl, CB.out⟩
            · go_enter Tryz.func42, Tryz.ntmps42
              obtain ⟨c0, c1, c2, c3, c4, c5, c6, c7, c8⟩ := id hS0
              have CB := Lib.hid c8
              clear c8
              go_wp2_with fail
              (try clear hw0)
              refine (K1.out _).mono ?_
              rintro e w1 ⟨rfl, hb⟩
              have hS1 := KS.out _ _ hb hS0
              clear c0 c1 c2 c3 c4 c5 c6 c7 CB
              clear hb hS0
              obtain ⟨c0, c1, c2, c3, c4, c5, c6, c7, c8⟩ := id hS1
              have CB := Lib.hid c8
              clear c8
              go_wp2_with fail
              refine (K2.out _).mono ?_
              rintro e w2 ⟨rfl, hb⟩
              have hS2 := KS.out _ _ hb hS1
              clear c0 c1 c2 c3 c4 c5 c6 c7 CB
              clear hb hS1
              obtain ⟨c0, c1, c2, c3, c4, c5, c6, c7, c8⟩ := id hS2
              have CB := Lib.hid c8
              clear c8
              go_wp2
              go_ret
              exact ⟨rfl, CB.out⟩
theorem Over_any (r s : Rc) (w : World) : Calls Tryz.prog 42 #[rc r, rc s] w fun e w' => e = .returned (.bool (OverF r s)) ∧ Below w.heap.size w w' := by
  have h := Over_road r.x0 r.y0 r.x1 r.y1 s.x0 s.y0 s.x1 s.y1 _ _ _ _ _ _ rfl rfl rfl rfl (MayR_any r) (MayR_any s) w
  rw [← Bool.decide_and (p := r.y0 ≤ s.y1), ← Bool.decide_and (p := s.x0 ≤ r.x1), ← Bool.decide_and (p := r.x0 ≤ s.x1)] at h
  exact h
end Go.Proofs.YtfmdmfiljplkoaaGreat.Geo
namespace Go.Proofs.YtfmdmfiljplkoaaGreat.Geo
open Go.RowKit
set_option maxHeartbeats 4000000 in
theorem Near_road (rx0 ry0 rx1 ry1 px py nx ny d : Int) (m y : Bool)
    (hx : min (max px rx0) rx1 = nx) (hy : min (max py ry0) ry1 = ny)
    (k1 : ∀ w, Calls Tryz.prog 17 #[.agg #[.int .i64 rx0, .int .i64 ry0, .int .i64 rx1, .int .i64 ry1]] w fun e w' => e = .returned (.bool m) ∧ Below w.heap.size w w')
    (k2 : ∀ w, Calls Tryz.prog 14 #[.agg #[.int .i64 px, .int .i64 py]] w fun e w' => e = .returned (.bool y) ∧ Below w.heap.size w w')
    (k3 : ∀ x y, x = nx → y = ny → ∀ w, Calls Tryz.prog 47 #[.agg #[.int .i64 x, .int .i64 y], .agg #[.int .i64 px, .int .i64 py]] w fun e w' => e = .returned (.int .u64 d) ∧ Below w.heap.size w w') (w : World) :
    Calls Tryz.prog 15 #[.agg #[.int .i64 rx0, .int .i64 ry0, .int .i64 rx1, .int .i64 ry1], .agg #[.int .i64 px, .int .i64 py]] w fun e w' => e = .returned (.int .u64 (if m && y then d else 0)) ∧ Below w.heap.size w w' := by
  obtain ⟨w0, hw0, p0, p1, g0, z0⟩ := boxes2 w #[.int .i64 rx0, .int .i64 ry0, .int .i64 rx1, .int .i64 ry1] #[.int .i64 px, .int .i64 py] 33 24
  have HB0 := Lib.hid (And.intro p0 (And.intro p1 (g0)))
  clear p0 p1 g0 z0
  have K1 := Lib.hid k1
  have K2 := Lib.hid k2
  have K3 := Lib.hid k3
  clear k1 k2 k3
  cases m
  · go_enter Tryz.func15, Tryz.ntmps15
    have c0 := HB0.out.1.four
    have c1 := HB0.out.2.1.two
    go_wp2_with fail
    (try clear hw0)
    refine (K1.out _).mono ?_
    rintro e w1 ⟨rfl, hb⟩
    have HB1 := Lib.hid (And.intro (HB0.out.1.grew hb) (And.intro (HB0.out.2.1.grew hb) (grow HB0.out.2.2 hb)))
    clear c0 c1
    clear hb HB0
    have c0 := HB1.out.1.four
    have c1 := HB1.out.2.1.two
    go_wp2
    go_ret
    exact ⟨rfl, HB1.out.2.2⟩
  · cases y
    · go_enter Tryz.func15, Tryz.ntmps15
      have c0 := HB0.out.1.four
      have c1 := HB0.out.2.1.two
      go_wp2_with fail
      (try clear hw0)
      refine (K1.out _).mono ?_
      rintro e w1 ⟨rfl, hb⟩
      have HB1 := Lib.hid (And.intro (HB0.out.1.grew hb) (And.intro (HB0.out.2.1.grew hb) (grow HB0.out.2.2 hb)))
      clear c0 c1
      clear hb HB0
      have c0 := HB1.out.1.four
      have c1 := HB1.out.2.1.two
      go_wp2_with fail
      refine (K2.out _).mono ?_
      rintro e w2 ⟨rfl, hb⟩
      have HB2 := Lib.hid (And.intro (HB1.out.1.grew hb) (And.intro (HB1.out.2.1.grew hb) (grow HB1.out.2.2 hb)))
      clear c0 c1
      clear hb HB1
      have c0 := HB2.out.1.four
      have c1 := HB2.out.2.1.two
      go_wp2
      go_ret
      exact ⟨rfl, HB2.out.2.2⟩
    · go_enter Tryz.func15, Tryz.ntmps15
      have c0 := HB0.out.1.four
      have c1 := HB0.out.2.1.two
      go_wp2_with fail
      (try clear hw0)
      refine (K1.out _).mono ?_
      rintro e w1 ⟨rfl, hb⟩
      have HB1 := Lib.hid (And.intro (HB0.out.1.grew hb) (And.intro (HB0.out.2.1.grew hb) (grow HB0.out.2.2 hb)))
      clear c0 c1
      clear hb HB0
      have c0 := HB1.out.1.four
      have c1 := HB1.out.2.1.two
      go_wp2_with fail
      refine (K2.out _).mono ?_
      rintro e w2 ⟨rfl, hb⟩
      have HB2 := Lib.hid (And.intro (HB1.out.1.grew hb) (And.intro (HB1.out.2.1.grew hb) (grow HB1.out.2.2 hb)))
      clear c0 c1
      clear hb HB1
      have c0 := HB2.out.1.four
      have c1 := HB2.out.2.1.two
      have l1 : w.heap.size + 1 < w2.heap.size := HB2.out.2.1.lt
      go_wp2_with fail
      all_goals
        refine (K3.out _ _ (by omega) (by omega) _).mono ?_
        rintro e w3 ⟨rfl, hb⟩
        have HB3 := Lib.hid (grow (w1 := _) (grow_alloc HB2.out.2.2 _) hb)
        clear hb
        go_wp2
        go_ret
        exact ⟨rfl, HB3.out⟩
end Go.Proofs.YtfmdmfiljplkoaaGreat.Geo
namespace Go.Proofs.YtfmdmfiljplkoaaGreat.Geo
open Go.RowKit
theorem near_may {r : Rc} {p : Pt} (h : MayR r) : May (nearP r p) := by
  unfold MayR May nearP at *
  dsimp only at *
  omega
theorem Near_any (r : Rc) (p : Pt) (w : World) : Calls Tryz.prog 15 #[rc r, pt p] w fun e w' => e = .returned (.int .u64 (NearF r p)) ∧ Below w.heap.size w w' := by
  have h := Near_road r.x0 r.y0 r.x1 r.y1 p.x p.y (nearP r p).x (nearP r p).y (DistF (nearP r p) p) _ _ rfl rfl (MayR_any r) (May_any p) (fun x y hx hy w => by subst hx hy; exact Dist_any (nearP r p) p w) w
  rw [← Bool.decide_and] at h
  unfold NearF
  by_cases hm : MayR r ∧ May p
  · rw [if_pos hm]
    rw [decide_eq_true hm, if_pos rfl] at h
    unfold DistF at h
    rw [if_pos ⟨near_may hm.1, hm.2⟩] at h
    exact h
  · rw [if_neg hm]
    rw [decide_eq_false hm] at h
    exact h
end Go.Proofs.YtfmdmfiljplkoaaGreat.Geo
