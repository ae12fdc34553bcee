/- Walk: WideTurns. -/
import Derived.Test.YtogghmmokifnnaaW3
namespace Go.Proofs.Ytogghmmokifnnaa
open Go.RowKit

set_option maxRecDepth 100000 in
set_option maxHeartbeats 8000000 in
theorem WideTurns_road (ha la hb lb hc lc hs ls ht lt hu lu hd ld k : Int) (k0 : -1 ≤ k) (k1 : k ≤ 1)
    (p1 : ∀ w, Calls Try.prog 8 #[.agg #[.int .i64 ha, .int .u64 la], .agg #[.int .i64 hb, .int .u64 lb]] w fun e w' => e = .returned (.agg #[.int .i64 hs, .int .u64 ls]) ∧ Below w.heap.size w w')
    (p2 : ∀ w, Calls Try.prog 8 #[.agg #[.int .i64 hb, .int .u64 lb], .agg #[.int .i64 ha, .int .u64 la]] w fun e w' => e = .returned (.agg #[.int .i64 hs, .int .u64 ls]) ∧ Below w.heap.size w w')
    (p3 : ∀ w, Calls Try.prog 8 #[.agg #[.int .i64 hs, .int .u64 ls], .agg #[.int .i64 hc, .int .u64 lc]] w fun e w' => e = .returned (.agg #[.int .i64 ht, .int .u64 lt]) ∧ Below w.heap.size w w')
    (p4 : ∀ w, Calls Try.prog 8 #[.agg #[.int .i64 hb, .int .u64 lb], .agg #[.int .i64 hc, .int .u64 lc]] w fun e w' => e = .returned (.agg #[.int .i64 hu, .int .u64 lu]) ∧ Below w.heap.size w w')
    (p5 : ∀ w, Calls Try.prog 8 #[.agg #[.int .i64 ha, .int .u64 la], .agg #[.int .i64 hu, .int .u64 lu]] w fun e w' => e = .returned (.agg #[.int .i64 ht, .int .u64 lt]) ∧ Below w.heap.size w w')
    (p6 : ∀ w, Calls Try.prog 8 #[.agg #[.int .i64 ha, .int .u64 la], .agg #[.int .i64 hd, .int .u64 ld]] w fun e w' => e = .returned (.agg #[.int .i64 0, .int .u64 0]) ∧ Below w.heap.size w w')
    (q1 : ∀ w, Calls Try.prog 9 #[.agg #[.int .i64 hs, .int .u64 ls], .agg #[.int .i64 hb, .int .u64 lb]] w fun e w' => e = .returned (.agg #[.int .i64 ha, .int .u64 la]) ∧ Below w.heap.size w w')
    (t1 : ∀ w, Calls Try.prog 10 #[.agg #[.int .i64 ha, .int .u64 la]] w fun e w' => e = .returned (.agg #[.int .i64 hd, .int .u64 ld]) ∧ Below w.heap.size w w')
    (t2 : ∀ w, Calls Try.prog 10 #[.agg #[.int .i64 hd, .int .u64 ld]] w fun e w' => e = .returned (.agg #[.int .i64 ha, .int .u64 la]) ∧ Below w.heap.size w w')
    (c1 : ∀ w, Calls Try.prog 11 #[.agg #[.int .i64 ha, .int .u64 la], .agg #[.int .i64 hb, .int .u64 lb]] w fun e w' => e = .returned (.int .i64 k) ∧ Below w.heap.size w w')
    (c2 : ∀ w, Calls Try.prog 11 #[.agg #[.int .i64 hb, .int .u64 lb], .agg #[.int .i64 ha, .int .u64 la]] w fun e w' => e = .returned (.int .i64 (-k)) ∧ Below w.heap.size w w')
    (o1 : ∀ w, Calls Try.prog 12 #[.int .i64 7] w fun e w' => e = .returned (.agg #[.int .i64 0, .int .u64 7]) ∧ Below w.heap.size w w')
    (s1 : ∀ w, Calls Try.prog 13 #[.agg #[.int .i64 0, .int .u64 7]] w fun e w' => e = .returned (.int .i64 1) ∧ Below w.heap.size w w')
    (w : World) :
    Calls Try.prog 3 #[.agg #[.int .i64 ha, .int .u64 la], .agg #[.int .i64 hb, .int .u64 lb], .agg #[.int .i64 hc, .int .u64 lc]] w fun e w' => e = .returned (.bool true) ∧ Below w.heap.size w w' := by
  have P1 := Lib.hid p1
  have P2 := Lib.hid p2
  have P3 := Lib.hid p3
  have P4 := Lib.hid p4
  have P5 := Lib.hid p5
  have P6 := Lib.hid p6
  have Q1 := Lib.hid q1
  have T1 := Lib.hid t1
  have T2 := Lib.hid t2
  have C1 := Lib.hid c1
  have C2 := Lib.hid c2
  have O1 := Lib.hid o1
  have S1 := Lib.hid s1
  clear p1 p2 p3 p4 p5 p6 q1 t1 t2 c1 c2 o1 s1
  have ks : ∀ a b : World, Below a.heap.size a b → (a.cell? ⟨w.heap.size, 0, none⟩ = some (.int .i64 ha) ∧ a.cell? ⟨w.heap.size, 1, none⟩ = some (.int .u64 la) ∧ a.cell? ⟨w.heap.size + 1, 0, none⟩ = some (.int .i64 hb) ∧ a.cell? ⟨w.heap.size + 1, 1, none⟩ = some (.int .u64 lb) ∧ a.cell? ⟨w.heap.size + 1 + 1, 0, none⟩ = some (.int .i64 hc) ∧ a.cell? ⟨w.heap.size + 1 + 1, 1, none⟩ = some (.int .u64 lc) ∧ Below w.heap.size w a) →
      (b.cell? ⟨w.heap.size, 0, none⟩ = some (.int .i64 ha) ∧ b.cell? ⟨w.heap.size, 1, none⟩ = some (.int .u64 la) ∧ b.cell? ⟨w.heap.size + 1, 0, none⟩ = some (.int .i64 hb) ∧ b.cell? ⟨w.heap.size + 1, 1, none⟩ = some (.int .u64 lb) ∧ b.cell? ⟨w.heap.size + 1 + 1, 0, none⟩ = some (.int .i64 hc) ∧ b.cell? ⟨w.heap.size + 1 + 1, 1, none⟩ = some (.int .u64 lc) ∧ Below w.heap.size w b) :=
    fun a b hb hs => ⟨cell_grew (hs.1) hb, cell_grew (hs.2.1) hb, cell_grew (hs.2.2.1) hb, cell_grew (hs.2.2.2.1) hb, cell_grew (hs.2.2.2.2.1) hb, cell_grew (hs.2.2.2.2.2.1) hb, grow (hs.2.2.2.2.2.2) hb⟩
  have KS := Lib.hid ks
  clear ks
  have wk : IntKind.i64.wrap k = k := IntWalk.i64_in _ (by omega)
  go_enter Try.func3, Try.ntmps3
  go_wp2
  have x0 := ((Blk.new w #[.int .i64 ha, .int .u64 la] 24).alloc (.cells #[.int .i64 hb, .int .u64 lb] 24)).alloc (.cells #[.int .i64 hc, .int .u64 lc] 24)
  have y0 := (Blk.new' (b := w.heap.size + 1) (w.alloc (.cells #[.int .i64 ha, .int .u64 la] 24)) #[.int .i64 hb, .int .u64 lb] 24 (by simp)).alloc (.cells #[.int .i64 hc, .int .u64 lc] 24)
  have z0 := Blk.new' (b := w.heap.size + 1 + 1) ((w.alloc (.cells #[.int .i64 ha, .int .u64 la] 24)).alloc (.cells #[.int .i64 hb, .int .u64 lb] 24)) #[.int .i64 hc, .int .u64 lc] 24 (by simp)
  have g0 := grow_alloc (grow_alloc (grow_alloc (Below.refl _ w) (.cells #[.int .i64 ha, .int .u64 la] 24)) (.cells #[.int .i64 hb, .int .u64 lb] 24)) (.cells #[.int .i64 hc, .int .u64 lc] 24)
  generalize ((w.alloc (.cells #[.int .i64 ha, .int .u64 la] 24)).alloc (.cells #[.int .i64 hb, .int .u64 lb] 24)).alloc (.cells #[.int .i64 hc, .int .u64 lc] 24) = w1 at *
  have kf := x0.two
  have lf := y0.two
  have mf := z0.two
  clear x0 y0 z0
  go_region_held3 (fun w' => w'.cell? ⟨w.heap.size, 0, none⟩ = some (.int .i64 ha) ∧ w'.cell? ⟨w.heap.size, 1, none⟩ = some (.int .u64 la) ∧ w'.cell? ⟨w.heap.size + 1, 0, none⟩ = some (.int .i64 hb) ∧ w'.cell? ⟨w.heap.size + 1, 1, none⟩ = some (.int .u64 lb) ∧ w'.cell? ⟨w.heap.size + 1 + 1, 0, none⟩ = some (.int .i64 hc) ∧ w'.cell? ⟨w.heap.size + 1 + 1, 1, none⟩ = some (.int .u64 lc) ∧ Below w.heap.size w w')
    (first | exact ⟨kf.1, kf.2.1, lf.1, lf.2.1, mf.1, mf.2.1, g0.drew⟩ | exact KS.out _ _ (by assumption) (by assumption))
    (first | (go_at_call 8; (first | (with_reducible refine (P1.out _).mono ?_) | (with_reducible refine (P2.out _).mono ?_) | (with_reducible refine (P3.out _).mono ?_) | (with_reducible refine (P4.out _).mono ?_) | (with_reducible refine (P5.out _).mono ?_) | (with_reducible refine (P6.out _).mono ?_)); rintro e w' ⟨rfl, hb⟩) | (go_at_call 9; refine (Q1.out _).mono ?_; rintro e w' ⟨rfl, hb⟩) | (go_at_call 10; (first | (with_reducible refine (T1.out _).mono ?_) | (with_reducible refine (T2.out _).mono ?_)); rintro e w' ⟨rfl, hb⟩) | (go_at_call 11; (first | (with_reducible refine (C1.out _).mono ?_) | (with_reducible refine (C2.out _).mono ?_)); rintro e w' ⟨rfl, hb⟩) | (go_at_call 12; refine (O1.out _).mono ?_; rintro e w' ⟨rfl, hb⟩) | (go_at_call 13; refine (S1.out _).mono ?_; rintro e w' ⟨rfl, hb⟩))
  go_wp2
  go_ret
  exact ⟨rfl, (‹_ ∧ _ ∧ _ ∧ _ ∧ _ ∧ _ ∧ Below w.heap.size w _›).2.2.2.2.2.2⟩

end Go.Proofs.Ytogghmmokifnnaa
