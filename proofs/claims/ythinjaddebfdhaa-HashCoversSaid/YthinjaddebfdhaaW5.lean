/- Walks: the reference's Code and Place, the program's Place. -/
import Derived.Test.YthinjaddebfdhaaW4
namespace Go.Proofs.Ythinjaddebfdhaa
open Go.RowKit

theorem refCode_yes (x y : Int) (w : World) (h : mayB x y = true) :
    Calls Try.prog 9 #[.agg #[.int .i64 x, .int .i64 y]] w fun e w' => e = .returned (.tuple #[.int .u64 (codeN x y), .bool true]) ∧ Below w.heap.size w w' := by
  obtain ⟨⟨a1, a2⟩, a3, a4⟩ := mayB_iff.1 h
  obtain ⟨X, hX⟩ := Int.eq_ofNat_of_zero_le (show 0 ≤ x + 1800000000 by omega)
  obtain ⟨Y, hY⟩ := Int.eq_ofNat_of_zero_le (show 0 ≤ y + 900000000 by omega)
  have hm := fun w => mix_any X Y 32 (by omega) (by omega) (by omega) w
  have hv : codeN x y = 2 * M.spr 32 X + M.spr 32 Y := by unfold codeN; rw [hX, hY]; rfl
  have H := Lib.hid h
  have HX := Lib.hid hX
  have HY := Lib.hid hY
  have HM := Lib.hid hm
  have HV := Lib.hid hv
  clear h hX hY hm hv
  go_enter Try.func9, Try.ntmps9
  go_wp2_with fail
  refine (refMay_any _ _ _).mono ?_
  rintro e w1 ⟨rfl, hb1⟩
  rw [H.out]
  obtain ⟨hc, hf⟩ := bcell hb1
  go_wp2_with fail
  rw [HX.out, HY.out]
  refine (HM.out _).mono ?_
  rintro e w2 ⟨rfl, rfl⟩
  go_wp2_with fail
  go_ret2
  exact ⟨by rw [HV.out]; rfl, ((Below.refl _ w).alloc (Nat.le_refl _) _).trans (hb1.mono (by simp))⟩

theorem refCode_no (x y : Int) (w : World) (h : mayB x y = false) :
    Calls Try.prog 9 #[.agg #[.int .i64 x, .int .i64 y]] w fun e w' => e = .returned (.tuple #[.int .u64 0, .bool false]) ∧ Below w.heap.size w w' := by
  have H := Lib.hid h
  clear h
  go_enter Try.func9, Try.ntmps9
  go_wp2_with fail
  refine (refMay_any _ _ _).mono ?_
  rintro e w1 ⟨rfl, hb1⟩
  rw [H.out]
  go_wp2_with fail
  go_ret2
  exact ⟨rfl, ((Below.refl _ w).alloc (Nat.le_refl _) _).trans (hb1.mono (by simp))⟩

def placeX (n : Nat) : Int := (M.gat 32 (n / 2) : Int) - 1800000000
def placeY (n : Nat) : Int := (M.gat 32 n : Int) - 900000000
theorem gath_eq (n : Nat) (h : n < 18446744073709551616) : M.gather n = M.gat 32 n ∧ M.gat 32 n < 4294967296 := ⟨M.gather_eq n h, M.gat_lt 32 n⟩

theorem gather_of (n : Int) (m G : Nat) (hm : m < 18446744073709551616) (e : n = m) (hG : M.gather m = G) (w : World) :
    Calls Try.prog 21 #[.int .u64 n] w fun e w' => e = .returned (.int .u64 G) ∧ Below w.heap.size w w' := by
  subst e; subst hG
  have := gather_any (m : Int) (by omega) (by omega) w
  simpa using this

theorem Place_yes (n : Nat) (hn : n < 18446744073709551616) (w : World) (h : mayB (placeX n) (placeY n) = true) :
    Calls Try.prog 10 #[.int .u64 n] w fun e w' => e = .returned (.tuple #[.agg #[.int .i64 (placeX n), .int .i64 (placeY n)], .bool true]) ∧ Below w.heap.size w w' := by
  obtain ⟨e1, l1⟩ := gath_eq (n / 2) (by omega)
  obtain ⟨e2, l2⟩ := gath_eq n hn
  unfold placeX placeY at *
  generalize M.gat 32 (n / 2) = X at *
  generalize M.gat 32 n = Y at *
  have H := Lib.hid h
  have H1 := Lib.hid e1
  have H2 := Lib.hid e2
  clear h e1 e2
  go_enter Try.func10, Try.ntmps10
  go_wp2_with fail
  refine (gather_of _ (n / 2) X (by omega) (by omega) H1.out _).mono ?_
  rintro e w1 ⟨rfl, hb1⟩
  have k1 := (Blk.new w #[.int .i64 0, .int .i64 0] 23).grew hb1
  have g1 : Below w.heap.size w w1 := grow (grow_alloc (Below.refl _ w) _) hb1
  go_wp2_with fail
  refine (gather_of _ n Y hn rfl H2.out _).mono ?_
  rintro e w2 ⟨rfl, hb2⟩
  have k2 := k1.grew hb2
  have g2 := grow g1 hb2
  go_wp2_with fail
  refine (may_any _ _ _).mono ?_
  rintro e w3 ⟨rfl, hb3⟩
  have k3 := (k2.alloc _).grew hb3
  have l3 := (Blk.new w2 #[.int .i64 (X - 1800000000), .int .i64 (Y - 900000000)] 23).grew hb3
  have g3 := grow (grow_alloc g2 _) hb3
  have z1 := k2.lt
  have kf := k3.two
  have lf := l3.two
  rw [H.out]
  go_wp2_with fail
  refine bodyPost_ret (v := .tuple #[.agg #[.int .i64 (X - 1800000000), .int .i64 (Y - 900000000)], .bool true]) ?_ rfl ⟨rfl, ?_⟩
  · simp [results, Try.results10, go_sem, kf]
  · exact (g3.setCell (Nat.le_refl _) _).setCell (Nat.le_refl _) _

theorem Place_no (n : Nat) (hn : n < 18446744073709551616) (w : World) (h : mayB (placeX n) (placeY n) = false) :
    Calls Try.prog 10 #[.int .u64 n] w fun e w' => e = .returned (.tuple #[.agg #[.int .i64 0, .int .i64 0], .bool false]) ∧ Below w.heap.size w w' := by
  obtain ⟨e1, l1⟩ := gath_eq (n / 2) (by omega)
  obtain ⟨e2, l2⟩ := gath_eq n hn
  unfold placeX placeY at *
  generalize M.gat 32 (n / 2) = X at *
  generalize M.gat 32 n = Y at *
  have H := Lib.hid h
  have H1 := Lib.hid e1
  have H2 := Lib.hid e2
  clear h e1 e2
  go_enter Try.func10, Try.ntmps10
  go_wp2_with fail
  refine (gather_of _ (n / 2) X (by omega) (by omega) H1.out _).mono ?_
  rintro e w1 ⟨rfl, hb1⟩
  have k1 := (Blk.new w #[.int .i64 0, .int .i64 0] 23).grew hb1
  have g1 : Below w.heap.size w w1 := grow (grow_alloc (Below.refl _ w) _) hb1
  go_wp2_with fail
  refine (gather_of _ n Y hn rfl H2.out _).mono ?_
  rintro e w2 ⟨rfl, hb2⟩
  have k2 := k1.grew hb2
  have g2 := grow g1 hb2
  go_wp2_with fail
  refine (may_any _ _ _).mono ?_
  rintro e w3 ⟨rfl, hb3⟩
  have k3 := (k2.alloc _).grew hb3
  have g3 := grow (grow_alloc g2 _) hb3
  have z1 := k2.lt
  have kf := k3.two
  rw [H.out]
  go_wp2_with fail
  refine bodyPost_ret (v := .tuple #[.agg #[.int .i64 0, .int .i64 0], .bool false]) ?_ rfl ⟨rfl, ?_⟩
  · simp [results, Try.results10, go_sem, kf]
  · exact (g3.setCell (Nat.le_refl _) _).setCell (Nat.le_refl _) _

end Go.Proofs.Ythinjaddebfdhaa
