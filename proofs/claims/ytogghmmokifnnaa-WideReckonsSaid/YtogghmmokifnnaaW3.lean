/- Walks: Sign, Compare. -/
import Derived.Test.YtogghmmokifnnaaW2
namespace Go.Proofs.Ytogghmmokifnnaa
open Go.RowKit

def orZ (x y : Int) : Int := if x = 0 then y else x

theorem Or_two (b : Nat) (x y : Int) (t : TypeId) (w : World) (hk : Blk w b #[.int .i64 x, .int .i64 y] t) :
    Calls Try.prog 28 #[.slice (some ⟨b, 0, none⟩) 2 2] w fun e w' => e = .returned (.int .i64 (orZ x y)) ∧ w = w' := by
  have kf := hk.two
  by_cases hx : x = 0
  · have e : orZ x y = y := by unfold orZ; rw [if_pos hx]
    rw [e]
    subst hx
    by_cases hy : y = 0
    · subst hy
      go_enter Try.func28, Try.ntmps28
      go_wp2
      go_rounds 3
      go_ret
      exact ⟨rfl, rfl⟩
    · have hy' : (y == 0) = false := by simpa using hy
      have hy2 : (y != 0) = true := by simpa using hy
      go_enter Try.func28, Try.ntmps28
      go_wp2
      go_rounds 3
      go_ret
      exact ⟨rfl, rfl⟩
  · have e : orZ x y = x := by unfold orZ; rw [if_neg hx]
    rw [e]
    have hx' : (x == 0) = false := by simpa using hx
    have hx2 : (x != 0) = true := by simpa using hx
    go_enter Try.func28, Try.ntmps28
    go_wp2
    go_rounds 3
    go_ret
    exact ⟨rfl, rfl⟩

theorem Sign_any (a : Nat) (ha : a < 340282366920938463463374607431768211456) (w : World) :
    Calls Try.prog 13 #[W a] w fun e w' => e = .returned (.int .i64 (M.cmpZ (M.valZ a) 0)) ∧ Below w.heap.size w w' := by
  have hv := M.valZ_halves a ha
  have hl := M.loN_lt a
  have hl0 : M.loZ a = (M.loN a : Int) := rfl
  unfold W
  generalize M.valZ a = v at *
  generalize M.hiZ a = h at *
  generalize M.loZ a = l at *
  generalize M.loN a = n at *
  by_cases c : h = 0 ∧ l ≠ 0
  · obtain ⟨rfl, c2⟩ := c
    have e : M.cmpZ v 0 = 1 := M.cmpZ_gt (by omega)
    rw [e]
    have l1 : (l == 0) = false := by simpa using c2
    have l2 : (l != 0) = true := by simpa using c2
    clear hv hl hl0 c2 e
    go_enter Try.func13, Try.ntmps13
    go_wp2
    go_ret
    exact ⟨rfl, by go_grown⟩
  · have e : M.cmpZ v 0 = M.cmpZ h 0 := by
      rcases Int.lt_trichotomy h 0 with g | g | g
      · rw [M.cmpZ_lt g, M.cmpZ_lt (by omega)]
      · have : l = 0 := by
          by_cases l0 : l = 0
          · exact l0
          · exact absurd ⟨g, l0⟩ c
        rw [M.cmpZ_eq g, M.cmpZ_eq (by omega)]
      · rw [M.cmpZ_gt g, M.cmpZ_gt (by omega)]
    rw [e]
    clear e hv hl hl0
    by_cases g : h = 0
    · have l0 : l = 0 := by
        by_cases l0 : l = 0
        · exact l0
        · exact absurd ⟨g, l0⟩ c
      clear c
      subst g; subst l0
      go_enter Try.func13, Try.ntmps13
      go_wp2_with fail
      refine (sign_any _ _).mono ?_
      rintro e w1 ⟨rfl, rfl⟩
      go_wp2_with fail
      go_ret
      exact ⟨rfl, by go_grown⟩
    · clear c
      have g1 : (h == 0) = false := by simpa using g
      go_enter Try.func13, Try.ntmps13
      go_wp2_with fail
      refine (sign_any _ _).mono ?_
      rintro e w1 ⟨rfl, rfl⟩
      go_wp2_with fail
      go_ret
      exact ⟨rfl, by go_grown⟩

theorem or_cmp (a b : Nat) (ha : a < 340282366920938463463374607431768211456) (hb : b < 340282366920938463463374607431768211456) :
    orZ (M.cmpZ (M.hiZ a) (M.hiZ b)) (M.cmpZ (M.loZ a) (M.loZ b)) = M.cmpZ (M.valZ a) (M.valZ b) := by
  unfold orZ; exact M.cmp_halves a b ha hb

theorem Compare_road (h l h2 l2 x y : Int) (c1 : ∀ w, Calls Try.prog 29 #[.int .i64 h, .int .i64 h2] w fun e w' => e = .returned (.int .i64 x) ∧ w = w')
    (c2 : ∀ w, Calls Try.prog 30 #[.int .u64 l, .int .u64 l2] w fun e w' => e = .returned (.int .i64 y) ∧ w = w') (w : World) :
    Calls Try.prog 11 #[.agg #[.int .i64 h, .int .u64 l], .agg #[.int .i64 h2, .int .u64 l2]] w fun e w' => e = .returned (.int .i64 (orZ x y)) ∧ Below w.heap.size w w' := by
  have C1 := Lib.hid c1
  have C2 := Lib.hid c2
  clear c1 c2
  go_enter Try.func11, Try.ntmps11
  go_wp2
  have k0 := (Blk.new w #[.int .i64 h, .int .u64 l] 24).alloc (.cells #[.int .i64 h2, .int .u64 l2] 24)
  have l0 := Blk.new' (b := w.heap.size + 1) (w.alloc (.cells #[.int .i64 h, .int .u64 l] 24)) #[.int .i64 h2, .int .u64 l2] 24 (by simp)
  have g0 := grow_alloc (grow_alloc (Below.refl _ w) (.cells #[.int .i64 h, .int .u64 l] 24)) (.cells #[.int .i64 h2, .int .u64 l2] 24)
  have z0 : ((w.alloc (.cells #[.int .i64 h, .int .u64 l] 24)).alloc (.cells #[.int .i64 h2, .int .u64 l2] 24)).heap.size = w.heap.size + 2 := by simp
  generalize (w.alloc (.cells #[.int .i64 h, .int .u64 l] 24)).alloc (.cells #[.int .i64 h2, .int .u64 l2] 24) = w1 at *
  have kf := k0.two
  have lf := l0.two
  go_region_held3 (fun w' => w'.cell? ⟨w.heap.size, 0, none⟩ = some (.int .i64 h) ∧ w'.cell? ⟨w.heap.size, 1, none⟩ = some (.int .u64 l) ∧ w'.cell? ⟨w.heap.size + 1, 0, none⟩ = some (.int .i64 h2) ∧ w'.cell? ⟨w.heap.size + 1, 1, none⟩ = some (.int .u64 l2))
    (go_keep)
    (first | (go_at_call 29; refine (C1.out _).mono ?_; rintro e w' ⟨rfl, rfl⟩) | (go_at_call 30; refine (C2.out _).mono ?_; rintro e w' ⟨rfl, rfl⟩) | (go_at_call 28; refine (Or_two _ x y 3 _ ?_).mono ?_; (exact Blk.new' _ _ _ (by first | rfl | exact z0.symm | omega)); rintro e w' ⟨rfl, rfl⟩))
  go_wp2
  go_ret
  exact ⟨rfl, grow_alloc g0.drew _⟩

theorem Compare_any (a b : Nat) (ha : a < 340282366920938463463374607431768211456) (hb : b < 340282366920938463463374607431768211456) (w : World) :
    Calls Try.prog 11 #[W a, W b] w fun e w' => e = .returned (.int .i64 (M.cmpZ (M.valZ a) (M.valZ b))) ∧ Below w.heap.size w w' := by
  rw [← or_cmp a b ha hb]
  exact Compare_road _ _ _ _ _ _ (cmpI_any _ _) (cmpU_any _ _) w

end Go.Proofs.Ytogghmmokifnnaa
