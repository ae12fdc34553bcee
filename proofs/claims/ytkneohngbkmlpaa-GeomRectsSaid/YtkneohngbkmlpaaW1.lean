/- Walks: comparisons of wide numbers. -/
import Derived.Test.YtkneohngbkmlpaaChecked
import Derived.Test.YtkneohngbkmlpaaAid
import Derived.Deep.RegionHeld3
namespace Go.Proofs.Ytkneohngbkmlpaa
open Go.RowKit

def cmpZ (x y : Int) : Int := if x < y then -1 else if y < x then 1 else 0
theorem cmpZ_lt {x y : Int} (h : x < y) : cmpZ x y = -1 := by unfold cmpZ; rw [if_pos h]
theorem cmpZ_gt {x y : Int} (h : y < x) : cmpZ x y = 1 := by unfold cmpZ; rw [if_neg (by omega), if_pos h]
theorem cmpZ_eq {x y : Int} (h : x = y) : cmpZ x y = 0 := by unfold cmpZ; rw [if_neg (by omega), if_neg (by omega)]

theorem cmpI_any (x y : Int) (w : World) :
    Calls Try.prog 59 #[.int .i64 x, .int .i64 y] w fun e w' => e = .returned (.int .i64 (cmpZ x y)) ∧ w = w' := by
  rcases Int.lt_trichotomy x y with h | h | h
  · rw [cmpZ_lt h]
    go_enter Try.func59, Try.ntmps59
    go_wp2
    go_ret
    exact ⟨rfl, rfl⟩
  · subst h
    rw [cmpZ_eq rfl]
    go_enter Try.func59, Try.ntmps59
    go_wp2
    go_ret
    exact ⟨rfl, rfl⟩
  · rw [cmpZ_gt h]
    have h' : ¬ x < y := by omega
    go_enter Try.func59, Try.ntmps59
    go_wp2
    go_ret
    exact ⟨rfl, rfl⟩
theorem cmpU_any (x y : Int) (w : World) :
    Calls Try.prog 60 #[.int .u64 x, .int .u64 y] w fun e w' => e = .returned (.int .i64 (cmpZ x y)) ∧ w = w' := by
  rcases Int.lt_trichotomy x y with h | h | h
  · rw [cmpZ_lt h]
    go_enter Try.func60, Try.ntmps60
    go_wp2
    go_ret
    exact ⟨rfl, rfl⟩
  · subst h
    rw [cmpZ_eq rfl]
    go_enter Try.func60, Try.ntmps60
    go_wp2
    go_ret
    exact ⟨rfl, rfl⟩
  · rw [cmpZ_gt h]
    have h' : ¬ x < y := by omega
    go_enter Try.func60, Try.ntmps60
    go_wp2
    go_ret
    exact ⟨rfl, rfl⟩

def orZ (x y : Int) : Int := if x = 0 then y else x

theorem Or_two (b : Nat) (x y : Int) (t : TypeId) (w : World) (hk : Blk w b #[.int .i64 x, .int .i64 y] t) :
    Calls Try.prog 58 #[.slice (some ⟨b, 0, none⟩) 2 2] w fun e w' => e = .returned (.int .i64 (orZ x y)) ∧ w = w' := by
  have kf := hk.two
  by_cases hx : x = 0
  · have e : orZ x y = y := by unfold orZ; rw [if_pos hx]
    rw [e]
    subst hx
    by_cases hy : y = 0
    · subst hy
      go_enter Try.func58, Try.ntmps58
      go_wp2
      go_rounds 3
      go_ret
      exact ⟨rfl, rfl⟩
    · have hy' : (y == 0) = false := by simpa using hy
      have hy2 : (y != 0) = true := by simpa using hy
      go_enter Try.func58, Try.ntmps58
      go_wp2
      go_rounds 3
      go_ret
      exact ⟨rfl, rfl⟩
  · have e : orZ x y = x := by unfold orZ; rw [if_neg hx]
    rw [e]
    have hx' : (x == 0) = false := by simpa using hx
    have hx2 : (x != 0) = true := by simpa using hx
    go_enter Try.func58, Try.ntmps58
    go_wp2
    go_rounds 3
    go_ret
    exact ⟨rfl, rfl⟩

theorem Compare_road (h l h2 l2 x y : Int) (c1 : ∀ w, Calls Try.prog 59 #[.int .i64 h, .int .i64 h2] w fun e w' => e = .returned (.int .i64 x) ∧ w = w')
    (c2 : ∀ w, Calls Try.prog 60 #[.int .u64 l, .int .u64 l2] w fun e w' => e = .returned (.int .i64 y) ∧ w = w') (w : World) :
    Calls Try.prog 56 #[.agg #[.int .i64 h, .int .u64 l], .agg #[.int .i64 h2, .int .u64 l2]] w fun e w' => e = .returned (.int .i64 (orZ x y)) ∧ Below w.heap.size w w' := by
  have C1 := Lib.hid c1
  have C2 := Lib.hid c2
  clear c1 c2
  go_enter Try.func56, Try.ntmps56
  go_wp2
  have k0 := (Blk.new w #[.int .i64 h, .int .u64 l] 65).alloc (.cells #[.int .i64 h2, .int .u64 l2] 65)
  have l0 := Blk.new' (b := w.heap.size + 1) (w.alloc (.cells #[.int .i64 h, .int .u64 l] 65)) #[.int .i64 h2, .int .u64 l2] 65 (by simp)
  have g0 := grow_alloc (grow_alloc (Below.refl _ w) (.cells #[.int .i64 h, .int .u64 l] 65)) (.cells #[.int .i64 h2, .int .u64 l2] 65)
  have z0 : ((w.alloc (.cells #[.int .i64 h, .int .u64 l] 65)).alloc (.cells #[.int .i64 h2, .int .u64 l2] 65)).heap.size = w.heap.size + 2 := by simp
  generalize (w.alloc (.cells #[.int .i64 h, .int .u64 l] 65)).alloc (.cells #[.int .i64 h2, .int .u64 l2] 65) = w1 at *
  have kf := k0.two
  have lf := l0.two
  go_region_held3 (fun w' => w'.cell? ⟨w.heap.size, 0, none⟩ = some (.int .i64 h) ∧ w'.cell? ⟨w.heap.size, 1, none⟩ = some (.int .u64 l) ∧ w'.cell? ⟨w.heap.size + 1, 0, none⟩ = some (.int .i64 h2) ∧ w'.cell? ⟨w.heap.size + 1, 1, none⟩ = some (.int .u64 l2))
    (go_keep)
    (first | (go_at_call 59; refine (C1.out _).mono ?_; rintro e w' ⟨rfl, rfl⟩) | (go_at_call 60; refine (C2.out _).mono ?_; rintro e w' ⟨rfl, rfl⟩) | (go_at_call 58; refine (Or_two _ x y 3 _ ?_).mono ?_; (exact Blk.new' _ _ _ (by first | rfl | exact z0.symm | omega)); rintro e w' ⟨rfl, rfl⟩))
  go_wp2
  go_ret
  exact ⟨rfl, grow_alloc g0.drew _⟩

end Go.Proofs.Ytkneohngbkmlpaa
