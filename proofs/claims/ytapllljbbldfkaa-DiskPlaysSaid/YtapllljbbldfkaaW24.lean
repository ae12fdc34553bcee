/- Walk: DiskPlays. -/
import Derived.Test.YtapllljbbldfkaaW23
namespace Go.Proofs.Ytapllljbbldfkaa
open Go.RowKit Go.Maps

set_option maxRecDepth 20000 in
set_option maxHeartbeats 16000000 in
theorem Plays_dark (s z : Int) (A : Option Addr) (l : List ActV) (n c : Nat) (w : World) (hn : l.length = n) (hr : Acts w w.heap.size A l) (hlt : lightB l = false) :
    Calls Try.prog 4 #[.int .i64 s, .int .i64 z, .slice A n c] w fun e w' => e = .returned (.bool true) ∧ Below w.heap.size w w' := by
  have HL := Lib.hid (light_any A l n c _ w hn hr)
  have HLI := Lib.hid hlt
  clear hn hr hlt
  go_enter Try.func4, Try.ntmps4
  go_wp2_with fail
  refine HL.out.mono ?_
  rintro e w1 ⟨rfl, hw1⟩
  rw [HLI.out, hw1]
  clear hw1 HL
  go_wp2
  go_ret
  exact ⟨rfl, Below.refl _ _⟩

set_option maxRecDepth 20000 in
set_option maxHeartbeats 16000000 in
theorem Plays_many (s z : Int) (A : Option Addr) (l : List ActV) (n c : Nat) (w : World) (hs : 8 < s) (hs2 : s ≤ 1048576) (hn : l.length = n) (hr : Acts w w.heap.size A l) (hlt : lightB l = true) :
    Calls Try.prog 4 #[.int .i64 s, .int .i64 z, .slice A n c] w fun e w' => e = .returned (.bool true) ∧ Below w.heap.size w w' := by
  have HL := Lib.hid (light_any A l n c _ w hn hr)
  have HLI := Lib.hid hlt
  clear hn hr hlt
  go_enter Try.func4, Try.ntmps4
  go_wp2_with fail
  refine HL.out.mono ?_
  rintro e w1 ⟨rfl, hw1⟩
  rw [HLI.out, hw1]
  clear hw1 HL
  go_wp2
  go_ret
  exact ⟨rfl, Below.refl _ _⟩

set_option maxRecDepth 20000 in
set_option maxHeartbeats 16000000 in
theorem Plays_wrong (s z : Int) (A : Option Addr) (l : List ActV) (n c : Nat) (w : World) (hs : ¬ 8 < s ∨ (8 < s ∧ ¬ s ≤ 1048576)) (hw : rightB s z = false) (hn : l.length = n) (hr : Acts w w.heap.size A l) (hlt : lightB l = true) :
    Calls Try.prog 4 #[.int .i64 s, .int .i64 z, .slice A n c] w fun e w' => e = .returned (.bool true) ∧ Below w.heap.size w w' := by
  have HL := Lib.hid (light_any A l n c _ w hn hr)
  have HLI := Lib.hid hlt
  have HWR := Lib.hid hw
  have HNO := Lib.hid (fun w => New_no s z w (by have := of_decide_eq_false hw; omega))
  clear hn hr hlt hw
  rcases hs with h8 | ⟨h8, h20⟩
  all_goals
    go_enter Try.func4, Try.ntmps4
    go_wp2_with fail
    refine HL.out.mono ?_
    rintro e w1 ⟨rfl, hw1⟩
    rw [HLI.out, hw1]
    clear hw1 HL
    go_wp2_with fail
    refine (HNO.out _).mono ?_
    rintro e w2 ⟨rfl, hw2⟩
    rw [hw2]
    clear hw2
    go_wp2_with fail
    refine (Right_any _ _ _).mono ?_
    rintro e w3 ⟨rfl, hw3⟩
    rw [HWR.out, hw3]
    clear hw3
    go_wp2_with fail
    refine (Sectors_nil _).mono ?_
    rintro e w4 ⟨rfl, hw4⟩
    rw [hw4]
    clear hw4
    go_wp2_with fail
    refine (Size_nil _).mono ?_
    rintro e w5 ⟨rfl, hw5⟩
    rw [hw5]
    clear hw5
    go_wp2_with fail
    refine (awake_any _).mono ?_
    rintro e w6 ⟨rfl, hb⟩
    have HB := Lib.hid hb
    clear hb
    go_wp2
    go_ret
    exact ⟨rfl, HB.out⟩

theorem Plays_any (s z : Int) (A : Option Addr) (l : List ActV) (n c : Nat) (w : World) (hn : l.length = n) (hr : Acts w w.heap.size A l) :
    Calls Try.prog 4 #[.int .i64 s, .int .i64 z, .slice A n c] w fun e w' => e = .returned (.bool true) ∧ Below w.heap.size w w' := by
  cases hl : lightB l with
  | false => exact Plays_dark s z A l n c w hn hr hl
  | true =>
    by_cases h8 : 8 < s ∧ s ≤ 1048576
    · exact Plays_many s z A l n c w h8.1 h8.2 hn hr hl
    · cases hR : rightB s z with
      | false => exact Plays_wrong s z A l n c w (by omega) hR hn hr hl
      | true =>
        have h := of_decide_eq_true hR
        obtain ⟨s', rfl⟩ := Int.eq_ofNat_of_zero_le (show 0 ≤ s by omega)
        obtain ⟨z', rfl⟩ := Int.eq_ofNat_of_zero_le (show 0 ≤ z by omega)
        exact Plays_right s' z' A l n c w (by omega) (by omega) (by omega) (by omega) hn hr hl
end Go.Proofs.Ytapllljbbldfkaa
