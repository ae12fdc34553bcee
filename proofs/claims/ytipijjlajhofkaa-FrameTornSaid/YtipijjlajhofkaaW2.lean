/- Walks: the reference's check; its 'apart'. -/
import Derived.Test.YtipijjlajhofkaaW1
namespace Go.Proofs.Ytipijjlajhofkaa
open Go.RowKit

set_option maxHeartbeats 2000000 in
theorem apart_any (a b : Nat) (ha : a < 4294967296) (hb : b < 4294967296) (w : World) :
    Calls Try.prog 18 #[.int .i64 a, .int .i64 b] w fun e w' => e = .returned (.int .i64 ((a ^^^ b : Nat) : Int)) ∧ w = w' := by
  go_enter Try.func18, Try.ntmps18
  go_wp2
  go_loop [0, 1, 5, 6] (fun x y o t => ∃ X Y O T : Nat, x = .int .i64 X ∧ y = .int .i64 Y ∧ o = .int .i64 O ∧ t = .int .i64 T ∧ Hid (M.Apart a b O T X Y)) (fun x y _ _ => (intOf x).toNat + (intOf y).toNat)
  case atStart => exact ⟨a, b, 0, 1, rfl, rfl, rfl, rfl, Lib.hid (M.Apart.start a b)⟩
  case round =>
    obtain ⟨X, Y, O, T, rfl, rfl, rfl, rfl, H⟩ := hrel
    by_cases hp : 0 < X ∨ 0 < Y
    · have hT := H.out.small ha hb hp
      have hO := H.out.2.2.2
      have h1 := H.out.step
      have hX : X % 2 < 2 := Nat.mod_lt _ (by omega)
      have hY : Y % 2 < 2 := Nat.mod_lt _ (by omega)
      have hXl : X < 4294967296 := Nat.lt_of_le_of_lt (Nat.le_trans (Nat.le_mul_of_pos_left X (by omega : 0 < T)) H.out.2.1) ha
      have hYl : Y < 4294967296 := Nat.lt_of_le_of_lt (Nat.le_trans (Nat.le_mul_of_pos_left Y (by omega : 0 < T)) H.out.2.2.1) hb
      have H1 := Lib.hid h1
      clear h1
      have HX := Lib.hid (Nat.mod_two_eq_zero_or_one X)
      have HY := Lib.hid (Nat.mod_two_eq_zero_or_one Y)
      go_wp2
      all_goals
        rename_i hne
        simp only [bne_iff_ne, bne_eq_false_iff_eq, ne_eq] at hne
        refine ⟨⟨X / 2, Y / 2, O + T * ((X % 2 + Y % 2) % 2), T * 2, val_int (by omega), val_int (by omega), val_int ?_, val_int (by omega), H1⟩, by simp only [intOf]; omega⟩
        rcases HX.out with e | e <;> rcases HY.out with f | f <;> rw [e, f] <;> omega
    · obtain ⟨rfl, rfl⟩ : X = 0 ∧ Y = 0 := by omega
      go_wp2
      go_ret
      exact ⟨ret_int (by rw [H.out.stop]), rfl⟩

set_option maxHeartbeats 4000000 in
theorem refCheck_any (A : Option Addr) (l : List Nat) (c : Nat) (w : World) (hr : Rd w w.heap.size A l) (hl : (l.length : Int) ≤ 1099511627776) :
    Calls Try.prog 10 #[.slice A l.length c] w fun e w' => e = .returned (.int .i64 (M.crc l)) ∧ w = w' := by
  have hB : ∀ b ∈ l, b < 256 := hr.1
  have HR := Lib.hid hr
  clear hr
  go_enter Try.func10, Try.ntmps10
  go_wp2
  go_loop [3, 4] (fun s i => ∃ k : Nat, k ≤ l.length ∧ i = .int .i64 k ∧ s = .int .i64 (M.roll 4294967295 (l.take k) : Nat)) (fun _ i => l.length - (intOf i).toNat)
  case atStart => exact ⟨0, Nat.zero_le _, rfl, rfl⟩
  case round =>
    obtain ⟨k, hk, rfl, rfl⟩ := hrel
    by_cases hlt : k < l.length
    · obtain ⟨p, rfl, _, hc, hb⟩ := HR.out.get hlt
      have hs : M.roll 4294967295 (l.take k) < 4294967296 := M.roll_lt _ (by omega) fun b hb => hB b (List.mem_of_mem_take hb)
      have hx := M.roll_take 4294967295 l k hlt
      generalize hS : M.roll 4294967295 (l.take k) = S at *
      generalize hE : l[k] = E at *
      have HX := Lib.hid hx
      have HS := Lib.hid hS
      have HE := Lib.hid hE
      clear hx hS hE
      go_wp2_with fail
      refine (apart_any S E hs (by omega) w).mono ?_
      rintro e w1 ⟨rfl, rfl⟩
      have hS0 : S ^^^ E < 4294967296 := M.xor_lt32 (by omega) (by omega)
      go_wp2
      go_loop [3, 5] (fun s i => ∃ j : Nat, j ≤ 8 ∧ i = .int .i64 j ∧ s = .int .i64 (M.bits j (S ^^^ E) : Nat)) (fun _ i => 8 - (intOf i).toNat)
      case atStart => exact ⟨0, by omega, rfl, rfl⟩
      case round =>
        obtain ⟨j, hj, rfl, rfl⟩ := hrel
        have hq := M.bits_lt hS0 j
        by_cases hj8 : j < 8
        · generalize hG : M.bits j (S ^^^ E) = G at *
          have HG := Lib.hid hG
          clear hG
          have HW := Lib.hid (M.bit_ref G)
          have HM := Lib.hid (Nat.mod_two_eq_zero_or_one G)
          go_wp2_with fail
          · have hodd : (G : Int) % 2 = 1 := by
              clear HM
              simp only [beq_iff_eq] at *
              assumption
            have ha := apart_any (G / 2) 3988292384 (by omega) (by omega) w
            rw [show ((G / 2 : Nat) : Int) = (G : Int) / 2 by omega] at ha
            refine ha.mono ?_
            rintro e w1 ⟨rfl, rfl⟩
            go_wp2
            go_round
            case rel => exact ⟨j + 1, by omega, by simp, val_int (by
              show _ = ((M.bit (M.bits j (S ^^^ E)) : Nat) : Int)
              rw [HG.out, HW.out, if_pos (by omega)]; rfl)⟩
            case measure => simp [intOf]; omega
          · rename_i hodd
            simp only [beq_eq_false_iff_ne, ne_eq] at hodd
            refine ⟨⟨j + 1, by omega, by simp, val_int ?_⟩, by simp [intOf]; omega⟩
            show _ = ((M.bit (M.bits j (S ^^^ E)) : Nat) : Int)
            rw [HG.out, HW.out, if_neg (by omega)]; omega
        · obtain rfl : j = 8 := by omega
          generalize hG : M.bits 8 (S ^^^ E) = G at *
          have HG := Lib.hid hG
          clear hG
          go_wp2
          go_round
          case rel => exact ⟨k + 1, by omega, by simp, val_int (by rw [HX.out, ← HG.out]; rfl)⟩
          case measure => simp [intOf]; omega
    · obtain rfl : k = l.length := by omega
      go_wp2
      go_ret
      refine ⟨ret_int ?_, rfl⟩
      have hs : M.roll 4294967295 l < 4294967296 := M.roll_lt _ (by omega) hB
      unfold M.crc wrap64
      omega

end Go.Proofs.Ytipijjlajhofkaa
