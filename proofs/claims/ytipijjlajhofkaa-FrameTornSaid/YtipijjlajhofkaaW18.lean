/- Walks: FrameBack. -/
import Derived.Test.YtipijjlajhofkaaW17
import Derived.BigQuiet
namespace Go.Proofs.Ytipijjlajhofkaa
open Go.RowKit

theorem sector_zeros (n m : Nat) (l : List Nat) (hl : l.length + 36 ≤ n) : sector n m (l ++ List.replicate (n - 36 - l.length) 0) = sector n m l := by
  have e : body n m (l ++ List.replicate (n - 36 - l.length) 0) = body n m l := by
    unfold body
    have e0 : n - 36 - (l ++ List.replicate (n - 36 - l.length) 0).length = 0 := by rw [List.length_append, List.length_replicate]; omega
    rw [e0]
    simp
  unfold sector
  rw [e]

/-- What is read of a sector. -/
theorem sector_reads (n m : Nat) (l : List Nat) (h1 : 64 ≤ n) (hm1 : 1 ≤ m) (hm2 : m ≤ 4611686018427387904) (hl : l.length + 36 ≤ n) (hb : ∀ b ∈ l, b < 256) :
    readOk (sector n m l) = true ∧ readMark (sector n m l) = m ∧ readLoad (sector n m l) = l ++ List.replicate (n - 36 - l.length) 0 ∧ readErr (sector n m l) = 0 := by
  have hlen : (sector n m l).length = n := sector_length hl
  have hbl := body_length (n := n) (m := m) (l := l) hl
  have hq := readOk_eq (sector n m l) (sector_lt hb) (by omega)
  have e8 : (sector n m l).take 8 = leb m 8 := by
    unfold sector body head
    simp only [List.append_assoc]
    exact List.take_left' (by simp)
  have e8' : num ((sector n m l).take 8) = m := by rw [e8]; exact num_leb 8 m (by omega)
  have eb : (sector n m l).take (n - 20) = body n m l := by
    unfold sector
    rw [List.append_assoc]
    exact List.take_left' hbl
  have el : ((sector n m l).take (n - 20)).drop 16 = l ++ List.replicate (n - 36 - l.length) 0 := by
    rw [eb]
    unfold body
    rw [List.append_assoc]
    exact List.drop_left' (by simp)
  have hok : refOk (sector n m l) = true := by
    unfold refOk
    rw [hlen, e8', el, sector_zeros n m l hl]
    exact decide_eq_true ⟨hm1, hm2, rfl⟩
  have hok' : readOk (sector n m l) = true := hq.1.trans hok
  refine ⟨hok', by rw [hq.2 hok', e8'], ?_, by unfold readErr; rw [hok']; rfl⟩
  unfold readLoad
  rw [hok', if_pos rfl, hlen, show n - 16 - 4 = n - 20 by omega, el]

theorem Back_bad (n m E : Int) (A : Option Addr) (k : Nat) (c : Nat) (w : World) (hk : (k : Int) ≤ 5000) (hE : E ≠ 0)
    (hB : Calls Try.prog 12 #[.int .i64 n, .int .i64 m, .slice A k c] w fun e w' => e = .returned (.tuple #[.slice none 0 0, .int .i64 E]) ∧ w = w') :
    Calls Try.prog 7 #[.int .i64 n, .int .i64 m, .slice A k c] w fun e w' => e = .returned (.bool true) ∧ Below w.heap.size w w' := by
  have hE' : (E != 0) = true := by simpa using hE
  clear hE
  go_enter Try.func7, Try.ntmps7
  go_wp2_with fail
  refine hB.mono ?_
  rintro e w2 ⟨rfl, rfl⟩
  go_wp2_with fail
  refine (awake_any w).mono ?_
  rintro e w4 ⟨rfl, hb4⟩
  go_wp2
  go_ret
  exact ⟨rfl, hb4⟩

theorem Back_long (n m : Int) (A : Option Addr) (k : Nat) (c : Nat) (w : World) (hl : (5000 : Int) < k) :
    Calls Try.prog 7 #[.int .i64 n, .int .i64 m, .slice A k c] w fun e w' => e = .returned (.bool true) ∧ Below w.heap.size w w' := by
  go_enter Try.func7, Try.ntmps7
  go_wp2
  go_ret
  exact ⟨rfl, Below.refl _ _⟩

set_option maxHeartbeats 2000000 in
theorem Back_ok (n m : Nat) (A : Option Addr) (l : List Nat) (c : Nat) (w : World) (hr : Rd w w.heap.size A l) (h1 : (64 : Int) ≤ n) (h2 : (n : Int) ≤ 4096) (hm1 : (1 : Int) ≤ m) (hm2 : (m : Int) ≤ 4611686018427387904) (hl : (l.length : Int) ≤ n - 36) :
    Calls Try.prog 7 #[.int .i64 n, .int .i64 m, .slice A l.length c] w fun e w' => e = .returned (.bool true) ∧ Below w.heap.size w w' := by
  have hB := Build_ok n m A l c w hr h1 h2 hm1 hm2 hl
  have hs := sector_length (n := n) (m := m) (l := l) (by omega)
  have hrd := sector_reads n m l (by omega) (by omega) (by omega) (by omega) hr.1
  have HRoom : room n = (n : Int) - 36 := by unfold room okSize; rw [if_pos (by simp; omega)]
  generalize sector n m l = s at *
  have HR := Lib.hid hr
  have HRD := Lib.hid hrd
  have HS := Lib.hid hs
  clear hr hrd hs
  go_enter Try.func7, Try.ntmps7
  go_wp2_with fail
  refine hB.mono ?_
  clear hB
  rintro e w2 ⟨v2, rfl, ho2, hb2⟩
  obtain ⟨p2, c2, rfl, _, _⟩ := ho2.at_ n HS.out (by omega)
  have hcap := ho2.cap
  obtain ⟨A2, c2', e2, r2⟩ := ho2.form
  injection e2 with e3 e4 e5
  subst e3 e5
  rw [HS.out] at hcap
  have hRead := Read_any p2 s c2 w2 r2 (by rw [HS.out]; exact h1) (by rw [HS.out]; exact h2) (by rw [HS.out]; omega)
  rw [HRD.out.2.1, HRD.out.2.2.1, HRD.out.2.2.2, HS.out] at hRead
  have HB2 := Lib.hid hb2
  clear hb2 ho2 e4 r2
  go_wp2_with fail
  refine hRead.mono ?_
  clear hRead
  rintro e w3 ⟨v3, rfl, ho3, hb3⟩
  have HB3 := Lib.hid (grow HB2.out hb3)
  have hlen : (l ++ List.replicate (n - 36 - l.length) 0).length = n - 36 := by rw [List.length_append, List.length_replicate]; omega
  obtain ⟨p3, c3, rfl, _, _⟩ := ho3.at_ (n - 36) hlen (by omega)
  have hcap3 := ho3.cap
  obtain ⟨A3, c3', e2, r3⟩ := ho3.form
  injection e2 with e3 e4 e5
  subst e3 e5
  rw [hlen] at hcap3
  have ht := r3.take_ l.length
  rw [List.take_left' rfl] at ht
  have k1 : ∀ k, (convert 22 9 (.slice (some p3) l.length c3)).run Try.prog (w3.drewN k) = .ok (.string (str l)) (w3.drewN k) := fun k => run_str c3 (ht.drewN k)
  have k2 : ∀ k, (convert 22 9 (.slice A l.length c)).run Try.prog (w3.drewN k) = .ok (.string (str l)) (w3.drewN k) := fun k => run_str c ((HR.out.below HB3.out HB3.out.size).drewN k)
  have k3 : ∀ k, Calls Try.prog 14 #[.int .i64 n] (w3.drewN k) fun e w' => e = .returned (.int .i64 ((n - 36 : Nat) : Int)) ∧ w3.drewN k = w' := fun k => by
    have := Room_any n (w3.drewN k)
    rwa [HRoom, show (n : Int) - 36 = ((n - 36 : Nat) : Int) by omega] at this
  have hz : ∀ j, l.length ≤ j → (h : j < n - 36) → (w3.cell? (p3.add j)) = some (.int .u8 0) := fun j hj h => by
    obtain ⟨q, e, _, hcell, hb⟩ := r3.get (show j < (l ++ List.replicate (n - 36 - l.length) 0).length by omega)
    cases e
    rw [hcell, List.getElem_append_right hj]
    simp
  have HZ := Lib.hid hz
  clear hz ht r3 ho3 hb3 e4 hlen HRD HR HRoom
  generalize str l = S at *
  generalize l.length = L at *
  have hd : decide (n - 36 < L) = false := decide_eq_false (by omega)
  go_wp2_with fail
  go_quiet (first | (go_at_call 14; refine Calls.quiet_of_same ((k3 _).mono fun _ _ h => ⟨h.1, h.2.symm⟩)))
  go_wp2
  go_loop [12] (fun i => ∃ k : Nat, i = .int .i64 k ∧ L ≤ k ∧ (k : Int) ≤ n - 36) (fun i => (n - 36 - intOf i).toNat)
  case atStart => exact ⟨L, rfl, Nat.le_refl _, hl⟩
  case round =>
    obtain ⟨k, rfl, hk1, hk2⟩ := hrel
    by_cases hlt : (k : Int) < n - 36
    · have hc0 := HZ.out k hk1 (by omega)
      go_wp2
      go_round
      case rel => exact ⟨k + 1, val_int (by omega), by omega, by omega⟩
      case measure => simp [intOf]; omega
    · go_wp2_with fail
      refine (awake_any _).mono ?_
      rintro e w4 ⟨rfl, hb4⟩
      go_wp2
      go_ret
      exact ⟨rfl, grow HB3.out ((below_drewN _ _).trans hb4)⟩

theorem Back_any (n m : Int) (A : Option Addr) (l : List Nat) (c : Nat) (w : World) (hr : Rd w w.heap.size A l) :
    Calls Try.prog 7 #[.int .i64 n, .int .i64 m, .slice A l.length c] w fun e w' => e = .returned (.bool true) ∧ Below w.heap.size w w' := by
  by_cases h : (l.length : Int) ≤ 5000
  · cases hk : okSize n with
    | false => exact Back_bad n m 3 A l.length c w h (by decide) (Build_size n m A l.length c w hk)
    | true =>
      by_cases hm : m < 1 ∨ 4611686018427387904 < m
      · exact Back_bad n m 2 A l.length c w h (by decide) (Build_mark n m A l.length c w hk hm)
      · by_cases hl : n - 36 < (l.length : Int)
        · exact Back_bad n m 9 A l.length c w h (by decide) (Build_long n m A l.length c w hk (by omega) (by omega) hl)
        · have hn : 64 ≤ n ∧ n ≤ 4096 := by simpa [okSize] using hk
          obtain ⟨N, rfl⟩ := Int.eq_ofNat_of_zero_le (show 0 ≤ n by omega)
          obtain ⟨M', rfl⟩ := Int.eq_ofNat_of_zero_le (show 0 ≤ m by omega)
          exact Back_ok N M' A l c w hr hn.1 hn.2 (by omega) (by omega) (by omega)
  · exact Back_long n m A l.length c w (by omega)

end Go.Proofs.Ytipijjlajhofkaa
