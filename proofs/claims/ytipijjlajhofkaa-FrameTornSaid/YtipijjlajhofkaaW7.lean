/- Walks: the program's sector. -/
import Derived.Test.YtipijjlajhofkaaW6
namespace Go.Proofs.Ytipijjlajhofkaa
open Go.RowKit

set_option maxHeartbeats 400000 in
theorem Build_ok (n m : Nat) (A : Option Addr) (l : List Nat) (c : Nat) (w : World) (hr : Rd w w.heap.size A l) (hn1 : (64 : Int) ≤ n) (hn2 : (n : Int) ≤ 4096) (hm1 : (1 : Int) ≤ m) (hm2 : (m : Int) ≤ 4611686018427387904) (hl : (l.length : Int) ≤ n - 36) :
    Calls Try.prog 12 #[.int .i64 n, .int .i64 m, .slice A l.length c] w fun e w' => ∃ v', e = .returned (.tuple #[v', .int .i64 0]) ∧ Own w' w.heap.size v' (sector n m l) ∧ Below w.heap.size w w' := by
  have hk : okSize n = true := by simp [okSize]; omega
  have hm := may_any n
  have hR := Room_any n
  have hroom : room n = n - 36 := by unfold room; rw [if_pos hk]
  rw [hk] at hm
  rw [hroom] at hR
  clear hroom
  have HR := Lib.hid hr
  clear hr
  obtain ⟨v0, w0, hrun, ho0, hb0⟩ := run_make0 w.heap.size n (Nat.le_refl _) (by omega)
  have RUN0 := Lib.hid hrun
  have HO0 := Lib.hid ho0
  have HB0 := Lib.hid hb0
  clear hrun ho0 hb0
  go_enter Try.func12, Try.ntmps12
  go_wp2_with fail
  refine (hm w).mono ?_
  rintro e w1 ⟨rfl, rfl⟩
  go_wp2_with fail
  refine (hR w).mono ?_
  rintro e w1 ⟨rfl, rfl⟩
  go_wp2_with (at_make; refine wpList_make_run rfl _ _ 22 rfl _ _ v0 w0 rfl rfl RUN0.out ?_)
  refine (both_any w0 w.heap.size v0 [] m HO0.out HB0.out.size (by simp) hm2).mono ?_
  rintro e w1 ⟨v1, rfl, ho1, hb1⟩
  rw [List.nil_append] at ho1
  obtain ⟨v2, w2, hrun, ho2, hb2⟩ := run_app 22 ho1 w.heap.size A c l (HR.out.below (HB0.out.trans hb1) (Nat.le_refl _)) (HB0.out.trans hb1).size (by simp; omega)
  have RUN2 := Lib.hid hrun
  have HO2 := Lib.hid ho2
  have HB2 := Lib.hid ((HB0.out.trans hb1).trans hb2)
  clear hrun ho1 hb1 ho2 hb2
  obtain ⟨v3, w3, hrun, ho3, hb3⟩ := run_app0 22 HO2.out (n - 36 - l.length) HB2.out.size (by simp; omega)
  have ek : ((n - 36 - l.length : Nat) : Int) = (n : Int) - 36 - l.length := by omega
  rw [ek] at hrun
  clear ek
  have RUN3 := Lib.hid hrun
  have HO3 : Hid (Own w3 w.heap.size v3 (body n m l)) := Lib.hid ho3
  have HB3 := Lib.hid (HB2.out.trans hb3)
  clear hrun ho3 hb3
  go_wp2_with (at_builtin; refine Lib.wpList_append_run _ rfl (.tmp 30) (.tmp 31) 22 22 rfl _ _ rfl rfl v2 w2 RUN2.out ?_)
  refine (hR w2).mono ?_
  rintro e w4 ⟨rfl, rfl⟩
  go_wp2_with (at_builtin; refine Lib.wpList_append_run _ rfl (.tmp 33) (.tmp 38) 22 3 rfl _ _ rfl rfl v3 w3 RUN3.out ?_)
  have hlen : (body n m l).length = n - 20 := body_length (by omega)
  have HC : Calls Try.prog 9 #[v3] w3 fun e w' => e = .returned (.int .u32 (M.crc (body n m l))) ∧ w3 = w' := by
    obtain ⟨A3, c3, e3, hr3⟩ := HO3.out.form
    rw [e3]
    exact Check_any A3 (body n m l) c3 w3 hr3 (by omega)
  have KC := Lib.hid hlen
  clear hlen
  generalize hbody : body n m l = bd at *
  have HBD := Lib.hid hbody
  clear hbody
  generalize hcr : M.crc bd = cr at *
  have HCR := Lib.hid hcr
  clear hcr
  refine HC.mono ?_
  rintro e w4 ⟨rfl, rfl⟩
  go_wp2_with fail
  refine (put_u32 w3 w.heap.size v3 bd cr HO3.out HB3.out.size (by have := KC.out; omega)).mono ?_
  rintro e w4 ⟨v4, rfl, ho4, hb4⟩
  rw [lebZ_nat] at ho4
  have HO4 := Lib.hid ho4
  have HB4 := Lib.hid (HB3.out.trans hb4)
  clear ho4 hb4
  generalize hcb : leb cr 4 = cb at *
  have HCB := Lib.hid hcb
  have hcl : cb.length = 4 := by rw [← hcb]; simp
  clear hcb
  go_wp2_with fail
  refine (both_any w4 w.heap.size v4 _ m HO4.out HB4.out.size (by have := KC.out; simp; omega) hm2).mono ?_
  rintro e w5 ⟨v5, rfl, ho5, hb5⟩
  have HO5 := Lib.hid ho5
  have HB5 := Lib.hid (HB4.out.trans hb5)
  clear ho5 hb5
  go_wp2
  go_ret2
  refine ⟨_, rfl, ?_, HB5.out⟩
  have e : sector n m l = bd ++ cb ++ head m := by unfold sector; rw [HBD.out, HCR.out, HCB.out]
  rw [e]
  exact HO5.out

set_option maxHeartbeats 400000 in
theorem Build_size (n m : Int) (A : Option Addr) (k c : Nat) (w : World) (h : okSize n = false) :
    Calls Try.prog 12 #[.int .i64 n, .int .i64 m, .slice A k c] w fun e w' => e = .returned (.tuple #[.slice none 0 0, .int .i64 3]) ∧ w = w' := by
  have hm := may_any n
  rw [h] at hm
  clear h
  go_enter Try.func12, Try.ntmps12
  go_wp2_with fail
  refine (hm w).mono ?_
  rintro e w1 ⟨rfl, rfl⟩
  go_wp2
  go_ret2
  exact ⟨rfl, rfl⟩

set_option maxHeartbeats 400000 in
theorem Build_mark (n m : Int) (A : Option Addr) (k c : Nat) (w : World) (h : okSize n = true) (h2 : m < 1 ∨ 4611686018427387904 < m) :
    Calls Try.prog 12 #[.int .i64 n, .int .i64 m, .slice A k c] w fun e w' => e = .returned (.tuple #[.slice none 0 0, .int .i64 2]) ∧ w = w' := by
  have hm := may_any n
  rw [h] at hm
  clear h
  rcases h2 with h2 | h2
  · go_enter Try.func12, Try.ntmps12
    go_wp2_with fail
    refine (hm w).mono ?_
    rintro e w1 ⟨rfl, rfl⟩
    go_wp2
    go_ret2
    exact ⟨rfl, rfl⟩
  · have h3 : ¬ m < 1 := by omega
    go_enter Try.func12, Try.ntmps12
    go_wp2_with fail
    refine (hm w).mono ?_
    rintro e w1 ⟨rfl, rfl⟩
    go_wp2
    go_ret2
    exact ⟨rfl, rfl⟩

set_option maxHeartbeats 400000 in
theorem Build_long (n m : Int) (A : Option Addr) (k c : Nat) (w : World) (h : okSize n = true) (hm1 : 1 ≤ m) (hm2 : m ≤ 4611686018427387904) (hl : n - 36 < (k : Int)) :
    Calls Try.prog 12 #[.int .i64 n, .int .i64 m, .slice A k c] w fun e w' => e = .returned (.tuple #[.slice none 0 0, .int .i64 9]) ∧ w = w' := by
  have hm := may_any n
  have hR := Room_any n
  have hroom : room n = n - 36 := by unfold room; rw [if_pos h]
  rw [h] at hm
  rw [hroom] at hR
  clear hroom
  clear h
  go_enter Try.func12, Try.ntmps12
  go_wp2_with fail
  refine (hm w).mono ?_
  rintro e w1 ⟨rfl, rfl⟩
  go_wp2_with fail
  refine (hR w).mono ?_
  rintro e w1 ⟨rfl, rfl⟩
  go_wp2
  go_ret2
  exact ⟨rfl, rfl⟩

end Go.Proofs.Ytipijjlajhofkaa
