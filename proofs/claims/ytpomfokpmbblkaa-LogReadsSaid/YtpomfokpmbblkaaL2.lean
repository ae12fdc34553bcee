/- Walks: the log's numbers of 8 bytes; a log in memory: Start, Left, Dead. -/
import Derived.Test.YtpomfokpmbblkaaL1
namespace Go.Proofs.Ytpomfokpmbblkaa
open Go.RowKit Go.Maps
set_option maxRecDepth 8000
variable {ι : Type} [Bar ι]

theorem or_join64 (X b k : Nat) (hk : k < 8) (hX : X < 2 ^ (8 * k)) (hb : b < 256) :
    bits .or .u64 (X : Int) ((b * 2 ^ (8 * k) : Nat) : Int) = ((X + b * 2 ^ (8 * k) : Nat) : Int) := by
  have hs : b * 2 ^ (8 * k) + X < 18446744073709551616 := by
    have h1 : (b + 1) * 2 ^ (8 * k) ≤ 256 * 2 ^ (8 * k) := Nat.mul_le_mul_right _ (by omega)
    have h2 : 256 * 2 ^ (8 * k) ≤ 2 ^ 64 := by
      rw [show (256 : Nat) = 2 ^ 8 from rfl, ← Nat.pow_add]
      exact Nat.pow_le_pow_right (by omega) (by omega)
    rw [Nat.add_mul, Nat.one_mul] at h1
    omega
  rw [u64_or_nat _ _ (by omega) (by omega), Nat.or_comm, Nat.mul_comm b, ← Nat.two_pow_add_eq_or_of_lt hX, Nat.add_comm]

theorem small64 (b k : Nat) (hk : k < 8) (hb : b < 256) : (b : Int) * 2 ^ (8 * k) % 18446744073709551616 = ((b * 2 ^ (8 * k) : Nat) : Int) := by
  have hs : b * 2 ^ (8 * k) < 18446744073709551616 := by
    have h1 : (b + 1) * 2 ^ (8 * k) ≤ 256 * 2 ^ (8 * k) := Nat.mul_le_mul_right _ (by omega)
    have h2 : 256 * 2 ^ (8 * k) ≤ 2 ^ 64 := by
      rw [show (256 : Nat) = 2 ^ 8 from rfl, ← Nat.pow_add]
      exact Nat.pow_le_pow_right (by omega) (by omega)
    have h3 : 0 < 2 ^ (8 * k) := Nat.pow_pos (by omega)
    rw [Nat.add_mul, Nat.one_mul] at h1
    omega
  have e : (b : Int) * 2 ^ (8 * k) = ((b * 2 ^ (8 * k) : Nat) : Int) := by rw [Int.natCast_mul, Int.natCast_pow]; rfl
  rw [e]
  omega


set_option maxHeartbeats 1000000 in
theorem number64_any (p : Addr) (l : List Nat) (n c : Nat) (w : World) (hn : l.length = n) (hr : Rd w w.heap.size (some p) l) (hl : (8 : Int) ≤ n) :
    Calls Try.prog 60 #[.slice (some p) n c] w fun e w' => e = .returned (.int .u64 (num (l.take 8))) ∧ w = w' := by
  have HR := Lib.hid hr
  clear hr
  go_enter Try.func60, Try.ntmps60
  go_wp2
  go_loop [3, 5] (fun x i => ∃ k : Nat, k ≤ 8 ∧ i = .int .i64 k ∧ x = .int .u64 (num (l.take k))) (fun _ i => 8 - (intOf i).toNat)
  case atStart => exact ⟨0, by omega, rfl, val_int (by rw [List.take_zero]; rfl)⟩
  case round =>
    obtain ⟨k, hk, rfl, rfl⟩ := hrel
    by_cases hlt : k < 8
    · obtain ⟨q, e, _, hc, hb⟩ := HR.out.get (show k < l.length by omega)
      cases e
      have hj := or_join64 (num (l.take k)) l[k] k hlt (num_take_lt l k (by omega) HR.out.1) hb
      rw [← num_take l k (by omega)] at hj
      rw [← small64 l[k] k hlt hb] at hj
      have HJ := Lib.hid hj
      clear hj
      generalize l[k] = b at *
      generalize ((num (l.take k) : Nat) : Int) = x at *
      go_wp2
      go_round
      case rel => exact ⟨k + 1, by omega, by simp, val_int HJ.out⟩
      case measure => simp [intOf]; omega
    · obtain rfl : k = 8 := by omega
      go_wp2
      go_ret
      exact ⟨rfl, rfl⟩

set_option maxHeartbeats 2000000 in
theorem add64_any (w : World) (base : Nat) (v : Value) (l : List Nat) (n : Int) (h : Own w base v l) (hbase : base ≤ w.heap.size) (hn : l.length ≤ 900000) :
    Calls Try.prog 64 #[v, .int .u64 n] w fun e w' => ∃ v', e = .returned v' ∧ Own w' base v' (l ++ lebZ n 8) ∧ Below base w w' := by
  have H := Lib.hid h
  clear h
  go_enter Try.func64, Try.ntmps64
  go_wp2
  go_loopw [0, 6] (fun x i wr => ∃ k : Nat, k ≤ 8 ∧ i = .int .i64 k ∧ Hid (Own wr base x (l ++ lebZ n k)) ∧ Hid (Below base w wr)) (fun _ i _ => 8 - (intOf i).toNat)
  case atStart => exact ⟨0, by omega, rfl, Lib.hid (by simpa [lebZ] using H.out), Lib.hid (Below.refl _ _)⟩
  case round =>
    obtain ⟨k, hk, rfl, HO, HB⟩ := hrel
    by_cases hlt : k < 8
    · have hq0 : 0 ≤ n / 2 ^ (8 * k) % 256 := Int.emod_nonneg _ (by omega)
      have hq1 : n / 2 ^ (8 * k) % 256 < 256 := Int.emod_lt_of_pos _ (by omega)
      obtain ⟨v', w', hrun, ho, hb⟩ := run_push 42 HO.out (n / 2 ^ (8 * k) % 256) hq0 hq1 (Nat.le_trans hbase HB.out.size) (by simp; omega)
      have HRUN := Lib.hid hrun
      have HO' := Lib.hid ho
      have HB' := Lib.hid (HB.out.trans hb)
      clear hrun ho hb
      go_wp2_with (at_builtin; refine Lib.wpList_append_run _ rfl (.tmp 9) (.tmp 15) 42 42 rfl _ _ rfl rfl v' w' HRUN.out ?_)
      go_round
      case rel => exact ⟨k + 1, by omega, by simp, Lib.hid (by rw [lebZ_succ, ← List.append_assoc]; exact HO'.out), HB'⟩
      case measure => simp [intOf]; omega
    · obtain rfl : k = 8 := by omega
      go_wp2
      go_ret
      exact ⟨_, rfl, HO.out, HB.out⟩

/-! ### a log -/
structure Lg where
  first : Nat
  count : Nat
  epoch : Nat
  next : Nat
  dead : Bool
structure Lg.Ok (L : Lg) : Prop where
  f : L.first ≤ 1048576
  c : L.count ≤ 1048576
  e : 1 ≤ L.epoch ∧ L.epoch ≤ 1099511627776
  n : L.next ≤ L.count
/-- The log in block G, on the disk in block b. -/
def LogIn (w : World) (G b : Nat) (L : Lg) : Prop := Blk w G #[.pointer (some ⟨b, 0, none⟩), .int .i64 L.first, .int .i64 L.count, .int .i64 L.epoch, .int .i64 L.next, .bool L.dead] 86
theorem LogIn.six {w : World} {G b : Nat} {L : Lg} (h : LogIn w G b L) : w.cell? ⟨G, 0, none⟩ = some (.pointer (some ⟨b, 0, none⟩)) ∧ w.cell? ⟨G, 1, none⟩ = some (.int .i64 L.first) ∧ w.cell? ⟨G, 2, none⟩ = some (.int .i64 L.count) ∧
    w.cell? ⟨G, 3, none⟩ = some (.int .i64 L.epoch) ∧ w.cell? ⟨G, 4, none⟩ = some (.int .i64 L.next) ∧ w.cell? ⟨G, 5, none⟩ = some (.bool L.dead) :=
  ⟨h.cell 0, h.cell 1, h.cell 2, h.cell 3, h.cell 4, h.cell 5⟩

theorem Start_no (P : Option Addr) (f c e : Int) (w : World) (hat : ∀ w, Calls Try.prog 34 #[.pointer P, .int .i64 f, .int .i64 c] w fun r w' => r = .returned (.tuple #[.agg #[.pointer none, .int .i64 0, .int .i64 0], .int .i64 1]) ∧ Below w.heap.size w w') :
    Calls Try.prog 11 #[.pointer P, .int .i64 f, .int .i64 c, .int .i64 e] w fun r w' => r = .returned (.tuple #[.pointer none, .int .i64 1]) ∧ Below w.heap.size w w' := by
  have HA := Lib.hid (hat w)
  clear hat
  go_enter Try.func11, Try.ntmps11
  go_wp2_with fail
  refine HA.out.mono ?_
  rintro r w1 ⟨rfl, hb⟩
  have HB := Lib.hid (grow_alloc hb (.cells #[.pointer none, .int .i64 0, .int .i64 0] 81))
  clear hb HA
  go_wp2
  go_ret2
  exact ⟨rfl, HB.out⟩
section
variable {b m : Nat} {vl : Value} {D : Dsk} {w : World}
theorem Start_ep (h : DiskAt w b m vl D) (f c e : Int) (hk : okAt D f c = true) (he : okEp e = false) :
    Calls Try.prog 11 #[.pointer (some ⟨b, 0, none⟩), .int .i64 f, .int .i64 c, .int .i64 e] w fun r w' => r = .returned (.tuple #[.pointer none, .int .i64 1]) ∧ Below w.heap.size w w' := by
  have HA := Lib.hid (at_ok h f c hk)
  have HM := Lib.hid (fun w => lmay_any e w)
  rw [he] at HM
  clear h hk he
  go_enter Try.func11, Try.ntmps11
  go_wp2_with fail
  refine HA.out.mono ?_
  rintro r w1 ⟨rfl, hb⟩
  have HB := Lib.hid (grow_alloc hb (.cells #[.pointer (some ⟨b, 0, none⟩), .int .i64 f, .int .i64 c] 81))
  clear hb HA
  go_wp2_with fail
  refine (HM.out _).mono ?_
  rintro r w2 ⟨rfl, rfl⟩
  go_wp2
  go_ret2
  exact ⟨rfl, HB.out⟩
theorem Start_ok (h : DiskAt w b m vl D) (f c e : Nat) (hk : okAt D f c = true) (he : okEp e = true) :
    Calls Try.prog 11 #[.pointer (some ⟨b, 0, none⟩), .int .i64 f, .int .i64 c, .int .i64 e] w fun r w' => ∃ G, r = .returned (.tuple #[.pointer (some ⟨G, 0, none⟩), .int .i64 0]) ∧ LogIn w' G b ⟨f, c, e, 0, false⟩ ∧ w.heap.size ≤ G ∧ Below w.heap.size w w' := by
  have HA := Lib.hid (at_ok h f c hk)
  have HM := Lib.hid (fun w => lmay_any e w)
  rw [he] at HM
  clear h hk he
  go_enter Try.func11, Try.ntmps11
  go_wp2_with fail
  refine HA.out.mono ?_
  rintro r w1 ⟨rfl, hb⟩
  have HB := Lib.hid (grow_alloc hb (.cells #[.pointer (some ⟨b, 0, none⟩), .int .i64 f, .int .i64 c] 81))
  clear hb HA
  go_wp2_with fail
  refine (HM.out _).mono ?_
  rintro r w2 ⟨rfl, rfl⟩
  go_wp2
  go_ret2
  exact ⟨_, rfl, Blk.new' _ _ _ (by simp), by have := HB.out.size; simp at this; omega, grow_alloc HB.out _⟩
theorem Left_nil (w : World) : Calls Try.prog 20 #[.pointer none] w fun r w' => r = .returned (.int .i64 0) ∧ w' = w := by
  go_enter Try.func20, Try.ntmps20
  go_wp2
  go_ret
  exact ⟨rfl, rfl⟩
theorem Dead_nil (w : World) : Calls Try.prog 21 #[.pointer none] w fun r w' => r = .returned (.bool false) ∧ w' = w := by
  go_enter Try.func21, Try.ntmps21
  go_wp2
  go_ret
  exact ⟨rfl, rfl⟩
theorem Dead_any {G : Nat} {L : Lg} (h : LogIn w G b L) : Calls Try.prog 21 #[.pointer (some ⟨G, 0, none⟩)] w fun r w' => r = .returned (.bool L.dead) ∧ w' = w := by
  have hc := h.six.2.2.2.2.2
  clear h
  go_enter Try.func21, Try.ntmps21
  go_wp2
  go_ret
  exact ⟨rfl, rfl⟩
end
end Go.Proofs.Ytpomfokpmbblkaa
