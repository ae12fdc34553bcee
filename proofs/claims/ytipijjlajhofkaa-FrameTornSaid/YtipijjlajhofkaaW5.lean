/- Walks: a number in so many bytes: the program's 'put', the reference's 'Bytes'. -/
import Derived.Test.YtipijjlajhofkaaW4
namespace Go.Proofs.Ytipijjlajhofkaa
open Go.RowKit

/-- So many bytes of a number, the lowest first. -/
def lebZ (n : Int) (k : Nat) : List Nat := (List.range k).map fun i => ((n / 2 ^ (8 * i)) % 256).toNat
theorem lebZ_lt (n : Int) (k : Nat) : ∀ b ∈ lebZ n k, b < 256 := by
  intro b hb
  obtain ⟨i, _, rfl⟩ := List.mem_map.1 hb
  have : (n / 2 ^ (8 * i)) % 256 < 256 := Int.emod_lt_of_pos _ (by omega)
  omega
theorem lebZ_succ (n : Int) (k : Nat) : lebZ n (k + 1) = lebZ n k ++ [((n / 2 ^ (8 * k)) % 256).toNat] := by
  simp [lebZ, List.range_succ]
@[simp] theorem lebZ_length (n : Int) (k : Nat) : (lebZ n k).length = k := by simp [lebZ]

/-- A literal of one byte, and what 'append' makes of it. -/
theorem run_push {w : World} {base : Nat} {v : Value} {l : List Nat} (ty : TypeId) (h : Own w base v l) (x : Int) (h0 : 0 ≤ x) (h1 : x < 256) (hbase : base ≤ w.heap.size) (hn : l.length ≤ 950000) :
    ∃ v' w', (Builtin.append_ #[22, 22] ty #[v, .slice (some ⟨w.heap.size, 0, none⟩) 1 1]).run Try.prog (w.alloc (.cells #[.int .u8 x] 5)) = .ok v' w' ∧ Own w' base v' (l ++ [x.toNat]) ∧ Below base w w' := by
  have hx : x = ((x.toNat : Nat) : Int) := by omega
  have hr : Rd (w.alloc (.cells #[.int .u8 x] 5)) (w.heap.size + 1) (some ⟨w.heap.size, 0, none⟩) [x.toNat] := by
    refine ⟨by simp; omega, fun _ => ⟨_, rfl, by simp, fun k hk => ?_⟩⟩
    have : k = 0 := by simpa using hk
    subst this
    show (w.alloc _).cell? ⟨w.heap.size, 0, none⟩ = some (.int .u8 ((x.toNat : Nat) : Int))
    rw [← hx]
    exact (Blk.new w _ _).cell 0
  have hs : base ≤ (w.alloc (.cells #[.int .u8 x] 5)).heap.size := by simp; omega
  obtain ⟨v', w', hrun, ho, hb⟩ := run_app ty (h.alloc (.cells #[.int .u8 x] 5)) _ _ 1 [x.toNat] hr hs (by simp; omega)
  exact ⟨v', w', hrun, ho, ((Below.refl base w).alloc hbase _).trans hb⟩

set_option maxHeartbeats 2000000 in
theorem put_int (w : World) (base : Nat) (v : Value) (l : List Nat) (n : Int) (h : Own w base v l) (hbase : base ≤ w.heap.size) (hn : l.length ≤ 900000) :
    Calls Try.prog 26 #[v, .int .i64 n, .int .i64 8] w fun e w' => ∃ v', e = .returned v' ∧ Own w' base v' (l ++ lebZ n 8) ∧ Below base w w' := by
  have H := Lib.hid h
  clear h
  go_enter Try.func26, Try.ntmps26
  go_wp2
  go_loopw [0, 9] (fun x i wr => ∃ k : Nat, k ≤ 8 ∧ i = .int .i64 k ∧ Hid (Own wr base x (l ++ lebZ n k)) ∧ Hid (Below base w wr)) (fun _ i _ => 8 - (intOf i).toNat)
  case atStart => exact ⟨0, by omega, rfl, Lib.hid (by simpa [lebZ] using H.out), Lib.hid (Below.refl _ _)⟩
  case round =>
    obtain ⟨k, hk, rfl, HO, HB⟩ := hrel
    by_cases hlt : k < 8
    · have hq0 : 0 ≤ n / 2 ^ (8 * k) % 256 := Int.emod_nonneg _ (by omega)
      have hq1 : n / 2 ^ (8 * k) % 256 < 256 := Int.emod_lt_of_pos _ (by omega)
      obtain ⟨v', w', hrun, ho, hb⟩ := run_push 22 HO.out (n / 2 ^ (8 * k) % 256) hq0 hq1 (Nat.le_trans hbase HB.out.size) (by simp; omega)
      have HRUN := Lib.hid hrun
      have HO' := Lib.hid ho
      have HB' := Lib.hid (HB.out.trans hb)
      clear hrun ho hb
      go_wp2_with (at_builtin; refine Lib.wpList_append_run _ rfl (.tmp 12) (.tmp 18) 22 22 rfl _ _ rfl rfl v' w' HRUN.out ?_)
      go_round
      case rel => exact ⟨k + 1, by omega, by simp, Lib.hid (by rw [lebZ_succ, ← List.append_assoc]; exact HO'.out), HB'⟩
      case measure => simp [intOf]; omega
    · obtain rfl : k = 8 := by omega
      go_wp2
      go_ret
      exact ⟨_, rfl, HO.out, HB.out⟩

set_option maxHeartbeats 2000000 in
theorem put_u32 (w : World) (base : Nat) (v : Value) (l : List Nat) (n : Int) (h : Own w base v l) (hbase : base ≤ w.heap.size) (hn : l.length ≤ 900000) :
    Calls Try.prog 21 #[v, .int .u32 n, .int .i64 4] w fun e w' => ∃ v', e = .returned v' ∧ Own w' base v' (l ++ lebZ n 4) ∧ Below base w w' := by
  have H := Lib.hid h
  clear h
  go_enter Try.func21, Try.ntmps21
  go_wp2
  go_loopw [0, 9] (fun x i wr => ∃ k : Nat, k ≤ 4 ∧ i = .int .i64 k ∧ Hid (Own wr base x (l ++ lebZ n k)) ∧ Hid (Below base w wr)) (fun _ i _ => 4 - (intOf i).toNat)
  case atStart => exact ⟨0, by omega, rfl, Lib.hid (by simpa [lebZ] using H.out), Lib.hid (Below.refl _ _)⟩
  case round =>
    obtain ⟨k, hk, rfl, HO, HB⟩ := hrel
    by_cases hlt : k < 4
    · have hq0 : 0 ≤ n / 2 ^ (8 * k) % 256 := Int.emod_nonneg _ (by omega)
      have hq1 : n / 2 ^ (8 * k) % 256 < 256 := Int.emod_lt_of_pos _ (by omega)
      obtain ⟨v', w', hrun, ho, hb⟩ := run_push 22 HO.out (n / 2 ^ (8 * k) % 256) hq0 hq1 (Nat.le_trans hbase HB.out.size) (by simp; omega)
      have HRUN := Lib.hid hrun
      have HO' := Lib.hid ho
      have HB' := Lib.hid (HB.out.trans hb)
      clear hrun ho hb
      go_wp2_with (at_builtin; refine Lib.wpList_append_run _ rfl (.tmp 12) (.tmp 18) 22 22 rfl _ _ rfl rfl v' w' HRUN.out ?_)
      go_round
      case rel => exact ⟨k + 1, by omega, by simp, Lib.hid (by rw [lebZ_succ, ← List.append_assoc]; exact HO'.out), HB'⟩
      case measure => simp [intOf]; omega
    · obtain rfl : k = 4 := by omega
      go_wp2
      go_ret
      exact ⟨_, rfl, HO.out, HB.out⟩

/-- The bytes of a number that is not negative. -/
def leb (n k : Nat) : List Nat := (List.range k).map fun i => n / 2 ^ (8 * i) % 256
theorem leb_succ (n k : Nat) : leb n (k + 1) = leb n k ++ [n / 2 ^ (8 * k) % 256] := by simp [leb, List.range_succ]
@[simp] theorem leb_length (n k : Nat) : (leb n k).length = k := by simp [leb]
theorem lebZ_nat (n k : Nat) : lebZ n k = leb n k := by
  unfold lebZ leb
  apply List.map_congr_left
  intro i _
  have : ((n : Int) / 2 ^ (8 * i)) % 256 = ((n / 2 ^ (8 * i) % 256 : Nat) : Int) := by rw [Int.natCast_emod, Int.natCast_ediv, Int.natCast_pow]; rfl
  rw [this, Int.toNat_natCast]
theorem lebZ_not (n k : Nat) : lebZ (-1 - (n : Int)) k = (leb n k).map (255 - ·) := by
  unfold lebZ leb
  rw [List.map_map]
  apply List.map_congr_left
  intro i _
  show _ = 255 - n / 2 ^ (8 * i) % 256
  have hp : (0 : Int) < 2 ^ (8 * i) := Int.pow_pos (by omega)
  have h1 : (-1 - (n : Int)) / 2 ^ (8 * i) = -1 - ((n / 2 ^ (8 * i) : Nat) : Int) := by
    have e : ((n / 2 ^ (8 * i) : Nat) : Int) = (n : Int) / 2 ^ (8 * i) := by rw [Int.natCast_ediv, Int.natCast_pow]; rfl
    rw [e]
    have hd := Int.mul_ediv_add_emod (n : Int) (2 ^ (8 * i))
    have hm0 := Int.emod_nonneg (n : Int) (Int.ne_of_gt hp)
    have hm1 := Int.emod_lt_of_pos (n : Int) hp
    generalize (n : Int) / 2 ^ (8 * i) = q at *
    generalize (n : Int) % 2 ^ (8 * i) = r at *
    generalize (2 : Int) ^ (8 * i) = d at *
    have : -1 - (n : Int) = (d - 1 - r) + d * (-1 - q) := by rw [← hd, Int.mul_sub, Int.mul_neg, Int.mul_one]; omega
    rw [this, Int.add_mul_ediv_left _ _ (Int.ne_of_gt hp), Int.ediv_eq_zero_of_lt (by omega) (by omega)]
    omega
  rw [h1]
  generalize n / 2 ^ (8 * i) = q
  omega

set_option maxHeartbeats 2000000 in
theorem Bytes_any (w : World) (n k8 : Nat) (h1 : (n : Int) ≤ 9223372036854775807) (h8 : k8 ≤ 8) :
    Calls Try.prog 22 #[.int .i64 n, .int .i64 k8] w fun e w' => ∃ v', e = .returned v' ∧ Own w' w.heap.size v' (leb n k8) ∧ Below w.heap.size w w' := by
  go_enter Try.func22, Try.ntmps22
  go_wp2
  go_loopw [0, 5, 6] (fun m x i wr => ∃ k : Nat, k ≤ k8 ∧ i = .int .i64 k ∧ m = .int .i64 ((n / 2 ^ (8 * k) : Nat) : Int) ∧ Hid (Own wr w.heap.size x (leb n k)) ∧ Hid (Below w.heap.size w wr)) (fun _ _ i _ => k8 - (intOf i).toNat)
  case atStart => exact ⟨0, by omega, rfl, val_int (by rw [Nat.mul_zero, Nat.pow_zero, Nat.div_one]), Lib.hid (Own.none_ _ _), Lib.hid (Below.refl _ _)⟩
  case round =>
    obtain ⟨k, hk, rfl, rfl, HO, HB⟩ := hrel
    by_cases hlt : k < k8
    · have hq : n / 2 ^ (8 * (k + 1)) = n / 2 ^ (8 * k) / 256 := by rw [Nat.div_div_eq_div_mul, Nat.mul_add, Nat.pow_add]
      have hle : n / 2 ^ (8 * k) ≤ n := Nat.div_le_self _ _
      have HQ := Lib.hid hq
      have HS := Lib.hid (leb_succ n k)
      clear hq
      generalize n / 2 ^ (8 * k) = q at *
      have hq0 : 0 ≤ (q : Int) % 256 := Int.emod_nonneg _ (by omega)
      have hq1 : (q : Int) % 256 < 256 := Int.emod_lt_of_pos _ (by omega)
      obtain ⟨v', w', hrun, ho, hb⟩ := run_push 22 HO.out ((q : Int) % 256) hq0 hq1 HB.out.size (by simp; omega)
      have HRUN := Lib.hid hrun
      have HO' := Lib.hid ho
      have HB' := Lib.hid (HB.out.trans hb)
      clear hrun ho hb
      go_wp2_with (at_builtin; refine Lib.wpList_append_run _ rfl (.tmp 12) (.tmp 16) 22 22 rfl _ _ rfl rfl v' w' HRUN.out ?_)
      go_round
      case rel => exact ⟨k + 1, by omega, by simp, val_int (by rw [HQ.out]; omega), Lib.hid (by
        rw [HS.out]
        have : ((q : Int) % 256).toNat = q % 256 := by omega
        rw [← this]; exact HO'.out), HB'⟩
      case measure => simp [intOf]; omega
    · obtain rfl : k = k8 := by omega
      go_wp2
      go_ret
      exact ⟨_, rfl, HO.out, HB.out⟩

end Go.Proofs.Ytipijjlajhofkaa
