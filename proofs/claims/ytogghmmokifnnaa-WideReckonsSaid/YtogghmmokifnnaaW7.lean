/- Walks: Text. -/
import Derived.Test.YtogghmmokifnnaaW6
import Derived.Test.YtogghmmokifnnaaBoxes
namespace Go.Proofs.Ytogghmmokifnnaa
open Go.RowKit

/-- What stands in 'parts' behind i rounds. -/
def partN (m i j : Nat) : Nat := if j < i then m / 100000000 ^ j % 100000000 else 0
def partsC (m i : Nat) : Array Value := ((List.range 5).map fun j => Value.int .u64 (partN m i j : Nat)).toArray
theorem partsC_size (m i : Nat) : (partsC m i).size = 5 := by simp [partsC]
theorem partsC_get (m i j : Nat) (h : j < 5) : (partsC m i)[j]? = some (.int .u64 (partN m i j : Nat)) := by
  unfold partsC
  rw [List.getElem?_toArray, List.getElem?_map, List.getElem?_range h]; rfl
theorem partsC_zero (m : Nat) : partsC m 0 = #[.int .u64 0, .int .u64 0, .int .u64 0, .int .u64 0, .int .u64 0] := rfl
theorem partsC_step (m i : Nat) : (partsC m i).setIfInBounds i (.int .u64 ((m / 100000000 ^ i % 100000000 : Nat) : Int)) = partsC m (i + 1) := by
  refine Array.ext (by simp [partsC_size]) fun j h1 h2 => ?_
  have hj : j < 5 := by simpa [partsC_size] using h1
  have e1 := partsC_get m i j hj
  have e2 := partsC_get m (i + 1) j hj
  rw [Array.getElem?_eq_getElem (by rw [partsC_size]; exact hj)] at e1 e2
  injection e1 with e1
  injection e2 with e2
  rw [Array.getElem_setIfInBounds (by rw [partsC_size]; exact hj), e2]
  by_cases hij : i = j
  · subst hij
    rw [if_pos rfl]
    unfold partN
    rw [if_pos (by omega)]
  · rw [if_neg hij, e1]
    unfold partN
    by_cases hlt : j < i
    · rw [if_pos hlt, if_pos (by omega)]
    · rw [if_neg hlt, if_neg (by omega)]

/-- The figures of a number behind t rounds: forty places, the lowest last. -/
def digN (m t j : Nat) : Nat := if 39 - j < t then 48 + m / 10 ^ (39 - j) % 10 else 0
def digsC (m t : Nat) : Array Value := ((List.range 40).map fun j => Value.int .u8 (digN m t j : Nat)).toArray
theorem digsC_size (m t : Nat) : (digsC m t).size = 40 := by simp [digsC]
theorem digsC_get (m t j : Nat) (h : j < 40) : (digsC m t)[j]? = some (.int .u8 (digN m t j : Nat)) := by
  unfold digsC
  rw [List.getElem?_toArray, List.getElem?_map, List.getElem?_range h]; rfl
theorem digsC_step (m t : Nat) (ht : t < 40) : (digsC m t).setIfInBounds (39 - t) (.int .u8 ((48 + m / 10 ^ t % 10 : Nat) : Int)) = digsC m (t + 1) := by
  refine Array.ext (by simp [digsC_size]) fun j h1 h2 => ?_
  have hj : j < 40 := by simpa [digsC_size] using h1
  have e1 := digsC_get m t j hj
  have e2 := digsC_get m (t + 1) j hj
  rw [Array.getElem?_eq_getElem (by rw [digsC_size]; exact hj)] at e1 e2
  injection e1 with e1
  injection e2 with e2
  rw [Array.getElem_setIfInBounds (by rw [digsC_size]; exact hj), e2]
  by_cases hij : 39 - t = j
  · rw [if_pos hij]
    unfold digN
    have e : 39 - j = t := by omega
    rw [e, if_pos (by omega)]
  · rw [if_neg hij, e1]
    unfold digN
    by_cases hlt : 39 - j < t
    · rw [if_pos hlt, if_pos (by omega)]
    · rw [if_neg hlt, if_neg (by omega)]
theorem dig_of (m i k : Nat) (hk : k < 8) : m / 100000000 ^ i % 100000000 / 10 ^ k % 10 = m / 10 ^ (i * 8 + k) % 10 := by
  have e : (100000000 : Nat) ^ i = 10 ^ (i * 8) := by rw [Nat.mul_comm, Nat.pow_mul]
  rw [Nat.pow_add, ← Nat.div_div_eq_div_mul, ← e]
  generalize m / 100000000 ^ i = x
  match k, hk with
  | 0, _ => simp only [Nat.pow_zero]; omega
  | 1, _ => simp only [Nat.reducePow]; omega
  | 2, _ => simp only [Nat.reducePow]; omega
  | 3, _ => simp only [Nat.reducePow]; omega
  | 4, _ => simp only [Nat.reducePow]; omega
  | 5, _ => simp only [Nat.reducePow]; omega
  | 6, _ => simp only [Nat.reducePow]; omega
  | 7, _ => simp only [Nat.reducePow]; omega
theorem Blk.five {w : World} {b : Nat} {t : TypeId} {x y z u v : Value} (h : Blk w b #[x, y, z, u, v] t) :
    w.cell? ⟨b, 0, none⟩ = some x ∧ w.cell? ⟨b, 1, none⟩ = some y ∧ w.cell? ⟨b, 2, none⟩ = some z ∧ w.cell? ⟨b, 3, none⟩ = some u ∧ w.cell? ⟨b, 4, none⟩ = some v :=
  ⟨h.cell 0, h.cell 1, h.cell 2, h.cell 3, h.cell 4⟩

/-- All forty figures, as bytes. -/
def digL (m : Nat) : List Nat := (List.range 40).map fun j => 48 + m / 10 ^ (39 - j) % 10
theorem digL_length (m : Nat) : (digL m).length = 40 := by simp [digL]
theorem digL_get (m j : Nat) (h : j < 40) : (digL m)[j]'(by rw [digL_length]; exact h) = 48 + m / 10 ^ (39 - j) % 10 := by simp [digL]
theorem digN_all (m j : Nat) (h : j < 40) : digN m 40 j = (digL m)[j]'(by rw [digL_length]; exact h) := by
  rw [digL_get m j h]
  unfold digN
  rw [if_pos (by omega)]
/-- Without the zeros ahead. -/
def trim : List Nat → List Nat
  | [] => []
  | [x] => [x]
  | x :: y :: l => if x = 48 then trim (y :: l) else x :: y :: l
theorem trim_step (l : List Nat) (f : Nat) (h : f + 1 < l.length) (h48 : l[f] = 48) : trim (l.drop f) = trim (l.drop (f + 1)) := by
  rw [List.drop_eq_getElem_cons (by omega), List.drop_eq_getElem_cons h]
  show (if l[f] = 48 then _ else _) = _
  rw [if_pos h48]
theorem trim_stop (l : List Nat) (f : Nat) (h : f + 1 < l.length) (h48 : ¬ l[f] = 48) : trim (l.drop f) = l.drop f := by
  rw [List.drop_eq_getElem_cons (by omega), List.drop_eq_getElem_cons h]
  show (if l[f] = 48 then _ else _) = _
  rw [if_neg h48]
theorem trim_last (l : List Nat) (f : Nat) (h : f + 1 = l.length) : trim (l.drop f) = l.drop f := by
  have e : l.drop (f + 1) = [] := List.drop_eq_nil_of_le (by omega)
  rw [List.drop_eq_getElem_cons (by omega), e]
  rfl
def str (l : List Nat) : ByteArray := ⟨(l.map UInt8.ofNat).toArray⟩
theorem run_digits {w : World} {O : Nat} (m f : Nat) (hf : f ≤ 40) (h : Blk w O (digsC m 40) 59) :
    (convert 60 9 (.slice (some ⟨O, f, none⟩) (40 - f) (40 - f))).run Try.prog w = .ok (.string (str ((digL m).drop f))) w := by
  have := run_convert_bytes_back (P := Try.prog) w 60 9 5 ⟨O, f, none⟩ (40 - f) (((digL m).drop f).map UInt8.ofNat) Try.underlying60 Try.underlying5 Try.underlying9 (fun j hj => by
    have hj' : f + j < 40 := by simp [digL_length] at hj; omega
    have hc := (h.at (f + j) (digsC_get m 40 (f + j) hj')).1
    have ea : (⟨O, f, none⟩ : Addr).add j = ⟨O, f + j, none⟩ := by
      unfold Addr.add
      split
      · rename_i h0; subst h0; rfl
      · rfl
    rw [ea, hc, digN_all m _ hj']
    simp only [List.getElem_map, List.getElem_drop]
    have hlt : (digL m)[f + j]'(by rw [digL_length]; exact hj') < 256 := by rw [digL_get m _ hj']; omega
    have e : (UInt8.ofNat ((digL m)[f + j]'(by rw [digL_length]; exact hj'))).toNat = (digL m)[f + j]'(by rw [digL_length]; exact hj') := by
      simp; omega
    rw [e])
  rw [List.length_map, List.length_drop, digL_length] at this
  exact this

theorem trim_le : ∀ l : List Nat, (trim l).length ≤ l.length
  | [] => Nat.le_refl _
  | [_] => Nat.le_refl _
  | x :: y :: l => by
    unfold trim
    split
    · have := trim_le (y :: l); simp at *; omega
    · exact Nat.le_refl _
theorem text_size (m : Nat) : (str (trim (digL m))).size ≤ 40 := by
  have h := trim_le (digL m)
  rw [digL_length] at h
  have e : (str (trim (digL m))).size = (trim (digL m)).length := by simp [str, ByteArray.size]
  omega
theorem slice_at (O f : Nat) (hf : f < 40) (w : World) : (Instr.sliceAt 59 (.pointer (some ⟨O, 0, none⟩)) (some (.int .i64 (f : Int))) none none).run Try.prog w = .ok (.slice (some ⟨O, f, none⟩) (40 - f) (40 - f)) w := by
  have hl : Try.prog.arrayLen 59 = 40 := by kernel_rfl
  have he : Try.prog.elem 59 = 5 := by kernel_rfl
  have hs : (sizeOf 5).run Try.prog w = .ok 1 w := by kernel_rfl
  have h := run_sliceAt_array_l (P := Try.prog) w 59 ⟨O, 0, none⟩ (by kernel_rfl) .i64 f (by omega) (by rw [hl]; omega)
  rw [h, hl, he, hs]
  have hne : ¬ 40 = f := by omega
  simp only [Result.andThen_ok, slicedAt, Int.toNat_natCast, if_neg hne, Nat.mul_one]
  unfold Addr.add
  by_cases h0 : f = 0
  · subst h0; rfl
  · simp [h0]

set_option maxRecDepth 20000 in
set_option maxHeartbeats 8000000 in
theorem Text_road (ha la : Int) (hi lo m : Nat) (hw : IntKind.u64.wrap ha = (hi : Int)) (hl : la = (lo : Int)) (hh : hi < 18446744073709551616) (hlo : lo < 18446744073709551616) (hm : hi * 18446744073709551616 + lo = m) (h0 : 0 ≤ ha) (w : World) :
    Calls Try.prog 20 #[.agg #[.int .i64 ha, .int .u64 la]] w fun e w' => e = .returned (.string (⟨#[]⟩ ++ str (trim (digL m)))) ∧ Below w.heap.size w w' := by
  have h0' : ¬ ha < 0 := by omega
  have hsz : ¬ 9223372036854775807 < (str (trim (digL m))).size := by
    have := text_size m; omega
  subst hl
  obtain ⟨w0, hw0, p0, g0, z0⟩ := boxes1 w #[.int .i64 ha, .int .u64 lo] 24
  have c0 := p0.two
  have B0 := Lib.hid (And.intro p0 g0)
  clear p0 g0 z0
  go_enter Try.func20, Try.ntmps20
  go_wp2_with fail
  (try clear hw0)
  clear c0
  obtain ⟨S0, S0d⟩ : ∃ S : World → Prop, S = fun v : World => Blk v w.heap.size #[.int .i64 ha, .int .u64 lo] 24 ∧ Below w.heap.size w v := ⟨_, rfl⟩
  have S0t0 : Stands S0 := by rw [S0d]; exact ((stands_blk _ _ _).and (stands_below _))
  have S0u0 : ∀ v, S0 v → Blk v w.heap.size #[.int .i64 ha, .int .u64 lo] 24 ∧ Below w.heap.size w v := fun v h => by rw [S0d] at h; exact h
  have S0m0 : ∀ v, (Blk v w.heap.size #[.int .i64 ha, .int .u64 lo] 24 ∧ Below w.heap.size w v) → S0 v := fun v h => by rw [S0d]; exact h
  have S0u := Lib.hid S0u0
  have S0m := Lib.hid S0m0
  have S0t := Lib.hid S0t0
  clear S0d S0u0 S0m0 S0t0
  refine wp_region_X (S := S0) (by kernel_rfl) (S0m.out _ ⟨B0.out.1.drew, B0.out.2.drew⟩) ?_
  clear B0
  refine wpX_take (i := 0) (v := ?_) S0t.out rfl rfl (by kernel_rfl) (by kernel_rfl) (by kernel_rfl) (fun _ _ _ h => h) (SteadyX.value (by rfl) ?_) ?_
  rotate_left
  · (intro w_ hS; go_simp; try with_reducible rfl)
  simp only [List.setIfInBounds_toArray, List.set_cons_zero, List.set_cons_succ]
  refine wpX_take (i := 1) (v := ?_) S0t.out rfl rfl (by kernel_rfl) (by kernel_rfl) (by kernel_rfl) (fun _ _ _ h => h) (SteadyX.value (by rfl) ?_) ?_
  rotate_left
  · (intro w_ hS; obtain ⟨q0, q1⟩ := S0u.out _ hS; (have q0 := q0.two); (clear q1); go_simp; try with_reducible rfl)
  simp only [List.setIfInBounds_toArray, List.set_cons_zero, List.set_cons_succ]
  refine wpX_take (i := 2) (v := ?_) S0t.out rfl rfl (by kernel_rfl) (by kernel_rfl) (by kernel_rfl) (fun _ _ _ h => h) (SteadyX.value (by rfl) ?_) ?_
  rotate_left
  · (intro w_ hS; obtain ⟨q0, q1⟩ := S0u.out _ hS; (have q0 := q0.two); (clear q1); go_simp; try with_reducible rfl)
  simp only [List.setIfInBounds_toArray, List.set_cons_zero, List.set_cons_succ]
  refine wpX_take (i := 3) (v := ?_) S0t.out rfl rfl (by kernel_rfl) (by kernel_rfl) (by kernel_rfl) (fun _ _ _ h => h) (SteadyX.value (by rfl) ?_) ?_
  rotate_left
  · (intro w_ hS; go_simp; try with_reducible rfl)
  simp only [List.setIfInBounds_toArray, List.set_cons_zero, List.set_cons_succ]
  refine wpX_take (i := 4) (v := ?_) S0t.out rfl rfl (by kernel_rfl) (by kernel_rfl) (by kernel_rfl) (fun _ _ _ h => h) (SteadyX.value (by rfl) ?_) ?_
  rotate_left
  · (intro w_ hS; obtain ⟨q0, q1⟩ := S0u.out _ hS; (have q0 := q0.two); (clear q1); go_simp; try with_reducible rfl)
  simp only [List.setIfInBounds_toArray, List.set_cons_zero, List.set_cons_succ]
  refine wpX_take (i := 5) (v := ?_) S0t.out rfl rfl (by kernel_rfl) (by kernel_rfl) (by kernel_rfl) (fun _ _ _ h => h) (SteadyX.value (by rfl) ?_) ?_
  rotate_left
  · (intro w_ hS; go_simp; try with_reducible rfl)
  simp only [List.setIfInBounds_toArray, List.set_cons_zero, List.set_cons_succ]
  refine wpX_take (i := 6) (v := ?_) S0t.out rfl rfl (by kernel_rfl) (by kernel_rfl) (by kernel_rfl) (fun _ _ _ h => h) (SteadyX.value (by rfl) ?_) ?_
  rotate_left
  · (intro w_ hS; go_simp; try with_reducible rfl)
  simp only [List.setIfInBounds_toArray, List.set_cons_zero, List.set_cons_succ]
  refine wpX_done (by kernel_rfl) (fun W hS => ?_) _
  obtain ⟨q0, q1⟩ := S0u.out _ hS
  clear hS S0u S0m S0t
  clear S0
  have B1 := Lib.hid q1
  have hWP : w.heap.size ≤ W.heap.size := q1.size
  have HWP := Lib.hid hWP
  clear q0 q1 hWP
  go_wp2
  go_loopw [4, 5, 27] (fun vh vl i wr => ∃ k a b : Nat, k ≤ 5 ∧ i = .int .i64 k ∧ vh = .int .u64 a ∧ vl = .int .u64 b ∧ Hid (a * 18446744073709551616 + b = m / 100000000 ^ k ∧ a < 18446744073709551616 ∧ b < 18446744073709551616) ∧ Hid (Blk wr W.heap.size (partsC m k) 58 ∧ Below w.heap.size w wr)) (fun _ _ i _ => 5 - (intOf i).toNat)
  case atStart =>
    refine ⟨0, hi, lo, by omega, rfl, rfl, rfl, Lib.hid ⟨by rw [hm, Nat.pow_zero, Nat.div_one], hh, hlo⟩, Lib.hid ⟨Blk.new W _ 58, grow_alloc B1.out _⟩⟩
  case round =>
    obtain ⟨k, a, b, hk, rfl, rfl, rfl, HA, B⟩ := hrel
    clear B1
    obtain ⟨P, hP⟩ : ∃ P, P = W.heap.size := ⟨_, rfl⟩
    rw [← hP] at B HWP ⊢
    clear hP
    by_cases hlt : k < 5
    · obtain ⟨ha1, ha2, ha3⟩ := HA.out
      have kd := Div64_0 a ha2
      obtain ⟨q1, hq1⟩ : ∃ q1, a / 100000000 = q1 := ⟨_, rfl⟩
      obtain ⟨r1, hr1⟩ : ∃ r1, a % 100000000 = r1 := ⟨_, rfl⟩
      rw [hq1, hr1] at kd
      have hr1' : r1 < 100000000 := by rw [← hr1]; exact Nat.mod_lt _ (by decide)
      have kd2 := Div64_any r1 b hr1' ha3
      obtain ⟨q2, hq2⟩ : ∃ q2, (r1 * 18446744073709551616 + b) / 100000000 = q2 := ⟨_, rfl⟩
      obtain ⟨r2, hr2⟩ : ∃ r2, (r1 * 18446744073709551616 + b) % 100000000 = r2 := ⟨_, rfl⟩
      rw [hq2, hr2] at kd2
      have hstep : q1 * 18446744073709551616 + q2 = m / 100000000 ^ (k + 1) ∧ r2 = m / 100000000 ^ k % 100000000 ∧ q1 < 18446744073709551616 ∧ q2 < 18446744073709551616 := by
        rw [Nat.pow_succ, ← Nat.div_div_eq_div_mul, ← ha1]
        clear kd kd2 ha1
        omega
      have HS := Lib.hid hstep
      have KD := Lib.hid kd
      have KD2 := Lib.hid kd2
      clear hstep kd kd2 hq1 hr1 hq2 hr2 hr1' ha1 ha2 ha3 HA
      obtain ⟨v, hv⟩ : ∃ v, (partsC m k)[k]? = some v := ⟨_, partsC_get m k k hlt⟩
      go_wp2_with fail
      refine (KD.out _).mono ?_
      rintro e w1 ⟨rfl, hb⟩
      have B2 := Lib.hid (And.intro (B.out.1.grew hb) (grow B.out.2 hb))
      clear hb B
      go_wp2_with fail
      refine (KD2.out _).mono ?_
      rintro e w2 ⟨rfl, hb⟩
      have B3 := Lib.hid (And.intro (B2.out.1.grew hb) (grow B2.out.2 hb))
      clear hb B2
      have cv := B3.out.1.at k hv
      go_wp2
      go_round
      case rel =>
        have e : (partsC m k).setIfInBounds k (.int .u64 (r2 : Int)) = partsC m (k + 1) := by rw [HS.out.2.1]; exact partsC_step m k
        have hB := B3.out.1.set k (.int .u64 (r2 : Int))
        rw [e] at hB
        exact ⟨k + 1, q1, q2, by omega, val_int rfl, rfl, rfl, Lib.hid ⟨HS.out.1, HS.out.2.2.1, HS.out.2.2.2⟩, Lib.hid ⟨hB, B3.out.2.setCell (p := ⟨P, k, none⟩) HWP.out _⟩⟩
      case measure => simp only [intOf]; omega
    · have hk5 : k = 5 := by omega
      subst hk5
      clear HA hlt hk
      have hpv : ∀ j, j < 5 → partN m 5 j = m / 100000000 ^ j % 100000000 := fun j hj => by unfold partN; rw [if_pos hj]
      have hpc : partsC m 5 = #[.int .u64 (partN m 5 0 : Nat), .int .u64 (partN m 5 1 : Nat), .int .u64 (partN m 5 2 : Nat), .int .u64 (partN m 5 3 : Nat), .int .u64 (partN m 5 4 : Nat)] := rfl
      rw [hpc] at B
      clear hpc
      generalize partN m 5 = pv at *
      have HPV := Lib.hid hpv
      have c5 := B.out.1.five
      have hPl : P < wr.heap.size := B.out.1.lt
      clear hpv
      go_wp2
      have hz : Blk (wr.alloc (.cells (digsC m 0) 59)) wr.heap.size (digsC m 0) 59 := Blk.new wr _ 59
      have hg : Below w.heap.size w (wr.alloc (.cells (digsC m 0) 59)) := grow_alloc B.out.2 _
      have HO : Hid (w.heap.size ≤ wr.heap.size) := Lib.hid B.out.2.size
      obtain ⟨O, hO⟩ : ∃ O, O = wr.heap.size := ⟨_, rfl⟩
      rw [← hO] at hz HO ⊢
      clear hO
      have HZ := Lib.hid (And.intro hz hg)
      clear hz hg c5 hPl B
      go_loopw [48] (fun i wq => ∃ k : Nat, k ≤ 5 ∧ i = .int .i64 k ∧ Hid (Blk wq O (digsC m (k * 8)) 59 ∧ Below w.heap.size w wq)) (fun i _ => 5 - (intOf i).toNat)
      case atStart => exact ⟨0, by omega, rfl, HZ⟩
      case round =>
        obtain ⟨k, hk, rfl, B⟩ := hrel
        clear HZ
        by_cases hlt : k < 5
        · have hix : ∀ w : World, (Instr.index 58 (.agg #[.int .u64 (pv 0 : Nat), .int .u64 (pv 1 : Nat), .int .u64 (pv 2 : Nat), .int .u64 (pv 3 : Nat), .int .u64 (pv 4 : Nat)]) (.int .i64 k)).run Try.prog w = .ok (.int .u64 (pv k : Nat)) w := by
            match k, hlt with
            | 0, _ => exact fun _ => by kernel_rfl
            | 1, _ => exact fun _ => by kernel_rfl
            | 2, _ => exact fun _ => by kernel_rfl
            | 3, _ => exact fun _ => by kernel_rfl
            | 4, _ => exact fun _ => by kernel_rfl
          have hpk := HPV.out k hlt
          have HPK := Lib.hid hpk
          clear hpk
          generalize pv k = pk at *
          go_wp2
          go_loopw [14, 52] (fun x i wq => ∃ j y : Nat, j ≤ 8 ∧ i = .int .i64 j ∧ x = .int .u64 y ∧ Hid (y = m / 100000000 ^ k % 100000000 / 10 ^ j ∧ y < 100000000) ∧ Hid (Blk wq O (digsC m (k * 8 + j)) 59 ∧ Below w.heap.size w wq)) (fun _ i _ => 8 - (intOf i).toNat)
          case atStart => exact ⟨0, pk, by omega, rfl, rfl, Lib.hid ⟨by rw [HPK.out, Nat.pow_zero, Nat.div_one], by rw [HPK.out]; exact Nat.mod_lt _ (by decide)⟩, B⟩
          case round =>
            obtain ⟨j, y, hj, rfl, rfl, HY, B2⟩ := hrel
            clear B HPK hix
            by_cases hjl : j < 8
            · have hd := dig_of m k j hjl
              rw [← HY.out.1] at hd
              have hs := digsC_step m (k * 8 + j) (by omega)
              rw [← hd] at hs
              have hy2 : y / 10 = m / 100000000 ^ k % 100000000 / 10 ^ (j + 1) := by rw [HY.out.1, Nat.div_div_eq_div_mul, Nat.pow_succ]
              have HS := Lib.hid hs
              have HY2 := Lib.hid hy2
              obtain ⟨v, hv⟩ : ∃ v, (digsC m (k * 8 + j))[39 - (k * 8 + j)]? = some v := ⟨_, digsC_get m _ _ (by omega)⟩
              have cv := B2.out.1.at _ hv
              have hidx : (39 : Int) - (k : Int) * 8 - (j : Int) = ((39 - (k * 8 + j) : Nat) : Int) := by omega
              have hlt40 : 39 - (k * 8 + j) < 40 := by omega
              obtain ⟨ix, hixx⟩ : ∃ ix, 39 - (k * 8 + j) = ix := ⟨_, rfl⟩
              rw [hixx] at HS hv cv hidx hlt40
              have hdl : y % 10 < 10 := Nat.mod_lt _ (by decide)
              obtain ⟨dg, hdg⟩ : ∃ dg, y % 10 = dg := ⟨_, rfl⟩
              obtain ⟨y2, hyy⟩ : ∃ y2, y / 10 = y2 := ⟨_, rfl⟩
              rw [hdg] at HS hdl
              rw [hyy] at HY2
              have t1 : IntKind.u64.wrap ((y : Int).tmod 10) = (dg : Int) := by rw [← hdg, Int.tmod_eq_emod_of_nonneg (by omega), IntKind.wrap_u64]; omega
              have t1' : (y : Int).tmod 10 = (dg : Int) := by rw [← hdg, Int.tmod_eq_emod_of_nonneg (by omega)]; omega
              have t2 : (y : Int) / 10 = (y2 : Int) := by omega
              have hy8 := HY.out.2
              have hy28 : y2 < 100000000 := by omega
              have t3 : IntKind.u64.wrap (y2 : Int) = (y2 : Int) := u64_of y2 (by omega)
              clear hy8
              clear hd hs hy2 hixx hdg hyy HY
              go_wp2
              go_round
              case rel =>
                have hB := B2.out.1.set ix (.int .u8 (48 + (dg : Int)))
                have e : (digsC m (k * 8 + j)).setIfInBounds ix (.int .u8 (48 + (dg : Int))) = digsC m (k * 8 + (j + 1)) := by
                  rw [← Nat.add_assoc, ← HS.out, Int.natCast_add]; rfl
                rw [e] at hB
                exact ⟨j + 1, y2, by omega, val_int rfl, rfl, Lib.hid ⟨HY2.out, hy28⟩, Lib.hid ⟨hB, B2.out.2.setCell (p := ⟨O, ix, none⟩) HO.out _⟩⟩
              case measure => simp only [intOf]; omega
            · have hj8 : j = 8 := by omega
              subst hj8
              go_wp2
              exact ⟨⟨k + 1, by omega, val_int rfl, by rw [show (k + 1) * 8 = k * 8 + 8 by omega]; exact B2⟩, by simp only [intOf]; omega⟩
        · have hk5 : k = 5 := by omega
          subst hk5
          clear hlt hk HPV
          go_wp2
          go_loopw [16] (fun i wq => ∃ f : Nat, f ≤ 39 ∧ i = .int .i64 f ∧ Hid (trim (digL m) = trim ((digL m).drop f)) ∧ Hid (Blk wq O (digsC m 40) 59 ∧ Below w.heap.size w wq)) (fun i _ => 39 - (intOf i).toNat)
          case atStart => exact ⟨0, by omega, rfl, Lib.hid rfl, B⟩
          case round =>
            obtain ⟨f, hf, rfl, HT, B3⟩ := hrel
            clear B
            by_cases hlt : f < 39
            · have cf := B3.out.1.at f (digsC_get m 40 f (by omega))
              rw [digN_all m f (by omega)] at cf
              by_cases h48 : (digL m)[f]'(by rw [digL_length]; omega) = 48
              · have hst := trim_step (digL m) f (by rw [digL_length]; omega) h48
                have HST := Lib.hid hst
                rw [h48] at cf
                clear hst h48
                go_wp2
                have hms : 39 - ((f : Int) + 1).toNat < 39 - (f : Int).toNat := by omega
                exact ⟨⟨.int .i64 ((f + 1 : Nat) : Int), _, _, _, _, _, _, _, _, _, _, ⟨f + 1, by omega, rfl, Lib.hid (HT.out.trans HST.out), B3⟩, rfl⟩, hms⟩
              · have hst := trim_stop (digL m) f (by rw [digL_length]; omega) h48
                generalize (digL m)[f]'(by rw [digL_length]; omega) = df at *
                have hdf : ¬ (df : Int) = 48 := by omega
                have hcv := run_digits m f (by omega) B3.out.1
                rw [← hst, ← HT.out] at hcv
                have hsl := slice_at O f (by omega)
                have HG := Lib.hid B3.out.2
                clear hst h48 HT B3
                go_wp2
                go_ret
                exact ⟨rfl, HG.out⟩
            · have hf39 : f = 39 := by omega
              subst hf39
              have hcv := run_digits m 39 (by omega) B3.out.1
              rw [← trim_last (digL m) 39 (by rw [digL_length]), ← HT.out] at hcv
              have hsl := slice_at O 39 (by omega)
              have HG := Lib.hid B3.out.2
              clear HT B3
              go_wp2
              go_ret
              exact ⟨rfl, HG.out⟩
set_option maxRecDepth 20000 in
set_option maxHeartbeats 8000000 in
theorem Text_neg (h2 ha la la2 : Int) (hi lo m : Nat) (hw : IntKind.u64.wrap ha = (hi : Int)) (hl : la = (lo : Int)) (h2n : h2 < 0) (k1 : ∀ w, Calls Try.prog 10 #[.agg #[.int .i64 h2, .int .u64 la2]] w fun e w' => e = .returned (.agg #[.int .i64 ha, .int .u64 la]) ∧ Below w.heap.size w w') (hh : hi < 18446744073709551616) (hlo : lo < 18446744073709551616) (hm : hi * 18446744073709551616 + lo = m) (w : World) :
    Calls Try.prog 20 #[.agg #[.int .i64 h2, .int .u64 la2]] w fun e w' => e = .returned (.string (⟨#[45]⟩ ++ str (trim (digL m)))) ∧ Below w.heap.size w w' := by
  have hsz1 : ¬ 9223372036854775807 < 1 + (str (trim (digL m))).size := by
    have := text_size m; omega
  have hsz : ¬ 9223372036854775807 < (str (trim (digL m))).size := by
    have := text_size m; omega
  subst hl
  obtain ⟨w0, hw0, p0, g0, z0⟩ := boxes1 w #[.int .i64 h2, .int .u64 la2] 24
  have c0 := p0.two
  have B0 := Lib.hid (And.intro p0 g0)
  have K1 := Lib.hid k1
  clear p0 g0 z0 k1
  go_enter Try.func20, Try.ntmps20
  go_wp2_with fail
  refine (K1.out _).mono ?_
  rintro e w1 ⟨rfl, hb⟩
  (try clear hw0)
  clear c0
  have c0 := (B0.out.1.grew hb).two
  have B1 := Lib.hid (And.intro (((B0.out.1.grew hb).set 0 (.int .i64 ha)).set 1 (.int .u64 lo)) (((grow B0.out.2 hb).setCell (p := ⟨w.heap.size, 0, none⟩) (Nat.le_refl _) (.int .i64 ha)).setCell (p := ⟨w.heap.size, 1, none⟩) (Nat.le_refl _) (.int .u64 lo)))
  clear hb B0
  go_wp2_with fail
  generalize (w1.setCell ⟨w.heap.size, 0, none⟩ (.int .i64 ha)).setCell ⟨w.heap.size, 1, none⟩ (.int .u64 lo) = w2 at *
  have B0 : Hid (Blk w2 w.heap.size #[.int .i64 ha, .int .u64 lo] 24 ∧ Below w.heap.size w w2) := B1
  clear c0 B1 w1
  obtain ⟨S0, S0d⟩ : ∃ S : World → Prop, S = fun v : World => Blk v w.heap.size #[.int .i64 ha, .int .u64 lo] 24 ∧ Below w.heap.size w v := ⟨_, rfl⟩
  have S0t0 : Stands S0 := by rw [S0d]; exact ((stands_blk _ _ _).and (stands_below _))
  have S0u0 : ∀ v, S0 v → Blk v w.heap.size #[.int .i64 ha, .int .u64 lo] 24 ∧ Below w.heap.size w v := fun v h => by rw [S0d] at h; exact h
  have S0m0 : ∀ v, (Blk v w.heap.size #[.int .i64 ha, .int .u64 lo] 24 ∧ Below w.heap.size w v) → S0 v := fun v h => by rw [S0d]; exact h
  have S0u := Lib.hid S0u0
  have S0m := Lib.hid S0m0
  have S0t := Lib.hid S0t0
  clear S0d S0u0 S0m0 S0t0
  refine wp_region_X (S := S0) (by kernel_rfl) (S0m.out _ ⟨B0.out.1.drew, B0.out.2.drew⟩) ?_
  clear B0
  refine wpX_take (i := 0) (v := ?_) S0t.out rfl rfl (by kernel_rfl) (by kernel_rfl) (by kernel_rfl) (fun _ _ _ h => h) (SteadyX.value (by rfl) ?_) ?_
  rotate_left
  · (intro w_ hS; go_simp; try with_reducible rfl)
  simp only [List.setIfInBounds_toArray, List.set_cons_zero, List.set_cons_succ]
  refine wpX_take (i := 1) (v := ?_) S0t.out rfl rfl (by kernel_rfl) (by kernel_rfl) (by kernel_rfl) (fun _ _ _ h => h) (SteadyX.value (by rfl) ?_) ?_
  rotate_left
  · (intro w_ hS; obtain ⟨q0, q1⟩ := S0u.out _ hS; (have q0 := q0.two); (clear q1); go_simp; try with_reducible rfl)
  simp only [List.setIfInBounds_toArray, List.set_cons_zero, List.set_cons_succ]
  refine wpX_take (i := 2) (v := ?_) S0t.out rfl rfl (by kernel_rfl) (by kernel_rfl) (by kernel_rfl) (fun _ _ _ h => h) (SteadyX.value (by rfl) ?_) ?_
  rotate_left
  · (intro w_ hS; obtain ⟨q0, q1⟩ := S0u.out _ hS; (have q0 := q0.two); (clear q1); go_simp; try with_reducible rfl)
  simp only [List.setIfInBounds_toArray, List.set_cons_zero, List.set_cons_succ]
  refine wpX_take (i := 3) (v := ?_) S0t.out rfl rfl (by kernel_rfl) (by kernel_rfl) (by kernel_rfl) (fun _ _ _ h => h) (SteadyX.value (by rfl) ?_) ?_
  rotate_left
  · (intro w_ hS; go_simp; try with_reducible rfl)
  simp only [List.setIfInBounds_toArray, List.set_cons_zero, List.set_cons_succ]
  refine wpX_take (i := 4) (v := ?_) S0t.out rfl rfl (by kernel_rfl) (by kernel_rfl) (by kernel_rfl) (fun _ _ _ h => h) (SteadyX.value (by rfl) ?_) ?_
  rotate_left
  · (intro w_ hS; obtain ⟨q0, q1⟩ := S0u.out _ hS; (have q0 := q0.two); (clear q1); go_simp; try with_reducible rfl)
  simp only [List.setIfInBounds_toArray, List.set_cons_zero, List.set_cons_succ]
  refine wpX_take (i := 5) (v := ?_) S0t.out rfl rfl (by kernel_rfl) (by kernel_rfl) (by kernel_rfl) (fun _ _ _ h => h) (SteadyX.value (by rfl) ?_) ?_
  rotate_left
  · (intro w_ hS; go_simp; try with_reducible rfl)
  simp only [List.setIfInBounds_toArray, List.set_cons_zero, List.set_cons_succ]
  refine wpX_take (i := 6) (v := ?_) S0t.out rfl rfl (by kernel_rfl) (by kernel_rfl) (by kernel_rfl) (fun _ _ _ h => h) (SteadyX.value (by rfl) ?_) ?_
  rotate_left
  · (intro w_ hS; go_simp; try with_reducible rfl)
  simp only [List.setIfInBounds_toArray, List.set_cons_zero, List.set_cons_succ]
  refine wpX_done (by kernel_rfl) (fun W hS => ?_) _
  obtain ⟨q0, q1⟩ := S0u.out _ hS
  clear hS S0u S0m S0t
  clear S0
  have B1 := Lib.hid q1
  have hWP : w.heap.size ≤ W.heap.size := q1.size
  have HWP := Lib.hid hWP
  clear q0 q1 hWP
  go_wp2
  go_loopw [4, 5, 27] (fun vh vl i wr => ∃ k a b : Nat, k ≤ 5 ∧ i = .int .i64 k ∧ vh = .int .u64 a ∧ vl = .int .u64 b ∧ Hid (a * 18446744073709551616 + b = m / 100000000 ^ k ∧ a < 18446744073709551616 ∧ b < 18446744073709551616) ∧ Hid (Blk wr W.heap.size (partsC m k) 58 ∧ Below w.heap.size w wr)) (fun _ _ i _ => 5 - (intOf i).toNat)
  case atStart =>
    refine ⟨0, hi, lo, by omega, rfl, rfl, rfl, Lib.hid ⟨by rw [hm, Nat.pow_zero, Nat.div_one], hh, hlo⟩, Lib.hid ⟨Blk.new W _ 58, grow_alloc B1.out _⟩⟩
  case round =>
    obtain ⟨k, a, b, hk, rfl, rfl, rfl, HA, B⟩ := hrel
    clear B1
    obtain ⟨P, hP⟩ : ∃ P, P = W.heap.size := ⟨_, rfl⟩
    rw [← hP] at B HWP ⊢
    clear hP
    by_cases hlt : k < 5
    · obtain ⟨ha1, ha2, ha3⟩ := HA.out
      have kd := Div64_0 a ha2
      obtain ⟨q1, hq1⟩ : ∃ q1, a / 100000000 = q1 := ⟨_, rfl⟩
      obtain ⟨r1, hr1⟩ : ∃ r1, a % 100000000 = r1 := ⟨_, rfl⟩
      rw [hq1, hr1] at kd
      have hr1' : r1 < 100000000 := by rw [← hr1]; exact Nat.mod_lt _ (by decide)
      have kd2 := Div64_any r1 b hr1' ha3
      obtain ⟨q2, hq2⟩ : ∃ q2, (r1 * 18446744073709551616 + b) / 100000000 = q2 := ⟨_, rfl⟩
      obtain ⟨r2, hr2⟩ : ∃ r2, (r1 * 18446744073709551616 + b) % 100000000 = r2 := ⟨_, rfl⟩
      rw [hq2, hr2] at kd2
      have hstep : q1 * 18446744073709551616 + q2 = m / 100000000 ^ (k + 1) ∧ r2 = m / 100000000 ^ k % 100000000 ∧ q1 < 18446744073709551616 ∧ q2 < 18446744073709551616 := by
        rw [Nat.pow_succ, ← Nat.div_div_eq_div_mul, ← ha1]
        clear kd kd2 ha1
        omega
      have HS := Lib.hid hstep
      have KD := Lib.hid kd
      have KD2 := Lib.hid kd2
      clear hstep kd kd2 hq1 hr1 hq2 hr2 hr1' ha1 ha2 ha3 HA
      obtain ⟨v, hv⟩ : ∃ v, (partsC m k)[k]? = some v := ⟨_, partsC_get m k k hlt⟩
      go_wp2_with fail
      refine (KD.out _).mono ?_
      rintro e w1 ⟨rfl, hb⟩
      have B2 := Lib.hid (And.intro (B.out.1.grew hb) (grow B.out.2 hb))
      clear hb B
      go_wp2_with fail
      refine (KD2.out _).mono ?_
      rintro e w2 ⟨rfl, hb⟩
      have B3 := Lib.hid (And.intro (B2.out.1.grew hb) (grow B2.out.2 hb))
      clear hb B2
      have cv := B3.out.1.at k hv
      go_wp2
      go_round
      case rel =>
        have e : (partsC m k).setIfInBounds k (.int .u64 (r2 : Int)) = partsC m (k + 1) := by rw [HS.out.2.1]; exact partsC_step m k
        have hB := B3.out.1.set k (.int .u64 (r2 : Int))
        rw [e] at hB
        exact ⟨k + 1, q1, q2, by omega, val_int rfl, rfl, rfl, Lib.hid ⟨HS.out.1, HS.out.2.2.1, HS.out.2.2.2⟩, Lib.hid ⟨hB, B3.out.2.setCell (p := ⟨P, k, none⟩) HWP.out _⟩⟩
      case measure => simp only [intOf]; omega
    · have hk5 : k = 5 := by omega
      subst hk5
      clear HA hlt hk
      have hpv : ∀ j, j < 5 → partN m 5 j = m / 100000000 ^ j % 100000000 := fun j hj => by unfold partN; rw [if_pos hj]
      have hpc : partsC m 5 = #[.int .u64 (partN m 5 0 : Nat), .int .u64 (partN m 5 1 : Nat), .int .u64 (partN m 5 2 : Nat), .int .u64 (partN m 5 3 : Nat), .int .u64 (partN m 5 4 : Nat)] := rfl
      rw [hpc] at B
      clear hpc
      generalize partN m 5 = pv at *
      have HPV := Lib.hid hpv
      have c5 := B.out.1.five
      have hPl : P < wr.heap.size := B.out.1.lt
      clear hpv
      go_wp2
      have hz : Blk (wr.alloc (.cells (digsC m 0) 59)) wr.heap.size (digsC m 0) 59 := Blk.new wr _ 59
      have hg : Below w.heap.size w (wr.alloc (.cells (digsC m 0) 59)) := grow_alloc B.out.2 _
      have HO : Hid (w.heap.size ≤ wr.heap.size) := Lib.hid B.out.2.size
      obtain ⟨O, hO⟩ : ∃ O, O = wr.heap.size := ⟨_, rfl⟩
      rw [← hO] at hz HO ⊢
      clear hO
      have HZ := Lib.hid (And.intro hz hg)
      clear hz hg c5 hPl B
      go_loopw [48] (fun i wq => ∃ k : Nat, k ≤ 5 ∧ i = .int .i64 k ∧ Hid (Blk wq O (digsC m (k * 8)) 59 ∧ Below w.heap.size w wq)) (fun i _ => 5 - (intOf i).toNat)
      case atStart => exact ⟨0, by omega, rfl, HZ⟩
      case round =>
        obtain ⟨k, hk, rfl, B⟩ := hrel
        clear HZ
        by_cases hlt : k < 5
        · have hix : ∀ w : World, (Instr.index 58 (.agg #[.int .u64 (pv 0 : Nat), .int .u64 (pv 1 : Nat), .int .u64 (pv 2 : Nat), .int .u64 (pv 3 : Nat), .int .u64 (pv 4 : Nat)]) (.int .i64 k)).run Try.prog w = .ok (.int .u64 (pv k : Nat)) w := by
            match k, hlt with
            | 0, _ => exact fun _ => by kernel_rfl
            | 1, _ => exact fun _ => by kernel_rfl
            | 2, _ => exact fun _ => by kernel_rfl
            | 3, _ => exact fun _ => by kernel_rfl
            | 4, _ => exact fun _ => by kernel_rfl
          have hpk := HPV.out k hlt
          have HPK := Lib.hid hpk
          clear hpk
          generalize pv k = pk at *
          go_wp2
          go_loopw [14, 52] (fun x i wq => ∃ j y : Nat, j ≤ 8 ∧ i = .int .i64 j ∧ x = .int .u64 y ∧ Hid (y = m / 100000000 ^ k % 100000000 / 10 ^ j ∧ y < 100000000) ∧ Hid (Blk wq O (digsC m (k * 8 + j)) 59 ∧ Below w.heap.size w wq)) (fun _ i _ => 8 - (intOf i).toNat)
          case atStart => exact ⟨0, pk, by omega, rfl, rfl, Lib.hid ⟨by rw [HPK.out, Nat.pow_zero, Nat.div_one], by rw [HPK.out]; exact Nat.mod_lt _ (by decide)⟩, B⟩
          case round =>
            obtain ⟨j, y, hj, rfl, rfl, HY, B2⟩ := hrel
            clear B HPK hix
            by_cases hjl : j < 8
            · have hd := dig_of m k j hjl
              rw [← HY.out.1] at hd
              have hs := digsC_step m (k * 8 + j) (by omega)
              rw [← hd] at hs
              have hy2 : y / 10 = m / 100000000 ^ k % 100000000 / 10 ^ (j + 1) := by rw [HY.out.1, Nat.div_div_eq_div_mul, Nat.pow_succ]
              have HS := Lib.hid hs
              have HY2 := Lib.hid hy2
              obtain ⟨v, hv⟩ : ∃ v, (digsC m (k * 8 + j))[39 - (k * 8 + j)]? = some v := ⟨_, digsC_get m _ _ (by omega)⟩
              have cv := B2.out.1.at _ hv
              have hidx : (39 : Int) - (k : Int) * 8 - (j : Int) = ((39 - (k * 8 + j) : Nat) : Int) := by omega
              have hlt40 : 39 - (k * 8 + j) < 40 := by omega
              obtain ⟨ix, hixx⟩ : ∃ ix, 39 - (k * 8 + j) = ix := ⟨_, rfl⟩
              rw [hixx] at HS hv cv hidx hlt40
              have hdl : y % 10 < 10 := Nat.mod_lt _ (by decide)
              obtain ⟨dg, hdg⟩ : ∃ dg, y % 10 = dg := ⟨_, rfl⟩
              obtain ⟨y2, hyy⟩ : ∃ y2, y / 10 = y2 := ⟨_, rfl⟩
              rw [hdg] at HS hdl
              rw [hyy] at HY2
              have t1 : IntKind.u64.wrap ((y : Int).tmod 10) = (dg : Int) := by rw [← hdg, Int.tmod_eq_emod_of_nonneg (by omega), IntKind.wrap_u64]; omega
              have t1' : (y : Int).tmod 10 = (dg : Int) := by rw [← hdg, Int.tmod_eq_emod_of_nonneg (by omega)]; omega
              have t2 : (y : Int) / 10 = (y2 : Int) := by omega
              have hy8 := HY.out.2
              have hy28 : y2 < 100000000 := by omega
              have t3 : IntKind.u64.wrap (y2 : Int) = (y2 : Int) := u64_of y2 (by omega)
              clear hy8
              clear hd hs hy2 hixx hdg hyy HY
              go_wp2
              go_round
              case rel =>
                have hB := B2.out.1.set ix (.int .u8 (48 + (dg : Int)))
                have e : (digsC m (k * 8 + j)).setIfInBounds ix (.int .u8 (48 + (dg : Int))) = digsC m (k * 8 + (j + 1)) := by
                  rw [← Nat.add_assoc, ← HS.out, Int.natCast_add]; rfl
                rw [e] at hB
                exact ⟨j + 1, y2, by omega, val_int rfl, rfl, Lib.hid ⟨HY2.out, hy28⟩, Lib.hid ⟨hB, B2.out.2.setCell (p := ⟨O, ix, none⟩) HO.out _⟩⟩
              case measure => simp only [intOf]; omega
            · have hj8 : j = 8 := by omega
              subst hj8
              go_wp2
              exact ⟨⟨k + 1, by omega, val_int rfl, by rw [show (k + 1) * 8 = k * 8 + 8 by omega]; exact B2⟩, by simp only [intOf]; omega⟩
        · have hk5 : k = 5 := by omega
          subst hk5
          clear hlt hk HPV
          go_wp2
          go_loopw [16] (fun i wq => ∃ f : Nat, f ≤ 39 ∧ i = .int .i64 f ∧ Hid (trim (digL m) = trim ((digL m).drop f)) ∧ Hid (Blk wq O (digsC m 40) 59 ∧ Below w.heap.size w wq)) (fun i _ => 39 - (intOf i).toNat)
          case atStart => exact ⟨0, by omega, rfl, Lib.hid rfl, B⟩
          case round =>
            obtain ⟨f, hf, rfl, HT, B3⟩ := hrel
            clear B
            by_cases hlt : f < 39
            · have cf := B3.out.1.at f (digsC_get m 40 f (by omega))
              rw [digN_all m f (by omega)] at cf
              by_cases h48 : (digL m)[f]'(by rw [digL_length]; omega) = 48
              · have hst := trim_step (digL m) f (by rw [digL_length]; omega) h48
                have HST := Lib.hid hst
                rw [h48] at cf
                clear hst h48
                go_wp2
                have hms : 39 - ((f : Int) + 1).toNat < 39 - (f : Int).toNat := by omega
                exact ⟨⟨.int .i64 ((f + 1 : Nat) : Int), _, _, _, _, _, _, _, _, _, _, ⟨f + 1, by omega, rfl, Lib.hid (HT.out.trans HST.out), B3⟩, rfl⟩, hms⟩
              · have hst := trim_stop (digL m) f (by rw [digL_length]; omega) h48
                generalize (digL m)[f]'(by rw [digL_length]; omega) = df at *
                have hdf : ¬ (df : Int) = 48 := by omega
                have hcv := run_digits m f (by omega) B3.out.1
                rw [← hst, ← HT.out] at hcv
                have hsl := slice_at O f (by omega)
                have HG := Lib.hid B3.out.2
                clear hst h48 HT B3
                go_wp2
                go_ret
                exact ⟨rfl, HG.out⟩
            · have hf39 : f = 39 := by omega
              subst hf39
              have hcv := run_digits m 39 (by omega) B3.out.1
              rw [← trim_last (digL m) 39 (by rw [digL_length]), ← HT.out] at hcv
              have hsl := slice_at O 39 (by omega)
              have HG := Lib.hid B3.out.2
              clear HT B3
              go_wp2
              go_ret
              exact ⟨rfl, HG.out⟩
end Go.Proofs.Ytogghmmokifnnaa
