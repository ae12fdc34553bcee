/- Walks: weights, shares, scores. -/
import Derived.Test.YthdfelhckjeekaaW1
import Derived.Test.YthdfelhckjeekaaW2
namespace Go.Proofs.Ythdfelhckjeekaa
open Go.RowKit

theorem knownB_iff {T df : Int} : knownB T df = true ↔ (1 ≤ T ∧ T ≤ 4294967296) ∧ 1 ≤ df ∧ df ≤ T := by simp [knownB, inB_iff]
theorem countedB_iff {T N tf len : Int} : countedB T N tf len = true ↔ (((1 ≤ T ∧ T ≤ 4294967296) ∧ 0 ≤ N ∧ N ≤ 4503599627370496) ∧ 1 ≤ tf ∧ tf ≤ 1048576) ∧ tf ≤ len ∧ len ≤ 1048576 := by simp [countedB, inB_iff]

def quoN (T df : Int) : Nat := ((T + df) / df).toNat
theorem quoN_spec (T df : Int) (h : knownB T df = true) : ((T + df) / df) = (quoN T df : Int) ∧ 2 ≤ quoN T df ∧ quoN T df ≤ 8589934592 := by
  obtain ⟨⟨a, b⟩, c, d⟩ := knownB_iff.1 h
  have h1 : 2 ≤ (T + df) / df := (Int.le_ediv_iff_mul_le (by omega)).2 (by omega)
  have h2 : (T + df) / df ≤ T + df := Int.ediv_le_self _ (by omega)
  unfold quoN
  omega

def weightZ (T df : Int) : Int := if knownB T df then 1 + (M.logN (quoN T df) : Int) else 0

theorem Log_of (n : Int) (m : Nat) (e : n = m) (hm : m < 18446744073709551616) (L : Nat) (hL : M.logN m = L) (w : World) :
    Calls Try.prog 8 #[.int .u64 n] w fun e w' => e = .returned (.int .i64 L) ∧ Below w.heap.size w w' := by
  subst e; subst hL; exact Log_any m hm w

theorem weight_any (T N df : Int) (w : World) :
    Calls Try.prog 15 #[.agg #[.int .i64 T, .int .i64 N], .int .i64 df] w fun e w' => e = .returned (.int .i64 (weightZ T df)) ∧ Below w.heap.size w w' := by
  cases h : knownB T df
  · have hv : weightZ T df = 0 := by simp [weightZ, h]
    have H := Lib.hid h
    clear h
    rw [hv]
    clear hv
    go_enter Try.func15, Try.ntmps15
    go_wp2_with fail
    refine (known_any _ _ _ _).mono ?_
    rintro e w1 ⟨rfl, hb1⟩
    rw [H.out]
    go_wp2_with fail
    go_ret
    exact ⟨rfl, grow (grow_alloc (Below.refl _ w) _) hb1⟩
  · have hv : weightZ T df = 1 + (M.logN (quoN T df) : Int) := by simp [weightZ, h]
    obtain ⟨q1, q2, q3⟩ := quoN_spec T df h
    obtain ⟨⟨a, b⟩, c, d⟩ := knownB_iff.1 h
    obtain ⟨L, hL, hL'⟩ : ∃ L, M.logN (quoN T df) = L ∧ L < 16384 := ⟨_, rfl, M.logN_lt _ (by omega)⟩
    rw [hv, hL]
    generalize quoN T df = Q at *
    have H := Lib.hid h
    have HQ := Lib.hid q1
    have HL := Lib.hid hL
    clear h hv q1 hL
    go_enter Try.func15, Try.ntmps15
    go_wp2_with fail
    refine (known_any _ _ _ _).mono ?_
    rintro e w1 ⟨rfl, hb1⟩
    have k1 := (Blk.new w #[.int .i64 T, .int .i64 N] 28).grew hb1
    have g1 := grow (grow_alloc (Below.refl _ w) _) hb1
    have kf := k1.two
    rw [H.out]
    go_wp2_with fail
    refine (Log_of _ Q (by rw [HQ.out, IntKind.wrap_u64]; omega) (by omega) L HL.out _).mono ?_
    rintro e w2 ⟨rfl, hb2⟩
    go_wp2_with fail
    go_ret
    exact ⟨rfl, grow g1 hb2⟩

def shareZ (T N tf len : Int) : Int := if countedB T N tf len then 1 + 2200000 * tf / (1000 * tf + 300 + 900 * len * T / max N 1) else 0

/-- The bounds that a share's reckoning stays within. -/
theorem share_bds (T N tf len : Int) (h : countedB T N tf len = true) : 0 ≤ 900 * len * T ∧ 900 * len * T ≤ 4053239664633446400 ∧ 0 ≤ 900 * len * T / max N 1 ∧ 900 * len * T / max N 1 ≤ 4053239664633446400 := by
  obtain ⟨⟨⟨⟨a1, a2⟩, a3, a4⟩, a5, a6⟩, a7, a8⟩ := countedB_iff.1 h
  have h1 : 0 ≤ 900 * len * T := Int.mul_nonneg (by omega) (by omega)
  have h2 : 900 * len * T ≤ 943718400 * 4294967296 := Int.mul_le_mul (by omega) (by omega) (by omega) (by omega)
  have hm : 1 ≤ max N 1 := by omega
  have h3 : 0 ≤ 900 * len * T / max N 1 := Int.ediv_nonneg h1 (by omega)
  have h4 : 900 * len * T / max N 1 ≤ 900 * len * T := Int.ediv_le_self _ h1
  omega

theorem quo_le (a b : Int) (h0 : 0 ≤ a) (h1 : 1 ≤ b) : 0 ≤ a / b ∧ a / b ≤ a := ⟨Int.ediv_nonneg h0 (by omega), Int.ediv_le_self _ h0⟩
theorem share_fin (T N tf len : Int) (b3 : 0 ≤ 900 * len * T / max N 1) (a5 : 1 ≤ tf) (a6 : tf ≤ 1048576) :
    wrap64 (1 + 2200000 * tf / (1000 * tf + 300 + 900 * len * T / max N 1)) = 1 + 2200000 * tf / (1000 * tf + 300 + 900 * len * T / max N 1) := by
  have := quo_le (2200000 * tf) (1000 * tf + 300 + 900 * len * T / max N 1) (by omega) (by omega)
  exact IntWalk.wrap64_in _ (by omega)

theorem share_any (T N tf len : Int) (w : World) :
    Calls Try.prog 16 #[.agg #[.int .i64 T, .int .i64 N], .int .i64 tf, .int .i64 len] w fun e w' => e = .returned (.int .i64 (shareZ T N tf len)) ∧ Below w.heap.size w w' := by
  cases h : countedB T N tf len
  · have hv : shareZ T N tf len = 0 := by simp [shareZ, h]
    have H := Lib.hid h
    rw [hv]
    clear h hv
    go_enter Try.func16, Try.ntmps16
    go_wp2_with fail
    refine (counted_any _ _ _ _ _).mono ?_
    rintro e w1 ⟨rfl, hb1⟩
    rw [H.out]
    go_wp2_with fail
    go_ret
    exact ⟨rfl, grow (grow_alloc (Below.refl _ w) _) hb1⟩
  · have hv : shareZ T N tf len = 1 + 2200000 * tf / (1000 * tf + 300 + 900 * len * T / max N 1) := by simp [shareZ, h]
    obtain ⟨b1, b2, b3, b4⟩ := share_bds T N tf len h
    obtain ⟨⟨⟨⟨a1, a2⟩, a3, a4⟩, a5, a6⟩, a7, a8⟩ := countedB_iff.1 h
    have H := Lib.hid h
    rw [hv]
    clear h hv
    have hw : wrap64 (900 * len * T) = 900 * len * T := IntWalk.wrap64_in _ (by omega)
    go_enter Try.func16, Try.ntmps16
    go_wp2_with fail
    refine (counted_any _ _ _ _ _).mono ?_
    rintro e w1 ⟨rfl, hb1⟩
    have k1 := (Blk.new w #[.int .i64 T, .int .i64 N] 28).grew hb1
    have g1 := grow (grow_alloc (Below.refl _ w) _) hb1
    have kf := k1.two
    rw [H.out]
    go_wp2_with fail
    go_ret
    exact ⟨ret_int (share_fin T N tf len b3 (by omega) (by omega)), g1⟩

def scoreZ (T N df tf len : Int) : Int := if rightB T N df tf len then weightZ T df * shareZ T N tf len else 0

theorem weightZ_bd (T df : Int) : 0 ≤ weightZ T df ∧ weightZ T df ≤ 16384 := by
  unfold weightZ
  cases h : knownB T df
  · simp
  · have := M.logN_lt (quoN T df) (by have := quoN_spec T df h; omega)
    simp only [if_true]
    omega
theorem shareZ_bd (T N tf len : Int) : 0 ≤ shareZ T N tf len ∧ shareZ T N tf len ≤ 2306867200001 := by
  unfold shareZ
  cases h : countedB T N tf len
  · simp
  · obtain ⟨b1, b2, b3, b4⟩ := share_bds T N tf len h
    obtain ⟨⟨⟨⟨a1, a2⟩, a3, a4⟩, a5, a6⟩, a7, a8⟩ := countedB_iff.1 h
    have := quo_le (2200000 * tf) (1000 * tf + 300 + 900 * len * T / max N 1) (by omega) (by omega)
    simp only [if_true]
    omega
theorem mul_bd (a b A B : Int) (a0 : 0 ≤ a) (a1 : a ≤ A) (b0 : 0 ≤ b) (b1 : b ≤ B) : 0 ≤ a * b ∧ a * b ≤ A * B :=
  ⟨Int.mul_nonneg a0 b0, Int.mul_le_mul a1 b1 b0 (by omega)⟩
theorem score_wrap (T N df tf len : Int) : IntKind.i64.wrap (weightZ T df * shareZ T N tf len) = weightZ T df * shareZ T N tf len := by
  obtain ⟨a, b⟩ := weightZ_bd T df
  obtain ⟨c, d⟩ := shareZ_bd T N tf len
  have := mul_bd _ _ _ _ a b c d
  exact IntWalk.i64_in _ (by omega)

theorem score_any (T N df tf len : Int) (w : World) :
    Calls Try.prog 17 #[.agg #[.int .i64 T, .int .i64 N], .int .i64 df, .int .i64 tf, .int .i64 len] w fun e w' => e = .returned (.int .i64 (scoreZ T N df tf len)) ∧ Below w.heap.size w w' := by
  cases h : rightB T N df tf len
  · have hv : scoreZ T N df tf len = 0 := by simp [scoreZ, h]
    have H := Lib.hid h
    rw [hv]
    clear h hv
    go_enter Try.func17, Try.ntmps17
    go_wp2_with fail
    refine (right_any _ _ _ _ _ _).mono ?_
    rintro e w1 ⟨rfl, hb1⟩
    rw [H.out]
    go_wp2_with fail
    go_ret
    exact ⟨rfl, grow (grow_alloc (Below.refl _ w) _) hb1⟩
  · have hv : scoreZ T N df tf len = weightZ T df * shareZ T N tf len := by simp [scoreZ, h]
    have hs := score_wrap T N df tf len
    have c1 := fun w => weight_any T N df w
    have c2 := fun w => share_any T N tf len w
    rw [hv]
    generalize weightZ T df = A at *
    generalize shareZ T N tf len = B at *
    have H := Lib.hid h
    have C1 := Lib.hid c1
    have C2 := Lib.hid c2
    clear h hv c1 c2
    go_enter Try.func17, Try.ntmps17
    go_wp2_with fail
    refine (right_any _ _ _ _ _ _).mono ?_
    rintro e w1 ⟨rfl, hb1⟩
    have k1 := (Blk.new w #[.int .i64 T, .int .i64 N] 28).grew hb1
    have g1 := grow (grow_alloc (Below.refl _ w) _) hb1
    obtain ⟨kf0, kf1, -, -⟩ := k1.two
    have ks : ∀ a b : World, Below a.heap.size a b → (a.cell? ⟨w.heap.size, 0, none⟩ = some (.int .i64 T) ∧ a.cell? ⟨w.heap.size, 1, none⟩ = some (.int .i64 N) ∧ Below w.heap.size w a) →
        (b.cell? ⟨w.heap.size, 0, none⟩ = some (.int .i64 T) ∧ b.cell? ⟨w.heap.size, 1, none⟩ = some (.int .i64 N) ∧ Below w.heap.size w b) :=
      fun a b hb hs => ⟨cell_grew hs.1 hb, cell_grew hs.2.1 hb, grow hs.2.2 hb⟩
    have KS := Lib.hid ks
    clear ks
    rw [H.out]
    clear k1 hb1
    go_wp2_with fail
    go_region_held3 (fun w' => w'.cell? ⟨w.heap.size, 0, none⟩ = some (.int .i64 T) ∧ w'.cell? ⟨w.heap.size, 1, none⟩ = some (.int .i64 N) ∧ Below w.heap.size w w')
      (first | exact ⟨kf0, kf1, g1.drew⟩ | exact KS.out _ _ (by assumption) (by assumption))
      (first | (go_at_call 15; refine (C1.out _).mono ?_; rintro e w' ⟨rfl, hb⟩) | (go_at_call 16; refine (C2.out _).mono ?_; rintro e w' ⟨rfl, hb⟩))
    go_wp2
    go_ret
    exact ⟨rfl, (‹_ ∧ _ ∧ Below w.heap.size w _›).2.2⟩

theorem rWeight_of (hl : ∀ (n : Int) (m : Nat) (_ : n = m) (_ : m < 18446744073709551616) (L : Nat) (_ : M.logN m = L) (w : World), Calls Try.prog 9 #[.int .u64 n] w fun e w' => e = .returned (.int .i64 L) ∧ Below w.heap.size w w') (T N df : Int) (w : World) :
    Calls Try.prog 13 #[.agg #[.int .i64 T, .int .i64 N], .int .i64 df] w fun e w' => e = .returned (.int .i64 (weightZ T df)) ∧ Below w.heap.size w w' := by
  have HLL := Lib.hid hl
  clear hl
  cases h : knownB T df
  · have hv : weightZ T df = 0 := by simp [weightZ, h]
    have H := Lib.hid h
    clear h
    rw [hv]
    clear hv
    go_enter Try.func13, Try.ntmps13
    go_wp2_with fail
    refine (rKnown_any _ _ _ _).mono ?_
    rintro e w1 ⟨rfl, hb1⟩
    rw [H.out]
    go_wp2_with fail
    go_ret
    exact ⟨rfl, grow (grow_alloc (Below.refl _ w) _) hb1⟩
  · have hv : weightZ T df = 1 + (M.logN (quoN T df) : Int) := by simp [weightZ, h]
    obtain ⟨q1, q2, q3⟩ := quoN_spec T df h
    obtain ⟨⟨a, b⟩, c, d⟩ := knownB_iff.1 h
    obtain ⟨L, hL, hL'⟩ : ∃ L, M.logN (quoN T df) = L ∧ L < 16384 := ⟨_, rfl, M.logN_lt _ (by omega)⟩
    rw [hv, hL]
    generalize quoN T df = Q at *
    have H := Lib.hid h
    have HQ := Lib.hid q1
    have HL := Lib.hid hL
    clear h hv q1 hL
    go_enter Try.func13, Try.ntmps13
    go_wp2_with fail
    refine (rKnown_any _ _ _ _).mono ?_
    rintro e w1 ⟨rfl, hb1⟩
    have k1 := (Blk.new w #[.int .i64 T, .int .i64 N] 30).grew hb1
    have g1 := grow (grow_alloc (Below.refl _ w) _) hb1
    have kf := k1.two
    rw [H.out]
    go_wp2_with fail
    refine (HLL.out _ Q (by rw [HQ.out, IntKind.wrap_u64]; omega) (by omega) L HL.out _).mono ?_
    rintro e w2 ⟨rfl, hb2⟩
    go_wp2_with fail
    go_ret
    exact ⟨rfl, grow g1 hb2⟩

theorem rShare_any (T N tf len : Int) (w : World) :
    Calls Try.prog 14 #[.agg #[.int .i64 T, .int .i64 N], .int .i64 tf, .int .i64 len] w fun e w' => e = .returned (.int .i64 (shareZ T N tf len)) ∧ Below w.heap.size w w' := by
  cases h : countedB T N tf len
  · have hv : shareZ T N tf len = 0 := by simp [shareZ, h]
    have H := Lib.hid h
    rw [hv]
    clear h hv
    go_enter Try.func14, Try.ntmps14
    go_wp2_with fail
    refine (rCounted_any _ _ _ _ _).mono ?_
    rintro e w1 ⟨rfl, hb1⟩
    rw [H.out]
    go_wp2_with fail
    go_ret
    exact ⟨rfl, grow (grow_alloc (Below.refl _ w) _) hb1⟩
  · have hv : shareZ T N tf len = 1 + 2200000 * tf / (1000 * tf + 300 + 900 * len * T / max N 1) := by simp [shareZ, h]
    obtain ⟨b1, b2, b3, b4⟩ := share_bds T N tf len h
    obtain ⟨⟨⟨⟨a1, a2⟩, a3, a4⟩, a5, a6⟩, a7, a8⟩ := countedB_iff.1 h
    have hf := share_fin T N tf len b3 (by omega) (by omega)
    have H := Lib.hid h
    have HF := Lib.hid hf
    rw [hv]
    clear h hv hf
    have hw : wrap64 (900 * len * T) = 900 * len * T := IntWalk.wrap64_in _ (by omega)
    by_cases hN : N < 1
    · have hmx : max N 1 = 1 := by omega
      rw [hmx] at HF b3 b4 ⊢
      clear hmx
      have h1 : (900 * len * T) / 1 = 900 * len * T := Int.ediv_one _
      rw [h1] at HF b3 b4 ⊢
      clear h1
      go_enter Try.func14, Try.ntmps14
      go_wp2_with fail
      refine (rCounted_any _ _ _ _ _).mono ?_
      rintro e w1 ⟨rfl, hb1⟩
      have k1 := (Blk.new w #[.int .i64 T, .int .i64 N] 30).grew hb1
      have g1 := grow (grow_alloc (Below.refl _ w) _) hb1
      have kf := k1.two
      rw [H.out]
      go_wp2_with fail
      go_ret
      exact ⟨ret_int HF.out, g1⟩
    · have hmx : max N 1 = N := by omega
      rw [hmx] at HF b3 b4 ⊢
      clear hmx
      go_enter Try.func14, Try.ntmps14
      go_wp2_with fail
      refine (rCounted_any _ _ _ _ _).mono ?_
      rintro e w1 ⟨rfl, hb1⟩
      have k1 := (Blk.new w #[.int .i64 T, .int .i64 N] 30).grew hb1
      have g1 := grow (grow_alloc (Below.refl _ w) _) hb1
      have kf := k1.two
      rw [H.out]
      go_wp2_with fail
      go_ret
      exact ⟨ret_int HF.out, g1⟩

end Go.Proofs.Ythdfelhckjeekaa
