/- The reference's Cover at any rect; HashCovers. -/
import Derived.Test.YthinjaddebfdhaaD4
namespace Go.Proofs.Ythinjaddebfdhaa
open Go.RowKit
set_option maxRecDepth 20000

set_option maxHeartbeats 4000000 in
theorem refCover_no (a b c e m : Int) (h : (mayR a b c e && decide (1 ≤ m ∧ m ≤ 64)) = false) (w : World) :
    Calls Try.prog 15 #[.agg #[.int .i64 a, .int .i64 b, .int .i64 c, .int .i64 e], .int .i64 m] w fun r w' => r = .returned (.slice none 0 0) ∧ Below w.heap.size w w' := by
  have hmay := fun w => refMayRect_any a b c e w
  have g0 := grow_alloc (Below.refl w.heap.size w) (.cells #[.int .i64 a, .int .i64 b, .int .i64 c, .int .i64 e] 34)
  have HG := Lib.hid g0
  cases hm : mayR a b c e with
  | false =>
    rw [hm] at hmay
    have HMAY := Lib.hid hmay
    clear hm hmay h g0
    go_enter Try.func15, Try.ntmps15
    go_wp2_with fail
    refine (HMAY.out _).mono ?_
    rintro r w1 ⟨rfl, hb⟩
    have HB := Lib.hid (grow HG.out hb)
    clear hb
    go_wp2
    go_ret
    exact ⟨rfl, HB.out⟩
  | true =>
    rw [hm] at hmay h
    have HMAY := Lib.hid hmay
    have h2 : m < 1 ∨ 64 < m := by simp at h; omega
    clear hm hmay h g0
    by_cases h1 : m < 1
    · have d1 : decide (m < 1) = true := decide_eq_true h1
      clear h2
      go_enter Try.func15, Try.ntmps15
      go_wp2_with fail
      refine (HMAY.out _).mono ?_
      rintro r w1 ⟨rfl, hb⟩
      have HB := Lib.hid (grow HG.out hb)
      clear hb
      go_wp2
      go_ret
      exact ⟨rfl, HB.out⟩
    · have d1 : decide (m < 1) = false := decide_eq_false h1
      have d2 : decide (64 < m) = true := by simp; omega
      have d3 : 64 < m := by omega
      clear h2 h1
      go_enter Try.func15, Try.ntmps15
      go_wp2_with fail
      refine (HMAY.out _).mono ?_
      rintro r w1 ⟨rfl, hb⟩
      have HB := Lib.hid (grow HG.out hb)
      clear hb
      go_wp2
      go_ret
      exact ⟨rfl, HB.out⟩


theorem refCover_any (a b c e m : Int) (w : World) :
    Calls Try.prog 15 #[.agg #[.int .i64 a, .int .i64 b, .int .i64 c, .int .i64 e], .int .i64 m] w fun r w' => ∃ v, r = .returned v ∧ OwnR 41 w' w.heap.size v (coverA a b c e m) ∧ Below w.heap.size w w' := by
  unfold coverA
  cases h : (mayR a b c e && decide (1 ≤ m ∧ m ≤ 64)) with
  | false =>
    refine (refCover_no a b c e m h w).mono ?_
    rintro r w' ⟨rfl, hb⟩
    exact ⟨_, rfl, OwnR.none_ _ _, hb⟩
  | true =>
    rw [Bool.and_eq_true, decide_eq_true_eq] at h
    obtain ⟨n, rfl⟩ := Int.eq_ofNat_of_zero_le (show 0 ≤ m by omega)
    exact Deep.refCover_road a b c e n (mayR_iff.1 h.1) (by omega) (by omega) w

theorem cover_len (a b c e m : Int) : (coverA a b c e m).length ≤ 64 := by
  unfold coverA
  split
  · rename_i h
    rw [Bool.and_eq_true, decide_eq_true_eq] at h
    have h4 := mayR_iff.1 h.1
    have hm : 1 ≤ m.toNat := by omega
    have hf := cells_few h4 _ (coverD_fw (m := m.toNat) h4 hm)
    have hl : (coverS a b c e m.toNat).length = (cellsAt a b c e (coverD a b c e m.toNat)).length := (M.srt_perm _).length_eq
    have := (cover_inv (m := m.toNat) h4).1.len
    omega
  · simp
theorem OwnR.formA {e : TypeId} {w : World} {base : Nat} {v : Value} {l : List M.Rg} (h : OwnR e w base v l) : ∃ A c, v = .slice A l.length c ∧ (l.length = 0 ∨ ∃ g, A = some ⟨g, 0, none⟩) := by
  rcases h.form with ⟨rfl, rfl⟩ | ⟨g, c, rfl, _⟩
  · exact ⟨_, _, rfl, .inl rfl⟩
  · exact ⟨_, _, rfl, .inr ⟨g, rfl⟩⟩

set_option maxHeartbeats 4000000 in
theorem HashCovers_walk (a b c e m : Int) (w : World) :
    Calls Try.prog 5 #[.agg #[.int .i64 a, .int .i64 b, .int .i64 c, .int .i64 e], .int .i64 m] w fun r w' => r = .returned (.bool true) ∧ Below w.heap.size w w' := by
  have k1 := fun w => Cover_any a b c e m w
  have k2 := fun w => refCover_any a b c e m w
  have hl := cover_len a b c e m
  generalize coverA a b c e m = L at *
  have K1 := Lib.hid k1
  have K2 := Lib.hid k2
  have HAW := Lib.hid awake_any
  have b1 := Blk.new w #[.int .i64 a, .int .i64 b, .int .i64 c, .int .i64 e] 34
  have b3 := grow_alloc (Below.refl w.heap.size w) (.cells #[.int .i64 a, .int .i64 b, .int .i64 c, .int .i64 e] 34)
  have HB := Lib.hid (And.intro b1 b3)
  obtain ⟨n, hn⟩ : ∃ n, n = L.length := ⟨_, rfl⟩
  have n2 : (n : Int) ≤ 64 := by omega
  have HN := Lib.hid hn
  have t1 := HB.out.1.four
  clear k1 k2 b1 b3 hn hl
  go_enter Try.func5, Try.ntmps5
  go_wp2_with fail
  refine (K1.out _).mono ?_
  rintro r w1 ⟨v, rfl, ho, hb⟩
  obtain ⟨A, cc, rfl, hA⟩ := ho.formA
  rw [← HN.out] at ho hA ⊢
  have HB1 := Lib.hid (And.intro (HB.out.1.grew hb) (grow HB.out.2 hb))
  have HO1 := Lib.hid ho
  have HA := Lib.hid hA
  clear hb t1 ho HB hA
  have t1 := HB1.out.1.four
  go_wp2_with fail
  refine (K2.out _).mono ?_
  rintro r w2 ⟨v, rfl, ho, hb⟩
  obtain ⟨A2, cc2, rfl, hA2⟩ := ho.formA
  rw [← HN.out] at ho hA2 ⊢
  have G2 := Lib.hid (grow HB1.out.2 hb)
  have HO2 := Lib.hid (HO1.out.below hb)
  have HO3 := Lib.hid ho
  have HA2 := Lib.hid hA2
  clear hb t1 HB1 HO1 ho hA2
  have n4 : (n != n) = false := by simp
  have n5 : ((n : Int) != (n : Int)) = false := by simp
  go_wp2_with fail
  go_loopw [7] (fun i wr => ∃ k : Nat, i = .int .i64 k ∧ k ≤ n ∧ ∃ q, wr = w2.drewN q) (fun i _ => n - (intOf i).toNat)
  case atStart => exact ⟨0, rfl, by omega, 0, rfl⟩
  case round =>
    obtain ⟨k, rfl, hk, q, rfl⟩ := hrel
    by_cases hlt : k < n
    · have hkl : k < L.length := by rw [← HN.out]; exact hlt
      have hg1 : (k : Int) < (n : Int) := by omega
      rcases HA.out with h0 | ⟨g, hAg⟩
      · omega
      rcases HA2.out with h0 | ⟨g2, hAg2⟩
      · omega
      subst hAg
      subst hAg2
      obtain ⟨⟨lk, hi⟩, hr⟩ : ∃ r, r = L[k] := ⟨_, rfl⟩
      have q1 : w2.cell? ⟨g, k * 2, none⟩ = some (.int .u64 (lk : Nat)) ∧ w2.cell? ⟨g, k * 2 + 1, none⟩ = some (.int .u64 (hi : Nat)) := by
        have h := HO2.out
        rw [HN.out] at h
        have h2 := h.get hkl
        rw [← hr] at h2
        exact ⟨h2.1, h2.2.1⟩
      have q2 : w2.cell? ⟨g2, k * 2, none⟩ = some (.int .u64 (lk : Nat)) ∧ w2.cell? ⟨g2, k * 2 + 1, none⟩ = some (.int .u64 (hi : Nat)) := by
        have h := HO3.out
        rw [HN.out] at h
        have h2 := h.get hkl
        rw [← hr] at h2
        exact ⟨h2.1, h2.2.1⟩
      obtain ⟨x1, x2⟩ := q1
      obtain ⟨x3, x4⟩ := q2
      have e1 : ((lk : Int) != (lk : Int)) = false := by simp
      have e2 : ((hi : Int) != (hi : Int)) = false := by simp
      clear hr hkl
      go_wp2_with fail
      go_quiet (fail)
      go_wp2
      go_roundw
      case rel => exact ⟨k + 1, by go_num, by omega, _, rfl⟩
      case measure => simp [intOf]; omega
    · have HG3 := Lib.hid (below_drewN G2.out q)
      have hge : decide ((k : Int) < (n : Int)) = false := by simp; omega
      go_wp2_with fail
      refine (HAW.out _).mono ?_
      rintro r w3 ⟨rfl, hb⟩
      have G3 := Lib.hid (grow HG3.out hb)
      clear hb
      go_wp2
      go_ret
      exact ⟨rfl, G3.out⟩

end Go.Proofs.Ythinjaddebfdhaa
