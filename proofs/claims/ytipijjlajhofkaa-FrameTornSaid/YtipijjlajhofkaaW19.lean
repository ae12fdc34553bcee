/- Walks: FrameTurned. -/
import Derived.Test.YtipijjlajhofkaaTurns
namespace Go.Proofs.Ytipijjlajhofkaa
open Go.RowKit

/-- A byte written into a row of the call's own. -/
theorem Own.store {w : World} {base : Nat} {p : Addr} {n c : Nat} {l : List Nat} (h : Own w base (.slice (some p) n c) l) (k b : Nat) (hb : b < 256) :
    Own (w.setCell (p.add k) (.int .u8 (b : Int))) base (.slice (some p) n c) (l.set k b) ∧ Below base w (w.setCell (p.add k) (.int .u8 (b : Int))) ∧ w.frozen? (p.add k) = false := by
  obtain ⟨h1, h2⟩ := h
  have h3 := h2.2
  rcases h3 with ⟨e, h0⟩ | ⟨g, cap, cur, e, hg, hk, _⟩
  · cases e
  · simp only [Value.slice.injEq, Option.some.injEq] at e
    obtain ⟨rfl, rfl, rfl⟩ := e
    have ea : (⟨g, 0, none⟩ : Addr).add k = ⟨g, k, none⟩ := by
      unfold Addr.add
      by_cases hk : k = 0 <;> simp [hk]
    rw [ea]
    have hs := h2.stored k (.int .u8 (b : Int))
    refine ⟨⟨set_lt h1 hb, ?_⟩, ?_, h2.frozenAt k⟩
    · rw [List.length_set]
      have : cells (l.set k b) = (cells l).set k (.int .u8 (b : Int)) := by
        unfold cells; rw [List.map_set]
      rw [this]
      exact hs.1
    · exact ⟨hs.2.os, hs.2.tape, hs.2.output, hs.2.size, fun j hj => hs.2.block j (by have := lt_of_block hk; omega) (by intro e; simp at e; omega)⟩

theorem Turned_bad (n m E a : Int) (v : Nat) (A : Option Addr) (k : Nat) (c : Nat) (w : World) (hk : (k : Int) ≤ 5000) (hE : E ≠ 0)
    (hB : ∀ w, Calls Try.prog 12 #[.int .i64 n, .int .i64 m, .slice A k c] w fun e w' => e = .returned (.tuple #[.slice none 0 0, .int .i64 E]) ∧ w = w') :
    Calls Try.prog 8 #[.agg #[.int .i64 n, .int .i64 m, .slice A k c, .int .i64 a], .int .u8 v] w fun e w' => e = .returned (.bool true) ∧ Below w.heap.size w w' := by
  have hE' : (E != 0) = true := by simpa using hE
  clear hE
  go_enter Try.func8, Try.ntmps8
  go_wp2_with fail
  refine (hB _).mono ?_
  rintro e w2 ⟨rfl, rfl⟩
  go_wp2_with fail
  refine (awake_any _).mono ?_
  rintro e w4 ⟨rfl, hb4⟩
  go_wp2
  go_ret
  exact ⟨rfl, grow (grow_alloc (Below.refl _ _) _) hb4⟩

theorem Turned_long (n m a : Int) (v : Nat) (A : Option Addr) (k : Nat) (c : Nat) (w : World) (hl : (5000 : Int) < k) :
    Calls Try.prog 8 #[.agg #[.int .i64 n, .int .i64 m, .slice A k c, .int .i64 a], .int .u8 v] w fun e w' => e = .returned (.bool true) ∧ Below w.heap.size w w' := by
  go_enter Try.func8, Try.ntmps8
  go_wp2
  go_ret
  exact ⟨rfl, grow_alloc (Below.refl _ _) _⟩

set_option maxHeartbeats 2000000 in
theorem Turned_ok (n m : Nat) (a : Int) (v : Nat) (A : Option Addr) (l : List Nat) (c : Nat) (w : World) (hr : Rd w w.heap.size A l) (hv : v < 256) (h1 : (64 : Int) ≤ n) (h2 : (n : Int) ≤ 4096) (hm1 : (1 : Int) ≤ m) (hm2 : (m : Int) ≤ 4611686018427387904) (hl : (l.length : Int) ≤ n - 36) :
    Calls Try.prog 8 #[.agg #[.int .i64 n, .int .i64 m, .slice A l.length c, .int .i64 a], .int .u8 v] w fun e w' => e = .returned (.bool true) ∧ Below w.heap.size w w' := by
  have hB := fun w (h : Rd w w.heap.size A l) => Build_ok n m A l c w h h1 h2 hm1 hm2 hl
  have hs := sector_length (n := n) (m := m) (l := l) (by omega)
  have hno := fun k h1 => turned_no n m l k v (by omega) (by omega) (by omega) (by omega) hr.1 h1 hv
  generalize sector n m l = s at *
  have HR := Lib.hid hr
  have HNO := Lib.hid hno
  have HS := Lib.hid hs
  have HBU := Lib.hid hB
  clear hr hno hs hB
  go_enter Try.func8, Try.ntmps8
  go_wp2_with fail
  refine (HBU.out _ ?_).mono ?_
  · exact HR.out.below ((Below.refl _ w).alloc (Nat.le_refl _) _) (by simp)
  rintro e w2 ⟨v2, rfl, ho2, hb2⟩
  have HB2 := Lib.hid (grow (grow_alloc (Below.refl _ w) _) hb2)
  obtain ⟨p2, c2, rfl, -, -⟩ := ho2.at_ n HS.out (by omega)
  have hcap := ho2.cap
  rw [HS.out] at hcap
  have HO := Lib.hid ho2
  have hbox := ((Blk.new w #[.int .i64 n, .int .i64 m, .slice A l.length c, .int .i64 a] 46).grew hb2).cell 3
  clear ho2 hb2
  simp at hbox
  have hn0 : ((n : Int) == 0) = false := by simp; omega
  obtain ⟨k, hkn, hk⟩ : ∃ k : Nat, (k : Int) < n ∧ wrap64 ((IntKind.u64.wrap a).tmod (n : Int)) = (k : Int) := by
    have h0 : 0 ≤ IntKind.u64.wrap a := by rw [IntKind.wrap_u64]; omega
    rw [Int.tmod_eq_emod_of_nonneg h0]
    have hp : (0 : Int) < n := by omega
    have hm0 := Int.emod_nonneg (IntKind.u64.wrap a) (show (n : Int) ≠ 0 by omega)
    have hm1 := Int.emod_lt_of_pos (IntKind.u64.wrap a) hp
    generalize IntKind.u64.wrap a % (n : Int) = z at *
    refine ⟨z.toNat, by omega, ?_⟩
    unfold wrap64
    omega
  have hks : k < s.length := by rw [HS.out]; omega
  obtain ⟨b, hsb, hcell⟩ : ∃ b : Nat, s[k] = b ∧ w2.cell? (p2.add k) = some (.int .u8 ((b : Nat) : Int)) := by
    obtain ⟨A2, c2', e2, r2⟩ := HO.out.form
    injection e2 with e3 e4 e5
    subst e3
    obtain ⟨q, e, _, hc, hb⟩ := r2.get hks
    cases e
    exact ⟨_, rfl, hc⟩
  have hno := HNO.out k hks
  have hst := HO.out.store k v hv
  simp only [hsb] at hno
  by_cases hsv : b = v
  · rw [hsv] at hcell
    clear hno hst
    go_wp2_with fail
    refine (awake_any _).mono ?_
    rintro e w4 ⟨rfl, hb4⟩
    go_wp2
    go_ret
    exact ⟨rfl, grow HB2.out hb4⟩
  · have hbv : ((b : Int) == (v : Int)) = false := by simp; omega
    have hno := hno hsv
    have HN2 := Lib.hid hno
    clear hno hsv
    obtain ⟨hO3, hB3, hfr⟩ := hst
    have HO3 := Lib.hid hO3
    have HB3 := Lib.hid (HB2.out.trans (hB3.mono (by simp)))
    clear hO3 hB3 hsb
    go_wp2_with fail
    have hl3 : (s.set k v).length = n := by rw [List.length_set, HS.out]
    obtain ⟨A3, c3, e2, r3⟩ := HO3.out.form
    injection e2 with e3 e4 e5
    subst e3
    have hRead := Read_any p2 (s.set k v) c2 _ r3 (by rw [hl3]; exact h1) (by rw [hl3]; exact h2) (by rw [hl3]; omega)
    have e5 : readErr (s.set k v) = 5 := by unfold readErr; rw [HN2.out]; rfl
    have e6 : readMark (s.set k v) = 0 := by unfold readMark; rw [HN2.out]; rfl
    rw [hl3, e5, e6] at hRead
    generalize readLoad (s.set k v) = ld at *
    generalize w2.setCell (p2.add k) (.int .u8 (v : Int)) = w3 at *
    refine hRead.mono ?_
    clear hRead r3 e5 e6 e4
    rintro e w4 ⟨v4, rfl, ho4, hb4⟩
    have HB4 := Lib.hid (grow HB3.out hb4)
    clear ho4 hb4
    go_wp2_with fail
    refine (awake_any _).mono ?_
    rintro e w5 ⟨rfl, hb5⟩
    go_wp2
    go_ret
    exact ⟨rfl, grow HB4.out hb5⟩

theorem Turned_any (n m a : Int) (v : Nat) (A : Option Addr) (l : List Nat) (c : Nat) (w : World) (hv : v < 256) (hr : Rd w w.heap.size A l) :
    Calls Try.prog 8 #[.agg #[.int .i64 n, .int .i64 m, .slice A l.length c, .int .i64 a], .int .u8 v] w fun e w' => e = .returned (.bool true) ∧ Below w.heap.size w w' := by
  by_cases h : (l.length : Int) ≤ 5000
  · cases hk : okSize n with
    | false => exact Turned_bad n m 3 a v A l.length c w h (by decide) (fun w => Build_size n m A l.length c w hk)
    | true =>
      by_cases hm : m < 1 ∨ 4611686018427387904 < m
      · exact Turned_bad n m 2 a v A l.length c w h (by decide) (fun w => Build_mark n m A l.length c w hk hm)
      · by_cases hl : n - 36 < (l.length : Int)
        · exact Turned_bad n m 9 a v A l.length c w h (by decide) (fun w => Build_long n m A l.length c w hk (by omega) (by omega) hl)
        · have hn : 64 ≤ n ∧ n ≤ 4096 := by simpa [okSize] using hk
          obtain ⟨N, rfl⟩ := Int.eq_ofNat_of_zero_le (show 0 ≤ n by omega)
          obtain ⟨M', rfl⟩ := Int.eq_ofNat_of_zero_le (show 0 ≤ m by omega)
          exact Turned_ok N M' a v A l c w hr hv hn.1 hn.2 (by omega) (by omega) (by omega)
  · exact Turned_long n m a v A l.length c w (by omega)

end Go.Proofs.Ytipijjlajhofkaa
