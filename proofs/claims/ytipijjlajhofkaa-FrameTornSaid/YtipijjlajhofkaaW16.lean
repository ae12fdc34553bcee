/- Walks: the document's Read. -/
import Derived.Test.YtipijjlajhofkaaW15
namespace Go.Proofs.Ytipijjlajhofkaa
open Go.RowKit

set_option maxHeartbeats 1000000 in
theorem refRead_size (A : Option Addr) (n c : Nat) (w : World) (h : okSize n = false) :
    Calls Try.prog 17 #[.slice A n c] w fun e w' => e = .returned (.tuple #[.int .i64 0, .slice none 0 0, .int .i64 3]) ∧ w = w' := by
  have h : ¬ (64 ≤ (n : Int) ∧ (n : Int) ≤ 4096) := by simpa [okSize] using h
  by_cases h1 : (n : Int) < 64
  · go_enter Try.func17, Try.ntmps17
    go_wp2
    go_ret3
    exact ⟨rfl, rfl⟩
  · have h2 : (4096 : Int) < n := by omega
    clear h
    go_enter Try.func17, Try.ntmps17
    go_wp2
    go_ret3
    exact ⟨rfl, rfl⟩

theorem str_ne {a b : ByteArray} (h : ¬ a = b) : (a.toList == b.toList) = false := by
  rw [ByteArray.toList_eq, ByteArray.toList_eq, beq_eq_false_iff_ne]
  exact fun e => h (Go.WideShapes.bytes_inj e)
theorem num_drop (l : List Nat) (j : Nat) (h : j < l.length) : num (l.drop j) = l[j] + 256 * num (l.drop (j + 1)) := by
  rw [List.drop_eq_getElem_cons h]; rfl

set_option maxHeartbeats 2000000 in
theorem refRead_road (p : Addr) (l : List Nat) (n c : Nat) (w : World) (hn : l.length = n) (hr : Rd w w.heap.size (some p) l) (h1 : (64 : Int) ≤ n) (h2 : (n : Int) ≤ 4096) (hc : (n : Int) ≤ c)
    (E : Int) (s : List Nat) (G : Bool) (m : Nat) (hm : num (l.take 8) = m)
    (hG1 : ∀ j, j ≤ 8 → 1 ≤ j → (18014398509481984 : Int) < (num ((l.take 8).drop j) : Nat) → G = false)
    (hG2 : E ≠ 0 → G = false) (hG3 : E = 0 → G = decide (str s = str l))
    (hR : ∀ (w : World) (A : Option Addr) (c : Nat), Rd w w.heap.size A ((l.take (n - 20)).drop 16) → Calls Try.prog 13 #[.int .i64 n, .int .i64 m, .slice A (n - 20 - 16) c] w fun e w' => ∃ v', e = .returned (.tuple #[v', .int .i64 E]) ∧ Own w' w.heap.size v' s ∧ Below w.heap.size w w') :
    Calls Try.prog 17 #[.slice (some p) n c] w fun e w' => ∃ v', e = .returned (.tuple #[.int .i64 (if G then m else 0), v', .int .i64 (if G then 0 else 5)]) ∧ Own w' w.heap.size v' (if G then (l.take (n - 20)).drop 16 else []) ∧ Below w.heap.size w w' := by
  have HR := Lib.hid hr
  have HG1 := Lib.hid hG1
  have HG2 := Lib.hid hG2
  have HG3 := Lib.hid hG3
  have HN := Lib.hid hn
  have HM := Lib.hid hm
  have HRB := Lib.hid hR
  clear hr hG1 hG2 hG3 hn hm hR
  go_enter Try.func17, Try.ntmps17
  go_wp2
  go_loop [5, 6] (fun x i => ∃ k : Nat, k ≤ 8 ∧ i = .int .i64 ((k : Int) - 1) ∧ x = .int .i64 (num ((l.take 8).drop k) : Nat)) (fun _ i => (intOf i + 1).toNat)
  case atStart => exact ⟨8, by omega, rfl, val_int (by rw [List.drop_eq_nil_of_le (by simp; omega)]; rfl)⟩
  case round =>
    obtain ⟨k, hk, rfl, rfl⟩ := hrel
    by_cases h0 : k = 0
    · subst h0
      have e0 : num ((l.take 8).drop 0) = m := HM.out
      rw [e0]
      have hL : ((l.take (n - 20)).drop 16).length = n - 20 - 16 := by simp [HN.out]
      have ha16 : p.add 16 = ⟨p.block, p.off + 16, none⟩ := by
        show (if _ then _ else _) = _
        simp
      have hr16 := ((HR.out.take_ (n - 20)).drop_ 16)
      rw [ha16] at hr16
      obtain ⟨v1, w1, hrun, ho, hb⟩ := run_copy (c - 16) hr16 (by omega)
      obtain ⟨A1, c1, rfl, hr1⟩ := ho.form
      have hB := HRB.out w1 A1 c1 hr1
      have HRW := Lib.hid (HR.out.below hb hb.size)
      rw [hL] at *
      have RUN := Lib.hid hrun
      have HO := Lib.hid ho
      have HB := Lib.hid hb
      clear hrun ho hb hr1 hr16 hL ha16 e0
      generalize hld : (l.take (n - 20)).drop 16 = ld at *
      have HLD := Lib.hid hld
      clear hld
      go_wp2_with (at_builtin; refine Lib.wpList_append_run _ rfl (.tmp 32) (.tmp 37) 22 22 rfl _ _ rfl rfl _ w1 RUN.out ?_)
      refine hB.mono ?_
      clear hB
      rintro e w2 ⟨v2, rfl, ho2, hb2⟩
      have HO2 := Lib.hid ho2
      have HB2 := Lib.hid hb2
      clear ho2 hb2
      by_cases hE : E = 0
      · subst hE
        have hg := HG3.out rfl
        obtain ⟨A2, c2, rfl, r2⟩ := HO2.out.form
        have k2 := run_str c2 r2
        have k3 := run_str c (HRW.out.below HB2.out HB2.out.size)
        rw [HN.out] at k3
        by_cases hs : str s = str l
        · have hg' : G = true := by rw [hg]; simpa using hs
          subst hg'
          rw [hs] at k2
          clear hg hs r2
          generalize str l = S at *
          go_wp2
          go_ret3
          exact ⟨_, rfl, by show Own w2 w.heap.size _ ((l.take (n - 20)).drop 16); rw [HLD.out]; exact HO.out.below HB2.out, grow HB.out HB2.out⟩
        · have hg' : G = false := by rw [hg]; simpa using hs
          subst hg'
          have hne := str_ne hs
          clear hg hs r2
          generalize str l = S at *
          generalize str s = S2 at *
          go_wp2
          go_ret3
          exact ⟨_, rfl, Own.none_ _ _, grow HB.out HB2.out⟩
      · have hg := HG2.out hE
        subst hg
        have hE' : (E != 0) = true := by simpa using hE
        go_wp2
        go_ret3
        exact ⟨_, rfl, Own.none_ _ _, grow HB.out HB2.out⟩
    · obtain ⟨j, rfl⟩ : ∃ j, k = j + 1 := ⟨k - 1, by omega⟩
      have hx0 : (0 : Int) ≤ (num ((l.take 8).drop (j + 1)) : Nat) := by omega
      by_cases hbig : (18014398509481984 : Int) < (num ((l.take 8).drop (j + 1)) : Nat)
      · have hg := HG1.out (j + 1) hk (by omega) hbig
        subst hg
        generalize ((num ((l.take 8).drop (j + 1)) : Nat) : Int) = x at *
        go_wp2
        go_ret3
        exact ⟨_, rfl, Own.none_ _ _, Below.refl _ _⟩
      · have hlen := HN.out
        have hj : j < l.length := by omega
        obtain ⟨q, e, _, hcell, hb⟩ := HR.out.get hj
        cases e
        have hstep : (num ((l.take 8).drop j) : Nat) = 256 * ((num ((l.take 8).drop (j + 1)) : Nat) : Int) + (l[j] : Nat) := by
          have := num_drop (l.take 8) j (by simp; omega)
          rw [List.getElem_take] at this
          omega
        have HS := Lib.hid hstep
        clear hstep hlen
        have e1 : ((j + 1 : Nat) : Int) - 1 = j := by omega
        rw [e1]
        clear e1
        generalize l[j] = b at *
        generalize ((num ((l.take 8).drop (j + 1)) : Nat) : Int) = x at *
        go_wp2
        go_round
        case rel => exact ⟨j, by omega, val_int rfl, val_int HS.out.symm⟩
        case measure => simp [intOf]
end Go.Proofs.Ytipijjlajhofkaa
