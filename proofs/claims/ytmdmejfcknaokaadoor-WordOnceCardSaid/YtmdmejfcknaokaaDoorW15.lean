/- Walks: WordOnce. -/
import Derived.Test.YtmdmejfcknaokaaDoorW13
import Derived.Test.YtmdmejfcknaokaaDoorMath5
namespace Go.Proofs.YtmdmejfcknaokaaDoor
open Go.RowKit

/-- What is known of a text's words. -/
theorem words_know (s : ByteArray) : (∀ w ∈ wordsL s, w.2.1 < w.2.2 ∧ w.2.2 ≤ s.size ∧ w.1.length ≤ 32 ∧ w.1 ≠ [] ∧ wordsL (str w.1) = [(w.1, 0, w.1.length)] ∧ wordsL (s.extract w.2.1 w.2.2) = [(w.1, 0, w.2.2 - w.2.1)]) ∧ (wordsL s).Pairwise (fun x y => x.2.2 ≤ y.2.1) := by
  have h := words_from s s.size 0 (by omega) (by omega)
  refine ⟨fun w hw => ?_, h.2⟩
  obtain ⟨a, _, ha, hf, rfl⟩ := h.1 w hw
  obtain ⟨h1, h2, h3⟩ := runW_ok s a ha hf
  have e1 := endW_go s a ⟨ha, hf⟩
  have hp := sign_pos s a
  have hle := endW_le s s.size (a + (signR s a).2) (by omega) (sign_end s a ha)
  exact ⟨by show a < endW s a; omega, by show endW s a ≤ s.size; omega, h2, h3, words_once _ h1 h2 h3, words_cut s a ha hf⟩

set_option maxHeartbeats 2000000 in
set_option maxRecDepth 20000 in
theorem Once_any (s : ByteArray) (w : World) (ht : Tab w) : Calls Tryd.prog 5 #[.string s] w fun e w' => e = .returned (.bool true) ∧ Below w.heap.size w w' := by
  by_cases hs : 600 < s.size
  · have hs' : (600 : Int) < s.size := by omega
    clear ht
    go_enter Tryd.func5, Tryd.ntmps5
    go_wp2
    go_ret
    exact ⟨rfl, Below.refl _ _⟩
  · have hs' : ¬ (600 : Int) < s.size := by omega
    have h1 := Words_any s (by omega) w
    have hn := words_len s
    have hk := words_know s
    generalize wordsL s = l at *
    have H1 := Lib.hid h1
    have HK := Lib.hid hk
    have HT := Lib.hid ht
    have HN := Lib.hid hn
    clear h1 ht hs hk hn
    go_enter Tryd.func5, Tryd.ntmps5
    go_wp2_with fail
    refine H1.out.mono ?_
    rintro e w1 ⟨v, rfl, hown, hb1⟩
    obtain ⟨A, c, rfl, hA⟩ := hown.form
    have HA := Lib.hid hA
    have HB1 := Lib.hid hb1
    have hlen : (l.length : Int) ≤ 1000 := by have := HN.out; omega
    obtain ⟨n, hn⟩ : ∃ n, n = l.length := ⟨_, rfl⟩
    rw [← hn] at hlen ⊢
    have HLN := Lib.hid hn
    clear hA hown H1 hb1 hn
    go_wp2_with fail
    go_loopw [4] (fun i wr => ∃ k : Nat, k ≤ n ∧ i = .int .i64 k ∧ Hid (Below w1.heap.size w1 wr)) (fun i _ => n - (intOf i).toNat)
    case atStart => exact ⟨0, by omega, rfl, Lib.hid (Below.refl _ _)⟩
    case round =>
      obtain ⟨k, hk, rfl, HB⟩ := hrel
      by_cases hlt : k < n
      · have hkl : k < l.length := by rw [← HLN.out]; exact hlt
        obtain ⟨p, hp, _, a1, a2, a3⟩ := (HA.out.grew HB.out).get hkl
        cases hp
        have hx := HK.out.1 _ (List.getElem_mem hkl)
        have hlt' : (k : Int) < n := by omega
        obtain ⟨x, hxe⟩ : ∃ x, x = l[k] := ⟨_, rfl⟩
        rw [← hxe] at a1 a2 a3 hx
        obtain ⟨t, f, e⟩ := x
        simp only at a1 a2 a3 hx
        obtain ⟨b1, b2, b3, b4, b5, b6⟩ := hx
        clear b6
        have hz := str_size t
        have hw := Words_any (str t) (by omega) wr
        rw [b5] at hw
        have HW := Lib.hid hw
        have HXE := Lib.hid hxe
        have HB4 := Lib.hid b4
        clear b4 b5 hw hxe
        go_wp2_with fail
        refine HW.out.mono ?_
        rintro e' w2 ⟨v2, rfl, hown2, hb2⟩
        obtain ⟨g, c2, rfl, hg, hc⟩ := hown2.at_ (by simp)
        have q := hc 0 (by simp)
        simp only [List.getElem_cons_zero, List.length_cons, List.length_nil, Nat.zero_add, Nat.zero_mul] at q ⊢
        obtain ⟨q1, q2, q3⟩ := q
        replace a1 := cell_grew a1 hb2
        replace a2 := cell_grew a2 hb2
        replace a3 := cell_grew a3 hb2
        have HB3 := Lib.hid (grow HB.out hb2)
        clear hown2 hc hb2 HW
        have g1 : decide (e ≤ f) = false := decide_eq_false (by omega)
        have g2 : decide ((32 : Int) < t.length) = false := decide_eq_false (by omega)
        have g3 : (str t).toList.isEmpty = false := by rw [str_none]; exact decide_eq_false HB4.out
        have hb3 : (t.length : Int) ≤ 32 := by omega
        have hfb : (f : Int) ≤ 1000 := by omega
        clear b3
        go_wp2_with fail
        go_quiet (fail)
        by_cases hk0 : 0 < k
        · obtain ⟨m, hm⟩ : ∃ m, k = m + 1 := ⟨k - 1, by omega⟩
          have hml : m < l.length := by omega
          obtain ⟨p', hp, a3', a4, a5, a6⟩ := ((HA.out.grew HB3.out).get hml)
          cases hp
          clear a3' a4 a5
          have hord := List.pairwise_iff_getElem.1 HK.out.2 m k hml hkl (by omega)
          rw [← HXE.out] at hord
          obtain ⟨e0, he0⟩ : ∃ e0, e0 = l[m].2.2 := ⟨_, rfl⟩
          rw [← he0] at a6 hord
          have g5 : IntKind.i64.wrap ((k : Int) - 1) = (m : Int) := by rw [IntKind.wrap_i64]; omega
          have g6 : decide ((f : Int) ≤ (e0 : Int) - 1) = false := decide_eq_false (by have : e0 ≤ f := hord; omega)
          have g7 : (e0 : Int) ≤ 1000 := by have : e0 ≤ f := hord; omega
          have g8 : decide (0 < k) = true := decide_eq_true (by omega)
          have hmn : (m : Int) < n := by omega
          clear he0 hord hm hk0 hml
          go_wp2_with fail
          go_quiet (fail)
          clear g5 g6 g7 g8 hmn
          go_wp2
          go_roundw
          case rel => exact ⟨k + 1, by omega, by go_num, Lib.hid (below_drewN HB3.out _)⟩
          case measure => simp [intOf]; omega
        · have g8 : decide (0 < k) = false := decide_eq_false (by omega)
          go_wp2_with fail
          go_quiet (fail)
          clear g8
          go_wp2
          go_roundw
          case rel => exact ⟨k + 1, by omega, by go_num, Lib.hid (below_drewN HB3.out _)⟩
          case measure => simp [intOf]; omega
      · have hlt' : ¬ (k : Int) < n := by omega
        have HAW := Lib.hid (awake_any wr (HT.out.grew (grow HB1.out HB.out)))
        go_wp2_with fail
        refine HAW.out.mono ?_
        rintro e w4 ⟨rfl, hb4⟩
        have HB4 := Lib.hid (grow (grow HB1.out HB.out) hb4)
        clear hb4 HAW
        go_wp2
        go_ret
        exact ⟨rfl, HB4.out⟩
end Go.Proofs.YtmdmejfcknaokaaDoor
