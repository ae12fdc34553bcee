/- Walks: WordTexts, WordSigns. -/
import Derived.Test.YtmdmejfcknaokaaDoorW13
namespace Go.Proofs.YtmdmejfcknaokaaDoor
open Go.RowKit

theorem Texts_any (s : ByteArray) (w : World) (ht : Tab w) : Calls Tryd.prog 4 #[.string s] w fun e w' => e = .returned (.bool true) ∧ Below w.heap.size w w' := by
  by_cases hs : 600 < s.size
  · have hs' : (600 : Int) < s.size := by omega
    clear ht
    go_enter Tryd.func4, Tryd.ntmps4
    go_wp2
    go_ret
    exact ⟨rfl, Below.refl _ _⟩
  · have hs' : ¬ (600 : Int) < s.size := by omega
    have h1 := Words_any s (by omega) w
    have h2 := refWords_any s (by omega)
    have hn := words_len s
    generalize wordsL s = l at *
    have H1 := Lib.hid h1
    have H2 := Lib.hid h2
    have HT := Lib.hid ht
    clear h1 h2 ht hs
    go_enter Tryd.func4, Tryd.ntmps4
    go_wp2_with fail
    refine H1.out.mono ?_
    rintro e w1 ⟨v, rfl, hown, hb1⟩
    go_wp2_with fail
    refine (H2.out _).mono ?_
    rintro e w2 ⟨v2, rfl, hown2, hb2⟩
    obtain ⟨A, c, rfl, hA⟩ := (hown.below hb2).form
    obtain ⟨B, d, rfl, hB⟩ := hown2.form
    have HB2 := Lib.hid (grow hb1 hb2)
    have hsm := same_any A B c d l.length l w2 rfl hA hB (by omega)
    have HS := Lib.hid hsm
    clear hsm hA hB hown hown2 hb1 hb2 H1 H2
    go_wp2_with fail
    refine HS.out.mono ?_
    rintro e w3 ⟨rfl, hb3⟩
    have HB3 := Lib.hid (grow HB2.out hb3)
    have HA := Lib.hid (awake_any w3 (HT.out.grew HB3.out))
    clear hb3 HS
    go_wp2_with fail
    refine HA.out.mono ?_
    rintro e w4 ⟨rfl, hb4⟩
    have HB4 := Lib.hid (grow HB3.out hb4)
    clear hb4 HA
    go_wp2
    go_ret
    exact ⟨rfl, HB4.out⟩

theorem Signs_any (c : Int) (hc0 : -2147483648 ≤ c) (hc1 : c ≤ 2147483647) (s : ByteArray) (w : World) (ht : Tab w) : Calls Tryd.prog 3 #[.int .i32 c, .string s] w fun e w' => e = .returned (.bool true) ∧ Below w.heap.size w w' := by
  by_cases hs : 100 < s.size
  · have hs' : (100 : Int) < s.size := by omega
    clear ht
    go_enter Tryd.func3, Tryd.ntmps3
    go_wp2
    go_ret
    exact ⟨rfl, Below.refl _ _⟩
  · have hs' : ¬ (100 : Int) < s.size := by omega
    have H1 := Lib.hid (Fold_any c w)
    have H2 := Lib.hid (FoldR_fold c)
    have HT := Lib.hid ht
    clear ht hs
    generalize fold c = f at *
    have hrf : ((str f).toList == (str f).toList) = true := by simp
    go_enter Tryd.func3, Tryd.ntmps3
    go_wp2_with fail
    refine H1.out.mono ?_
    rintro e w1 ⟨rfl, hb1⟩
    go_wp2_with fail
    refine (H2.out _).mono ?_
    rintro e w2 ⟨rfl, hb2⟩
    have HB2 := Lib.hid (grow hb1 hb2)
    have HS := Lib.hid (Stop_any s w2 (HT.out.grew HB2.out))
    clear hb1 hb2 H1 H2
    go_wp2_with fail
    refine HS.out.mono ?_
    rintro e w3 ⟨rfl, hb3⟩
    have HB3 := Lib.hid (grow HB2.out hb3)
    have HS2 := Lib.hid (refStop_any s w3)
    clear hb3 HS
    go_wp2_with fail
    refine HS2.out.mono ?_
    rintro e w4 ⟨rfl, rfl⟩
    have HA := Lib.hid (awake_any w4 (HT.out.grew HB3.out))
    clear HS2
    generalize StopB s = r at *
    cases r
    all_goals
      go_wp2_with fail
      refine HA.out.mono ?_
      rintro e w4 ⟨rfl, hb4⟩
      have HB4 := Lib.hid (grow HB3.out hb4)
      clear hb4 HA
      go_wp2
      go_ret
      exact ⟨rfl, HB4.out⟩
end Go.Proofs.YtmdmejfcknaokaaDoor
