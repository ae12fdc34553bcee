/- Walks: pasts. -/
import Derived.Test.YtcgfokeglgaffaaDoorW9
namespace Go.Proofs.YtcgfokeglgaffaaDoor
open Go.RowKit

theorem S_pasts : S pastsP = ⟨#[101, 101, 100, 32, 101, 101, 32, 101, 100, 32, 45, 32, 105, 110, 103, 32, 45]⟩ := by decide +kernel
theorem S_at : S (bs "at") = ⟨#[97, 116]⟩ := by decide +kernel
theorem S_bl : S (bs "bl") = ⟨#[98, 108]⟩ := by decide +kernel
theorem S_iz : S (bs "iz") = ⟨#[105, 122]⟩ := by decide +kernel
theorem S_e : S (bs "e") = ⟨#[101]⟩ := by decide +kernel
/-- pasts' step, and the box behind it. -/
theorem past_step (t : W) (htl : (t.length : Int) ≤ 90000) (hlt : Letters t) (A : Option Addr) (c b : Nat) (w : World) (hA : RsAt w A (rulesL pastsP)) (hb : Blk w b #[.bool false] 4) :
    Calls Tryd.prog 16 #[.string (S t), .slice A (rulesL pastsP).length c, .func (.func 25) #[] #[.pointer (some ⟨b, 0, none⟩)]] w fun e w' =>
      e = .returned (.tuple #[.string (S (stepL t (rulesL pastsP) pastMay).1), .bool (stepL t (rulesL pastsP) pastMay).2]) ∧ Blk w' b #[.bool (pastCut t)] 4 ∧ Below b w w' := by
  have hblt := hb.lt
  obtain ⟨b0, hb0⟩ : ∃ b0, b0 = bestL t (rulesL pastsP) ([], []) := ⟨_, rfl⟩
  have hcut : pastCut t = (decide (b0.1 ≠ [] ∧ b0.1 ≠ bs "eed") && voicedL (t.take (t.length - b0.1.length))) := by rw [hb0]; rfl
  refine (step_any t (by omega) (rulesL pastsP) _ rfl (by have : (rulesL pastsP).length ≤ 1000 := by decide +kernel
                                                          omega) (fun r hr => ⟨by have := (good_pasts r hr).2.2; omega, by have := good_pasts r hr; omega⟩) A c w hA 25 #[.pointer (some ⟨b, 0, none⟩)] (enters_of Tryd.func25 (by kernel_rfl) rfl) pastMay
    (PastQ b b (if b0.1 = bs "eed" then none else some (voicedL (t.take (t.length - b0.1.length))))) (fun w1 w2 h k hk hk2 => h.2.1 k (by omega) hk2) ?_).mono ?_
  · rintro b1 hb1 hne w1 h1
    rw [← hb0] at hb1
    subst hb1
    exact pasts1_any _ _ (hlt.take _) (by rw [List.length_take]; omega) b b (Nat.le_refl _) false w1 (hb.grew h1)
  · rintro e w' ⟨rfl, h⟩
    refine ⟨rfl, ?_⟩
    rw [← hb0] at h
    rcases h with ⟨h1, h2⟩ | ⟨h0, w1, h1, h2⟩
    · have hc : pastCut t = false := by
        rw [hcut]
        have : b0.1 = [] := by simpa using h1
        simp [this]
      rw [hc]
      exact ⟨hb.grew h2, h2.mono (by omega)⟩
    · have hne : b0.1 ≠ [] := by simpa using h0
      refine ⟨?_, (h1.mono (by omega)).trans h2.1⟩
      have h3 := h2.2.2 false (hb.grew h1)
      rw [hcut]
      by_cases he : b0.1 = bs "eed"
      · rw [if_pos he] at h3
        rw [decide_eq_false (fun h => h.2 he)]
        exact h3
      · rw [if_neg he] at h3
        rw [decide_eq_true ⟨hne, he⟩, Bool.true_and]
        exact h3
theorem lsz_last (t : W) (j : Nat) (h : t.length = j + 1) : decide (t[j] = 108 ∨ t[j] = 115 ∨ t[j] = 122) = decide (lastL t 1 = 108 ∨ lastL t 1 = 115 ∨ lastL t 1 = 122) := by
  have : lastL t 1 = t[j].toNat := by unfold lastL; rw [show t.length - 1 = j by omega, List.getElem?_eq_getElem (by omega)]; rfl
  rw [this, decide_eq_decide, ← UInt8.toNat_inj, ← UInt8.toNat_inj, ← UInt8.toNat_inj]; rfl
theorem letters_e : S (bs "e") = ⟨#[101]⟩ := S_e
set_option maxHeartbeats 4000000 in
theorem pasts_any (t : W) (htl : (t.length : Int) ≤ 90000) (hlt : Letters t) (w : World) (ht : Tab w) : Calls Tryd.prog 14 #[.string (S t)] w fun e w' => e = .returned (.string (S (pastsL t))) ∧ Below w.heap.size w w' := by
  have hg0 : Below w.heap.size w (w.alloc (.cells #[.bool false] 4)) := (Below.refl _ _).alloc (Nat.le_refl _) _
  have hk0 := Blk.new w #[.bool false] 4
  have hr := rules_of pastsP told_pasts (w.alloc (.cells #[.bool false] 4)) (ht.grew hg0)
  rw [S_pasts] at hr
  have HR := Lib.hid hr
  obtain ⟨r, hres⟩ : ∃ r, r = stepL t (rulesL pastsP) pastMay := ⟨_, rfl⟩
  obtain ⟨x, hx⟩ : ∃ x, x = r.1 := ⟨_, rfl⟩
  obtain ⟨cu, hcu⟩ : ∃ cu, cu = pastCut t := ⟨_, rfl⟩
  obtain ⟨F, hF⟩ : ∃ F, F = pastsL t := ⟨_, rfl⟩
  have hp : F = if r.2 = false ∨ cu = false then x else if endsL x (bs "at") || endsL x (bs "bl") || endsL x (bs "iz") then x ++ bs "e" else if alikeL x && !decide (lastL x 1 = 108 ∨ lastL x 1 = 115 ∨ lastL x 1 = 122) then x.take (x.length - 1) else if decide (measL x = 1) && closedL x then x ++ bs "e" else x := by rw [hF, hx, hcu, hres]; rfl
  rw [← hF]
  have hgood := step_good t (rulesL pastsP) pastMay good_pasts hlt
  rw [← hres, ← hx] at hgood
  have HS : Hid (∀ (A : Option Addr) (c : Nat) (w1 : World), RsAt w1 A (rulesL pastsP) → Blk w1 w.heap.size #[.bool false] 4 → Calls Tryd.prog 16 #[.string (S t), .slice A (rulesL pastsP).length c, .func (.func 25) #[] #[.pointer (some ⟨w.heap.size, 0, none⟩)]] w1 fun e w' => e = .returned (.tuple #[.string (S x), .bool r.2]) ∧ Blk w' w.heap.size #[.bool cu] 4 ∧ Below w.heap.size w1 w') := Lib.hid (fun A c w1 hA hb => by
    rw [hx, hres, hcu]
    exact past_step t htl hlt A c w.heap.size w1 hA hb)
  obtain ⟨hxl, hxn⟩ := hgood
  have HM := Lib.hid (measure_w x hxl (by omega))
  have HAL := Lib.hid (alike_any x hxl (by omega))
  have HCL := Lib.hid (closed_any x hxl (by omega))
  have ha1 := Suffix_any x (bs "at") (by omega)
  have ha2 := Suffix_any x (bs "bl") (by omega)
  have ha3 := Suffix_any x (bs "iz") (by omega)
  simp only [S_at] at ha1
  simp only [S_bl] at ha2
  simp only [S_iz] at ha3
  have H1 := Lib.hid ha1
  have H2 := Lib.hid ha2
  have H3 := Lib.hid ha3
  have hz := S_size x
  have hcat := S_append x (bs "e")
  rw [S_e] at hcat
  have hzx : (measL x : Int) ≤ 100000 := by have := measL_le x; omega
  obtain ⟨n, hn⟩ : ∃ n, n = x.length := ⟨_, rfl⟩
  have hnb : (n : Int) ≤ 90000 := by omega
  have hal : alikeL x = true → 1 < n := by
    intro h
    unfold alikeL at h
    rw [Bool.and_eq_true, decide_eq_true_eq] at h
    omega
  obtain ⟨L3, hL3⟩ : ∃ L3, L3 = decide (lastL x 1 = 108 ∨ lastL x 1 = 115 ∨ lastL x 1 = 122) := ⟨_, rfl⟩
  rw [← hL3] at hp
  have hcon : ∀ k, n = k + 1 → ∃ y : UInt8, (S x).extract k n = S [y] ∧ ∀ w, Calls Tryd.prog 27 #[.string ⟨#[108, 115, 122]⟩, .string (S [y])] w fun e w' => e = .returned (.bool L3) ∧ w' = w := by
    intro k hk
    obtain ⟨y, hy⟩ : ∃ y, y = x[k]'(by omega) := ⟨_, rfl⟩
    have h1 := drop_last x k (by omega)
    have h2 := lsz_last x k (by omega)
    rw [← hy, ← hn] at h1
    rw [← hy, ← hL3] at h2
    refine ⟨y, h1, fun w => ?_⟩
    have := Contains_one 108 115 122 y w
    rw [index_three, h2] at this
    exact this
  have HF := Lib.hid hp
  have HN := Lib.hid hn
  have HALN := Lib.hid hal
  have HCON := Lib.hid hcon
  have HK0 := Lib.hid (And.intro hk0 hg0)
  rw [← hn] at hz
  clear hr hres hp hlt ht hx hF hxl hxn hn hcu hal hcon hL3 hk0 hg0 ha1 ha2 ha3
  generalize rulesL pastsP = l at *
  obtain ⟨r1, is⟩ := r
  generalize endsL x (bs "at") = s1 at *
  generalize endsL x (bs "bl") = s2 at *
  generalize endsL x (bs "iz") = s3 at *
  generalize measL x = m at *
  generalize alikeL x = al at *
  generalize closedL x = cl at *
  go_enter Tryd.func14, Tryd.ntmps14
  go_wp2_with fail
  refine HR.out.mono ?_
  rintro e w2 ⟨A, c, rfl, hA, hb⟩
  have HC := Lib.hid (HS.out A c w2 hA (HK0.out.1.grew hb))
  have HB := Lib.hid (grow HK0.out.2 hb)
  clear hA hb HR HS
  go_wp2_with fail
  refine HC.out.mono ?_
  rintro e w3 ⟨rfl, hbk, hb3⟩
  have HB3 := Lib.hid (HB.out.trans hb3)
  have fb := hbk.one
  clear hb3 HC hbk
  cases is
  · obtain rfl : F = x := by rw [HF.out]; rfl
    clear HF HM HAL HCL H1 H2 H3 HCON hcat
    go_wp2
    go_ret
    exact ⟨rfl, HB3.out⟩
  cases cu
  · obtain rfl : F = x := by rw [HF.out]; rfl
    clear HF HM HAL HCL H1 H2 H3 HCON hcat
    go_wp2
    go_ret
    exact ⟨rfl, HB3.out⟩
  go_wp2_with fail
  refine (H1.out _).mono ?_
  rintro e w4 ⟨rfl, h_w4⟩
  obtain rfl := h_w4
  cases s1
  rotate_left
  · obtain rfl : F = x ++ bs "e" := by rw [HF.out]; rfl
    clear HF HM HAL HCL H1 H2 H3 HCON
    go_wp2
    go_ret
    exact ⟨rfl, HB3.out⟩
  go_wp2_with fail
  refine (H2.out _).mono ?_
  rintro e w5 ⟨rfl, h_w5⟩
  obtain rfl := h_w5
  cases s2
  rotate_left
  · obtain rfl : F = x ++ bs "e" := by rw [HF.out]; rfl
    clear HF HM HAL HCL H1 H2 H3 HCON
    go_wp2
    go_ret
    exact ⟨rfl, HB3.out⟩
  go_wp2_with fail
  refine (H3.out _).mono ?_
  rintro e w6 ⟨rfl, h_w6⟩
  obtain rfl := h_w6
  cases s3
  rotate_left
  · obtain rfl : F = x ++ bs "e" := by rw [HF.out]; rfl
    clear HF HM HAL HCL H1 H2 H3 HCON
    go_wp2
    go_ret
    exact ⟨rfl, HB3.out⟩
  go_wp2_with fail
  refine (HAL.out _).mono ?_
  rintro e w7 ⟨rfl, hb_w7⟩
  have HB4 := Lib.hid (grow HB3.out hb_w7)
  clear hb_w7
  cases al
  · go_wp2_with fail
    refine (HM.out _).mono ?_
    rintro e w9 ⟨rfl, hb_w9⟩
    have HB5 := Lib.hid (grow HB4.out hb_w9)
    clear hb_w9
    by_cases hm : m = 1
    · have hd : ((m : Int) == 1) = true := by simp; omega
      go_wp2_with fail
      refine (HCL.out _).mono ?_
      rintro e w10 ⟨rfl, hb_w10⟩
      have HB6 := Lib.hid (grow HB5.out hb_w10)
      clear hb_w10
      cases cl
      · obtain rfl : F = x := by rw [HF.out]; rw [decide_eq_true hm]; rfl
        clear HF hcat
        go_wp2
        go_ret
        exact ⟨rfl, HB6.out⟩
      · obtain rfl : F = x ++ bs "e" := by rw [HF.out]; rw [decide_eq_true hm]; rfl
        clear HF 
        go_wp2
        go_ret
        exact ⟨rfl, HB6.out⟩
    · have hd : ((m : Int) == 1) = false := by simp; omega
      obtain rfl : F = x := by rw [HF.out]; rw [decide_eq_false hm]; rfl
      clear HF hcat HCL
      go_wp2
      go_ret
      exact ⟨rfl, HB5.out⟩
  · obtain ⟨k, hk⟩ : ∃ k, n = k + 1 := ⟨n - 1, by have := HALN.out rfl; omega⟩
    obtain ⟨y, hxt, hcy⟩ := HCON.out k hk
    have HCY := Lib.hid hcy
    have htk := take_pred x n k HN.out hk
    have hk2 : (n : Int) - 1 = k := by omega
    have hk3 : (k : Int) ≤ n := by omega
    clear hk hcy HCON
    go_wp2_with fail
    refine (HCY.out _).mono ?_
    rintro e w8 ⟨rfl, h_w8⟩
    obtain rfl := h_w8
    cases L3
    · obtain rfl : F = x.take (x.length - 1) := by rw [HF.out]; rfl
      clear HF HM HCL hcat
      go_wp2
      go_ret
      exact ⟨rfl, HB4.out⟩
    · clear htk
      go_wp2_with fail
      refine (HM.out _).mono ?_
      rintro e w9 ⟨rfl, hb_w9⟩
      have HB5 := Lib.hid (grow HB4.out hb_w9)
      clear hb_w9
      by_cases hm : m = 1
      · have hd : ((m : Int) == 1) = true := by simp; omega
        go_wp2_with fail
        refine (HCL.out _).mono ?_
        rintro e w10 ⟨rfl, hb_w10⟩
        have HB6 := Lib.hid (grow HB5.out hb_w10)
        clear hb_w10
        cases cl
        · obtain rfl : F = x := by rw [HF.out]; rw [decide_eq_true hm]; rfl
          clear HF hcat
          go_wp2
          go_ret
          exact ⟨rfl, HB6.out⟩
        · obtain rfl : F = x ++ bs "e" := by rw [HF.out]; rw [decide_eq_true hm]; rfl
          clear HF 
          go_wp2
          go_ret
          exact ⟨rfl, HB6.out⟩
      · have hd : ((m : Int) == 1) = false := by simp; omega
        obtain rfl : F = x := by rw [HF.out]; rw [decide_eq_false hm]; rfl
        clear HF hcat HCL
        go_wp2
        go_ret
        exact ⟨rfl, HB5.out⟩
end Go.Proofs.YtcgfokeglgaffaaDoor
