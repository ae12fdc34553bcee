/- Walks: plurals, ends, pasts. -/
import Derived.Test.YtcgfokeglgaffaaDoorW8
import Derived.Test.YtcgfokeglgaffaaDoorMath2
namespace Go.Proofs.YtcgfokeglgaffaaDoor
open Go.RowKit

/-- A text whose rules can be read. -/
def Told (p : W) : Bool := p.all (fun b => decide (b.toNat < 128)) && decide (p.length ≤ 100000) && (Lib.fields p).all (fun f => decide (f.length ≤ 100000)) && decide ((Lib.fields p).length ≤ 100000)
theorem rules_of (p : W) (hp : Told p = true) (w : World) (ht : Tab w) : Calls Tryd.prog 17 #[.string (S p)] w fun e w' => ∃ A c, e = .returned (.slice A (rulesL p).length c) ∧ RsAt w' A (rulesL p) ∧ Below w.heap.size w w' := by
  unfold Told at hp
  simp only [Bool.and_eq_true, decide_eq_true_eq, List.all_eq_true] at hp
  obtain ⟨⟨⟨h1, h2⟩, h3⟩, h4⟩ := hp
  refine (rules_any p h1 (by omega) (fun f hf => by have := h3 f hf; omega) (by omega) w ht).mono ?_
  rintro e w' ⟨v, rfl, hown, hb⟩
  obtain ⟨A, c, rfl, hA⟩ := hown.form
  exact ⟨A, c, rfl, hA, hb⟩
/-- A step whose condition only grows. -/
theorem step_b (t : W) (htl : (t.length : Int) ≤ 90000) (hlt : Letters t) (l : List Rule) (hg : Good l) (hlen : l.length ≤ 1000) (A : Option Addr) (c : Nat) (w : World) (hA : RsAt w A l) (g : Nat) (caps : Array Value)
    (eg : ∀ args w, (callFunc g args).run Tryd.prog w = .ok (.enter g args) w) (M : W → W → Bool)
    (hmay : ∀ a e, Letters a → (a.length : Int) ≤ 100000 → ∀ w1, Below w.heap.size w w1 → Calls Tryd.prog g (#[.string (S a), .string (S e)] ++ caps) w1 fun r w2 => r = .returned (.bool (M a e)) ∧ Below w1.heap.size w1 w2) :
    Calls Tryd.prog 16 #[.string (S t), .slice A l.length c, .func (.func g) #[] caps] w fun e w' => e = .returned (.tuple #[.string (S (stepL t l M).1), .bool (stepL t l M).2]) ∧ Below w.heap.size w w' := by
  refine (step_any t (by omega) l l.length rfl (by omega) (fun r hr => ⟨by have := (hg r hr).2.2; omega, by have := hg r hr; omega⟩) A c w hA g caps eg M (fun w1 w2 => Below w1.heap.size w1 w2) (fun w1 w2 h k _ hk => h.block k hk) (fun b _ _ w1 h1 => hmay _ _ (hlt.take _) (by rw [List.length_take]; omega) w1 h1)).mono ?_
  rintro e w' ⟨rfl, ⟨_, h⟩ | ⟨_, w1, h1, h2⟩⟩
  · exact ⟨rfl, h⟩
  · exact ⟨rfl, grow h1 h2⟩

theorem told_plurals : Told pluralsP = true := by decide +kernel
theorem told_pasts : Told pastsP = true := by decide +kernel
theorem told_ends : Told endsP = true := by decide +kernel
theorem told_y : Told yP = true := by decide +kernel
theorem S_plurals : S pluralsP = ⟨#[115, 115, 101, 115, 32, 115, 115, 32, 105, 101, 115, 32, 105, 32, 115, 115, 32, 115, 115, 32, 115, 32, 45]⟩ := by decide +kernel
theorem S_ends : S endsP = ⟨#[101, 32, 45]⟩ := by decide +kernel
theorem plurals_any (t : W) (htl : (t.length : Int) ≤ 90000) (hlt : Letters t) (w : World) (ht : Tab w) : Calls Tryd.prog 15 #[.string (S t)] w fun e w' => e = .returned (.string (S (pluralsL t))) ∧ Below w.heap.size w w' := by
  have hr := rules_of pluralsP told_plurals w ht
  rw [S_plurals] at hr
  have HR := Lib.hid hr
  obtain ⟨r, hres⟩ : ∃ r, r = stepL t (rulesL pluralsP) (fun _ _ => true) := ⟨_, rfl⟩
  have hp : pluralsL t = r.1 := by rw [hres]; rfl
  rw [hp]
  have HS : Hid (∀ (A : Option Addr) (c : Nat) (w : World), RsAt w A (rulesL pluralsP) → Calls Tryd.prog 16 #[.string (S t), .slice A (rulesL pluralsP).length c, .func (.func 29) #[] #[]] w fun e w' => e = .returned (.tuple #[.string (S r.1), .bool r.2]) ∧ Below w.heap.size w w') := Lib.hid (fun A c w hA => by
    rw [hres]
    exact step_b t htl hlt _ good_plurals (by decide +kernel) A c w hA 29 #[] (enters_of Tryd.func29 (by kernel_rfl) rfl) _ (fun a e _ _ w1 _ => (plurals1_any (S a) (S e) w1).mono (by rintro r w2 ⟨rfl, rfl⟩; exact ⟨rfl, Below.refl _ _⟩)))
  clear hr hres hp hlt ht
  generalize rulesL pluralsP = l at *
  obtain ⟨r1, r2⟩ := r
  go_enter Tryd.func15, Tryd.ntmps15
  go_wp2_with fail
  refine HR.out.mono ?_
  rintro e w1 ⟨A, c, rfl, hA, hb⟩
  have HC := Lib.hid (HS.out A c w1 hA)
  have HB := Lib.hid hb
  clear hA hb HR HS
  go_wp2_with fail
  refine HC.out.mono ?_
  rintro e w2 ⟨rfl, hb2⟩
  have HB2 := Lib.hid (grow HB.out hb2)
  clear hb2 HC
  go_wp2
  go_ret
  exact ⟨rfl, HB2.out⟩
theorem S_ll : S (bs "ll") = ⟨#[108, 108]⟩ := by decide +kernel
theorem take_pred (t : W) (n m : Nat) (hn : n = t.length) (hm : n = m + 1) : (S t).extract 0 m = S (t.take (t.length - 1)) := by rw [S_take]; congr 1; congr 1; omega
set_option maxHeartbeats 2000000 in
theorem ends_any (t : W) (htl : (t.length : Int) ≤ 90000) (hlt : Letters t) (w : World) (ht : Tab w) : Calls Tryd.prog 24 #[.string (S t)] w fun e w' => e = .returned (.string (S (endsF t))) ∧ Below w.heap.size w w' := by
  have hr := rules_of endsP told_ends w ht
  rw [S_ends] at hr
  have HR := Lib.hid hr
  obtain ⟨r, hres⟩ : ∃ r, r = stepL t (rulesL endsP) lastMay := ⟨_, rfl⟩
  obtain ⟨x, hx⟩ : ∃ x, x = r.1 := ⟨_, rfl⟩
  obtain ⟨F, hF⟩ : ∃ F, F = endsF t := ⟨_, rfl⟩
  have hp : F = if decide (1 < measL x) && endsL x (bs "ll") then x.take (x.length - 1) else x := by rw [hF, hx, hres]; rfl
  rw [← hF]
  have hgood := step_good t (rulesL endsP) lastMay good_ends hlt
  rw [← hres, ← hx] at hgood
  have HS : Hid (∀ (A : Option Addr) (c : Nat) (w : World), RsAt w A (rulesL endsP) → Calls Tryd.prog 16 #[.string (S t), .slice A (rulesL endsP).length c, .func (.func 35) #[] #[]] w fun e w' => e = .returned (.tuple #[.string (S x), .bool r.2]) ∧ Below w.heap.size w w') := Lib.hid (fun A c w hA => by
    rw [hx, hres]
    exact step_b t htl hlt _ good_ends (by decide +kernel) A c w hA 35 #[] (enters_of Tryd.func35 (by kernel_rfl) rfl) _ (fun a e ha hl w1 _ => ends1_any a e ha hl w1))
  obtain ⟨hxl, hxn⟩ := hgood
  have HM := Lib.hid (measure_w x hxl (by omega))
  have hsx := Suffix_any x (bs "ll") (by omega)
  simp only [S_ll] at hsx
  have HX := Lib.hid hsx
  have hz := S_size x
  have hzx : (measL x : Int) ≤ 100000 := by have := measL_le x; omega
  have hpos : 1 < measL x → 0 < x.length := by intro h; have := measL_le x; omega
  obtain ⟨n, hn⟩ : ∃ n, n = x.length := ⟨_, rfl⟩
  have hnb : (n : Int) ≤ 90000 := by omega
  have HP := Lib.hid hp
  have HN := Lib.hid hn
  have HPOS := Lib.hid hpos
  rw [← hn] at hz
  clear hr hres hp hlt ht hx hF hxl hxn hsx hpos hn
  generalize rulesL endsP = l at *
  obtain ⟨r1, r2⟩ := r
  generalize endsL x (bs "ll") = s at *
  generalize measL x = m at *
  go_enter Tryd.func24, Tryd.ntmps24
  go_wp2_with fail
  refine HR.out.mono ?_
  rintro e w1 ⟨A, c, rfl, hA, hb⟩
  have HC := Lib.hid (HS.out A c w1 hA)
  have HB := Lib.hid hb
  clear hA hb HR HS
  go_wp2_with fail
  refine HC.out.mono ?_
  rintro e w2 ⟨rfl, hb2⟩
  have HB2 := Lib.hid (grow HB.out hb2)
  clear hb2 HC
  go_wp2_with fail
  refine (HM.out _).mono ?_
  rintro e w3 ⟨rfl, hb3⟩
  have HB3 := Lib.hid (grow HB2.out hb3)
  clear hb3 HM
  by_cases hm : 1 < m
  · have hd : decide ((1 : Int) < m) = true := decide_eq_true (by omega)
    have hpp := HP.out
    rw [decide_eq_true hm, Bool.true_and] at hpp
    have HPP := Lib.hid hpp
    obtain ⟨k, hk⟩ : ∃ k, n = k + 1 := ⟨n - 1, by have := HPOS.out hm; have := HN.out; omega⟩
    have hxt := take_pred x n k HN.out hk
    have hk2 : (n : Int) - 1 = k := by omega
    have hk3 : (k : Int) ≤ n := by omega
    clear hm hpp HP hk
    go_wp2_with fail
    refine (HX.out _).mono ?_
    rintro e w4 ⟨rfl, hw4⟩
    obtain rfl := hw4
    cases s
    · have hpp := HPP.out
      simp only [Bool.false_eq_true, if_false] at hpp
      subst hpp
      clear HPP
      go_wp2
      go_ret
      exact ⟨rfl, HB3.out⟩
    · have hpp := HPP.out
      simp only [if_true] at hpp
      rw [← hpp] at hxt
      clear HPP hpp
      go_wp2
      go_ret
      exact ⟨rfl, HB3.out⟩
  · have hd : decide ((1 : Int) < m) = false := decide_eq_false (by omega)
    have hpp := HP.out
    rw [decide_eq_false hm, Bool.false_and] at hpp
    simp only [Bool.false_eq_true, if_false] at hpp
    subst hpp
    clear hm HP HX
    go_wp2
    go_ret
    exact ⟨rfl, HB3.out⟩
end Go.Proofs.YtcgfokeglgaffaaDoor
