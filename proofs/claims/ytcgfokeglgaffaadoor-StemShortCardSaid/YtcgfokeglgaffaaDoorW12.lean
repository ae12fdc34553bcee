/- Walks: Stem. -/
import Derived.Test.YtcgfokeglgaffaaDoorW11
namespace Go.Proofs.YtcgfokeglgaffaaDoor
open Go.RowKit

def tb (k : Nat) : W := tabP.getD k []
theorem told_tab : ∀ i < 3, Told (tb i) = true := by decide +kernel
theorem tables_any (w : World) : Calls Tryd.prog 20 #[] w fun e w' => e = .returned (.agg #[.string (S (tb 0)), .string (S (tb 1)), .string (S (tb 2))]) ∧ Below w.heap.size w w' := by
  have hg0 : ∀ o, Below w.heap.size w (w.alloc o) := fun o => (Below.refl _ _).alloc (Nat.le_refl _) _
  go_enter Tryd.func20, Tryd.ntmps20
  go_wp2
  refine bodyPost_ret (v := ?_) ?_ rfl ?_
  rotate_left
  · simp [results, Tryd.results20, go_sem]
    rfl
  · exact ⟨by kernel_rfl, hg0 _⟩

theorem pasts_good (t : W) (ht : Letters t) : Letters (pastsL t) ∧ (pastsL t).length ≤ t.length + 1 := by
  have he : Letters (bs "e") := by
    have : ∀ b ∈ bs "e", 97 ≤ b.toNat ∧ b.toNat ≤ 122 := by decide +kernel
    exact this
  have hel : (bs "e").length = 1 := by decide +kernel
  have hg := step_good t (rulesL pastsP) pastMay good_pasts ht
  unfold pastsL
  simp only
  generalize stepL t (rulesL pastsP) pastMay = r at *
  split
  · exact ⟨hg.1, by omega⟩
  · split
    · exact ⟨hg.1.append he, by rw [List.length_append, hel]; omega⟩
    · split
      · exact ⟨hg.1.take _, by rw [List.length_take]; omega⟩
      · split
        · exact ⟨hg.1.append he, by rw [List.length_append, hel]; omega⟩
        · exact ⟨hg.1, by omega⟩
def st3 (x : W) : W := (stepL x (rulesL yP) (fun a _ => voicedL a)).1
def st4 (k : Nat) (x : W) : W := (stepL x (rulesL (tb k)) (if k < 2 then aboveMay else thirdMay)).1
theorem S_y : S yP = ⟨#[121, 32, 105]⟩ := by decide +kernel
theorem tab_len : ∀ i < 3, (rulesL (tb i)).length ≤ 1000 := by decide +kernel

def fin : Nat → W → W
  | 0, x => st4 2 (st4 1 (st4 0 x))
  | 1, x => st4 2 (st4 1 x)
  | 2, x => st4 2 x
  | _, x => x
theorem st4_good (k : Nat) (hk : k < 3) (x : W) (h : Letters x) : Letters (st4 k x) ∧ (st4 k x).length ≤ x.length := step_good x _ _ (good_tab k hk) h
/-- What stands while the three tables are gone through. -/
structure SSt (w0 : World) (bT bF b1 b2 : Nat) (w : World) : Prop where
  t : Blk w bT #[.string (S (tb 0)), .string (S (tb 1)), .string (S (tb 2))] 35
  f : Blk w bF #[.func (.func 33) #[] #[.pointer (some ⟨b1, 0, none⟩)], .func (.func 33) #[] #[.pointer (some ⟨b2, 0, none⟩)], .func (.func 22) #[] #[]] 34
  a : Blk w b1 #[.int .i64 0] 3
  b : Blk w b2 #[.int .i64 0] 3
  bel : Below w0.heap.size w0 w
theorem SSt.grew {w0 w w' : World} {bT bF b1 b2 : Nat} (h : SSt w0 bT bF b1 b2 w) (hb : Below w.heap.size w w') : SSt w0 bT bF b1 b2 w' :=
  ⟨h.t.grew hb, h.f.grew hb, h.a.grew hb, h.b.grew hb, grow h.bel hb⟩
/-- One of the three. -/
theorem stage_any (k : Nat) (hk : k < 3) (x : W) (hx : Letters x) (hl : (x.length : Int) ≤ 90000) (w : World) (g b : Nat) (hg : k < 2 ∧ g = 33 ∨ k = 2 ∧ g = 22) (A : Option Addr) (c : Nat) (hb : Blk w b #[.int .i64 0] 3) (hA : RsAt w A (rulesL (tb k))) :
    Calls Tryd.prog 16 #[.string (S x), .slice A (rulesL (tb k)).length c, .func (.func g) #[] (if k < 2 then #[.pointer (some ⟨b, 0, none⟩)] else #[])] w fun e w' => (∃ r2, e = .returned (.tuple #[.string (S (st4 k x)), .bool r2])) ∧ Below w.heap.size w w' := by
  unfold st4
  rcases hg with ⟨h, rfl⟩ | ⟨h, rfl⟩
  · rw [if_pos h, if_pos h]
    refine (step_b x hl hx _ (good_tab k hk) (tab_len k hk) A c w hA 33 #[.pointer (some ⟨b, 0, none⟩)] (enters_of Tryd.func33 (by kernel_rfl) rfl) aboveMay (fun a e ha hl w1 h1 => above1_any a e ha hl b w1 ((hb.grew h1).cell 0))).mono ?_
    rintro e w' ⟨rfl, h⟩
    exact ⟨⟨_, rfl⟩, h⟩
  · rw [if_neg (by omega), if_neg (by omega)]
    refine (step_b x hl hx _ (good_tab k hk) (tab_len k hk) A c w hA 22 #[] (enters_of Tryd.func22 (by kernel_rfl) rfl) thirdMay (fun a e ha hl w1 _ => stem2_any a e ha hl w1)).mono ?_
    rintro e w' ⟨rfl, h⟩
    exact ⟨⟨_, rfl⟩, h⟩
set_option maxHeartbeats 4000000 in
theorem Stem_any (t : W) (htl : (t.length : Int) ≤ 50000) (w : World) (ht : Tab w) : Calls Tryd.prog 9 #[.string (S t)] w fun e w' => e = .returned (.string (S (stemL t))) ∧ Below w.heap.size w w' := by
  obtain ⟨F, hF⟩ : ∃ F, F = stemL t := ⟨_, rfl⟩
  rw [← hF]
  unfold stemL at hF
  have hpl := plain_any (S t) (by rw [S_size]; omega) w
  rw [S_data] at hpl
  by_cases hp : plainB t = true
  · rw [if_pos hp] at hF
    rw [hp] at hpl
    have hlt : Letters t := by
      unfold plainB at hp
      rw [Bool.and_eq_true, decide_eq_true_eq] at hp
      exact hp.1
    have g1 := step_good t (rulesL pluralsP) (fun _ _ => true) good_plurals hlt
    change Letters (pluralsL t) ∧ (pluralsL t).length ≤ t.length at g1
    obtain ⟨x1, hx1⟩ : ∃ x, x = pluralsL t := ⟨_, rfl⟩
    have H1 := Lib.hid (plurals_any t (by omega) hlt)
    rw [← hx1] at hF g1 H1
    have g2 := pasts_good x1 g1.1
    have H2 := Lib.hid (pasts_any x1 (by omega) g1.1)
    obtain ⟨x2, hx2⟩ : ∃ x, x = pastsL x1 := ⟨_, rfl⟩
    rw [← hx2] at g2 H2
    have g3 := step_good x2 (rulesL yP) (fun a _ => voicedL a) good_y g2.1
    change Letters (st3 x2) ∧ (st3 x2).length ≤ x2.length at g3
    have hF2 : F = endsF (st4 2 (st4 1 (st4 0 (st3 x2)))) := by rw [hF, hx2]; rfl
    have hr := fun w ht => rules_of yP told_y w ht
    rw [S_y] at hr
    have HR := Lib.hid hr
    have HS : Hid (∀ (A : Option Addr) (c : Nat) (w : World), RsAt w A (rulesL yP) → Calls Tryd.prog 16 #[.string (S x2), .slice A (rulesL yP).length c, .func (.func 18) #[] #[]] w fun e w' => (∃ r2, e = .returned (.tuple #[.string (S (st3 x2)), .bool r2])) ∧ Below w.heap.size w w') := Lib.hid (fun A c w hA =>
      (step_b x2 (by omega) g2.1 _ good_y (by decide +kernel) A c w hA 18 #[] (enters_of Tryd.func18 (by kernel_rfl) rfl) (fun a _ => voicedL a) (fun a e ha hl w1 _ => stem1_any a e ha hl w1)).mono (by rintro e w' ⟨rfl, h⟩; exact ⟨⟨_, rfl⟩, h⟩))
    obtain ⟨x3, hx3⟩ : ∃ x, x = st3 x2 := ⟨_, rfl⟩
    rw [← hx3] at g3 hF2 HS
    have HF := Lib.hid hF2
    have HL3 : Hid (Letters x3 ∧ (x3.length : Int) ≤ 60000) := Lib.hid ⟨g3.1, by omega⟩
    have HT := Lib.hid ht
    have HP := Lib.hid hpl
    clear hF hF2 g1 g2 g3 hx1 hx2 hx3 hr hlt hp hpl ht htl
    generalize rulesL yP = ly at *
    go_enter Tryd.func9, Tryd.ntmps9
    go_wp2_with fail
    refine HP.out.mono ?_
    rintro e w1 ⟨rfl, hb1⟩
    have HB1 := Lib.hid hb1
    clear hb1 HP
    go_wp2_with fail
    refine (H1.out w1 (HT.out.grew HB1.out)).mono ?_
    rintro e w2 ⟨rfl, hb2⟩
    have HB2 := Lib.hid (grow HB1.out hb2)
    clear hb2 H1 HB1
    go_wp2_with fail
    refine (H2.out w2 (HT.out.grew HB2.out)).mono ?_
    rintro e w3 ⟨rfl, hb3⟩
    have HB3 := Lib.hid (grow HB2.out hb3)
    clear hb3 H2 HB2
    go_wp2_with fail
    refine (HR.out w3 (HT.out.grew HB3.out)).mono ?_
    rintro e w4 ⟨A, c, rfl, hA, hb4⟩
    have HB4 := Lib.hid (grow HB3.out hb4)
    have HC := Lib.hid (HS.out A c w4 hA)
    clear hb4 hA HR HS HB3
    go_wp2_with fail
    refine HC.out.mono ?_
    rintro e w5 ⟨⟨r2, rfl⟩, hb5⟩
    have HB5 := Lib.hid (grow HB4.out hb5)
    clear hb5 HC HB4
    go_wp2_with fail
    refine (tables_any w5).mono ?_
    rintro e w6 ⟨rfl, hb6⟩
    have HB6 := Lib.hid (grow HB5.out hb6)
    clear hb6 HB5
    go_wp2_with fail
    refine (above_any 0 _).mono ?_
    rintro e w7 ⟨rfl, rfl⟩
    go_wp2_with fail
    refine (above_any 0 _).mono ?_
    rintro e w8 ⟨rfl, rfl⟩
    go_wp2_with fail
    have hS : SSt w w6.heap.size (w6.heap.size + 1 + 1 + 1) (w6.heap.size + 1) (w6.heap.size + 1 + 1) ((((w6.alloc (.cells #[.string (S (tb 0)), .string (S (tb 1)), .string (S (tb 2))] 35)).alloc (.cells #[.int .i64 0] 3)).alloc (.cells #[.int .i64 0] 3)).alloc (.cells #[.func (.func 33) #[] #[.pointer (some ⟨w6.heap.size + 1, 0, none⟩)], .func (.func 33) #[] #[.pointer (some ⟨w6.heap.size + 1 + 1, 0, none⟩)], .func (.func 22) #[] #[]] 34)) := by
      refine ⟨(((Blk.new w6 _ 35).alloc _).alloc _).alloc _, Blk.new' _ _ _ (by simp), ((Blk.new' _ _ _ (by simp)).alloc _).alloc _, (Blk.new' _ _ _ (by simp)).alloc _, ?_⟩
      exact grow_alloc (grow_alloc (grow_alloc (grow_alloc HB6.out _) _) _) _
    have HSS := Lib.hid hS
    clear hS HB6
    generalize w6.heap.size + 1 + 1 + 1 = bF at *
    generalize w6.heap.size + 1 + 1 = b2 at *
    generalize w6.heap.size + 1 = b1 at *
    generalize w6.heap.size = bT at *
    generalize (((w6.alloc _).alloc _).alloc _).alloc _ = w9 at *
    go_loopw [3, 25] (fun vs iv wr => ∃ (k : Nat) (x : W), k ≤ 3 ∧ iv = .int .i64 k ∧ vs = .string (S x) ∧ Hid (Letters x ∧ (x.length : Int) ≤ 60000) ∧ Hid (SSt w bT bF b1 b2 wr) ∧ Hid (F = endsF (fin k x))) (fun _ iv _ => 3 - (intOf iv).toNat)
    case atStart => exact ⟨0, x3, by omega, rfl, rfl, HL3, HSS, HF⟩
    case round =>
      clear HL3 HSS HF
      obtain ⟨k, x, hk, rfl, rfl, HLX, HST, HFX⟩ := hrel
      by_cases hlt : k < 3
      · have hgood := st4_good k hlt x HLX.out.1
        have HG : Hid (Letters (st4 k x) ∧ ((st4 k x).length : Int) ≤ 60000) := Lib.hid ⟨hgood.1, by have := HLX.out.2; omega⟩
        have HR := Lib.hid (fun w ht => rules_of (tb k) (told_tab k hlt) w ht)
        have f0 := HST.out.f.cell 0
        have f1 := HST.out.f.cell 1
        have f2 := HST.out.f.cell 2
        have t0 := HST.out.t.cell 0
        have t1 := HST.out.t.cell 1
        have t2 := HST.out.t.cell 2
        clear hgood
        rcases (show k = 0 ∨ k = 1 ∨ k = 2 by omega) with rfl | rfl | rfl
        · have HST4 := Lib.hid (fun A c w hb hA => stage_any 0 (by omega) x HLX.out.1 (by have := HLX.out.2; omega) w 33 b1 (Or.inl ⟨by omega, rfl⟩) A c hb hA)
          have HFX2 : Hid (F = endsF (fin 1 (st4 0 x))) := HFX
          have HBX : Hid (∀ w', SSt w bT bF b1 b2 w' → Blk w' b1 #[.int .i64 0] 3) := Lib.hid fun _ h => h.a
          clear HFX HLX
          go_wp2_with fail
          refine (HR.out wr (HT.out.grew HST.out.bel)).mono ?_
          rintro e wa ⟨A1, c1, rfl, hA, hba⟩
          have HSA := Lib.hid (HST.out.grew hba)
          have HC4 := Lib.hid (HST4.out A1 c1 wa (HBX.out wa HSA.out) hA)
          clear hba hA HR HST4 HBX HST f0 f1 f2 t0 t1 t2
          go_wp2_with fail
          refine HC4.out.mono ?_
          rintro e wb ⟨⟨r3, rfl⟩, hbb⟩
          have HSB := Lib.hid (HSA.out.grew hbb)
          clear hbb HC4 HSA
          go_wp2
          go_roundw
          case rel => exact ⟨0 + 1, st4 0 x, by omega, rfl, rfl, HG, HSB, HFX2⟩
          case measure => simp [intOf]
        · have HST4 := Lib.hid (fun A c w hb hA => stage_any 1 (by omega) x HLX.out.1 (by have := HLX.out.2; omega) w 33 b2 (Or.inl ⟨by omega, rfl⟩) A c hb hA)
          have HFX2 : Hid (F = endsF (fin 2 (st4 1 x))) := HFX
          have HBX : Hid (∀ w', SSt w bT bF b1 b2 w' → Blk w' b2 #[.int .i64 0] 3) := Lib.hid fun _ h => h.b
          clear HFX HLX
          go_wp2_with fail
          refine (HR.out wr (HT.out.grew HST.out.bel)).mono ?_
          rintro e wa ⟨A1, c1, rfl, hA, hba⟩
          have HSA := Lib.hid (HST.out.grew hba)
          have HC4 := Lib.hid (HST4.out A1 c1 wa (HBX.out wa HSA.out) hA)
          clear hba hA HR HST4 HBX HST f0 f1 f2 t0 t1 t2
          go_wp2_with fail
          refine HC4.out.mono ?_
          rintro e wb ⟨⟨r3, rfl⟩, hbb⟩
          have HSB := Lib.hid (HSA.out.grew hbb)
          clear hbb HC4 HSA
          go_wp2
          go_roundw
          case rel => exact ⟨1 + 1, st4 1 x, by omega, rfl, rfl, HG, HSB, HFX2⟩
          case measure => simp [intOf]
        · have HST4 := Lib.hid (fun A c w hb hA => stage_any 2 (by omega) x HLX.out.1 (by have := HLX.out.2; omega) w 22 b2 (Or.inr ⟨rfl, rfl⟩) A c hb hA)
          have HFX2 : Hid (F = endsF (fin 3 (st4 2 x))) := HFX
          have HBX : Hid (∀ w', SSt w bT bF b1 b2 w' → Blk w' b2 #[.int .i64 0] 3) := Lib.hid fun _ h => h.b
          clear HFX HLX
          go_wp2_with fail
          refine (HR.out wr (HT.out.grew HST.out.bel)).mono ?_
          rintro e wa ⟨A1, c1, rfl, hA, hba⟩
          have HSA := Lib.hid (HST.out.grew hba)
          have HC4 := Lib.hid (HST4.out A1 c1 wa (HBX.out wa HSA.out) hA)
          clear hba hA HR HST4 HBX HST f0 f1 f2 t0 t1 t2
          go_wp2_with fail
          refine HC4.out.mono ?_
          rintro e wb ⟨⟨r3, rfl⟩, hbb⟩
          have HSB := Lib.hid (HSA.out.grew hbb)
          clear hbb HC4 HSA
          go_wp2
          go_roundw
          case rel => exact ⟨2 + 1, st4 2 x, by omega, rfl, rfl, HG, HSB, HFX2⟩
          case measure => simp [intOf]
      · obtain rfl : k = 3 := by omega
        have hF : F = endsF x := HFX.out
        subst hF
        have HE := Lib.hid (fun w ht => ends_any x (by have := HLX.out.2; omega) HLX.out.1 w ht)
        clear HFX
        go_wp2_with fail
        refine (HE.out wr (HT.out.grew HST.out.bel)).mono ?_
        rintro e wz ⟨rfl, hbz⟩
        have HBZ := Lib.hid (grow HST.out.bel hbz)
        clear hbz HE
        go_wp2
        go_ret
        exact ⟨rfl, HBZ.out⟩
  · have hp' : plainB t = false := by simpa using hp
    rw [if_neg hp] at hF
    rw [hp'] at hpl
    subst hF
    have HP := Lib.hid hpl
    clear hpl hp hp' ht htl
    go_enter Tryd.func9, Tryd.ntmps9
    go_wp2_with fail
    refine HP.out.mono ?_
    rintro e w1 ⟨rfl, hb1⟩
    have HB := Lib.hid hb1
    clear hb1 HP
    go_wp2
    go_ret
    exact ⟨rfl, HB.out⟩
end Go.Proofs.YtcgfokeglgaffaaDoor
