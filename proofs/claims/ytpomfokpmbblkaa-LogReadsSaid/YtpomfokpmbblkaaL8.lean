/- Walks: the iterator of a log's slots. Printed by mk_l8.py. -/
import Derived.Test.YtpomfokpmbblkaaL7
namespace Go.Proofs.Ytpomfokpmbblkaa
open Go.RowKit Go.Maps Go.Shelf
attribute [local go_sem] Oper.semAt_some
set_option maxRecDepth 8000
variable {ι : Type} [Bar ι]

theorem slots_any (p : Value) (f c : Int) (Eb : Nat) (w : World) : Calls Try.prog 36 #[.agg #[p, .int .i64 f, .int .i64 c], .pointer (some ⟨Eb, 0, none⟩)] w fun e w' => ∃ X, e = .returned (.func (.func 55) #[] #[.pointer (some ⟨X, 0, none⟩), .pointer (some ⟨X + 1, 0, none⟩)]) ∧
    Blk w' X #[p, .int .i64 f, .int .i64 c] 81 ∧ Blk w' (X + 1) #[.pointer (some ⟨Eb, 0, none⟩)] 90 ∧ w.heap.size ≤ X ∧ Below w.heap.size w w' := by
  have h1 : Blk ((w.alloc (.cells #[p, .int .i64 f, .int .i64 c] 81)).alloc (.cells #[.pointer (some ⟨Eb, 0, none⟩)] 90)) w.heap.size #[p, .int .i64 f, .int .i64 c] 81 := (Blk.new w _ _).alloc _
  have h2 : Blk ((w.alloc (.cells #[p, .int .i64 f, .int .i64 c] 81)).alloc (.cells #[.pointer (some ⟨Eb, 0, none⟩)] 90)) (w.heap.size + 1) #[.pointer (some ⟨Eb, 0, none⟩)] 90 := Blk.new' _ _ _ (by simp)
  have H := Lib.hid (And.intro h1 (And.intro h2 (grow_alloc (grow_alloc (Below.refl _ w) (.cells #[p, .int .i64 f, .int .i64 c] 81)) (.cells #[.pointer (some ⟨Eb, 0, none⟩)] 90))))
  clear h1 h2
  go_enter Try.func36, Try.ntmps36
  go_wp2
  go_ret
  exact ⟨_, rfl, H.out.1, H.out.2.1, Nat.le_refl _, H.out.2.2⟩

theorem slot_no {s : List Nat} {k : Nat} (h : slotOk s k = false) : slotEp s k = 0 ∧ slotLoad s k = [] ∧ slotEmpty s k = !nzB s := by
  unfold slotEp slotLoad slotEmpty; rw [h]; exact ⟨rfl, rfl, rfl⟩
theorem slot_yes {s : List Nat} {k : Nat} (h : slotOk s k = true) : slotEp s k = slotE s k ∧ slotLoad s k = readLoad s ∧ slotEmpty s k = false := by
  unfold slotEp slotLoad slotEmpty; rw [h]; exact ⟨rfl, rfl, rfl⟩
theorem box_set {wr w : World} {Y : Nat} {q : Bool} {u : Value} {e : Int} {l : List Nat} (h : Below wr.heap.size wr w ∧ Blk w Y #[.int .i64 0, .slice none 0 0, .bool (!q)] 92 ∧ (∃ B, Own w B u l) ∧ wr.heap.size ≤ Y) :
    Below wr.heap.size wr (((w.setCell ⟨Y, 0, none⟩ (.int .i64 e)).setCell ⟨Y, 1, none⟩ u).setCell ⟨Y, 2, none⟩ (.bool false)) ∧ ∃ B, Own (((w.setCell ⟨Y, 0, none⟩ (.int .i64 e)).setCell ⟨Y, 1, none⟩ u).setCell ⟨Y, 2, none⟩ (.bool false)) B u l := by
  obtain ⟨h1, h2, ⟨B, h3⟩, h4⟩ := h
  have ht : Turn [Y] w (((w.setCell ⟨Y, 0, none⟩ (.int .i64 e)).setCell ⟨Y, 1, none⟩ u).setCell ⟨Y, 2, none⟩ (.bool false)) := (((Turn.refl [Y] w).set (.inl (by simp)) _).set (.inl (by simp)) _).set (.inl (by simp)) _
  refine ⟨((h1.setCell (p := ⟨Y, 0, none⟩) h4 _).setCell (p := ⟨Y, 1, none⟩) h4 _).setCell (p := ⟨Y, 2, none⟩) h4 _, B, h3.1, h3.2.1, ?_⟩
  rcases h3.2.2 with h0 | ⟨g, cap, cur, rfl, hb, hh, r⟩
  · exact .inl h0
  · refine .inr ⟨g, cap, cur, rfl, hb, (ht.block g (lt_of_block hh) (fun e => ?_)).trans hh, r⟩
    simp at e
    subst e
    unfold Blk at h2
    rw [hh] at h2
    cases h2
theorem readErr_two (l : List Nat) : readErr l = 0 ∨ readErr l = 5 := by unfold readErr; split <;> simp

set_option maxHeartbeats 8000000 in
theorem iter_any {l Pb Eb b m : Nat} {vl : Value} {D : Dsk} {W1 : World} (J : Nat → World → Prop) (Jx : World → Prop) (first count : Nat) (hcb : (count : Int) ≤ 1048576) (hfb : (first : Int) ≤ 1048576)
    (hJ : ∀ k W, J k W → Blk W Pb #[.pointer (some ⟨b, 0, none⟩), .int .i64 first, .int .i64 count] 81 ∧ DiskAt W b m vl D) (hgr : ∀ k W W', J k W → Below W.heap.size W W' → J k W')
    (hlo : D.loose.length ≤ 1000000000) (hup : ∀ k : Nat, k < count → D.ready ((first : Int) + k) = 0)
    (hy : ∀ (k : Nat) (W : World) (v : Value) (R : Ending → World → Prop), k < count → J k W → (∃ B, Own W B v (slotLoad (D.tells ((first : Int) + k)) k)) →
      (∀ W', J (k + 1) W' → R (.returned (.bool true)) W') → (∀ W', Jx W' → R (.returned (.bool false)) W') →
      YieldAt Fence.wide 3 Try.prog l #[.int .i64 k, .agg #[.int .i64 (slotEp (D.tells ((first : Int) + k)) k), v, .bool (slotEmpty (D.tells ((first : Int) + k)) k)]] W R)
    (h0 : J 0 W1) : CallsIn Fence.wide 4 Try.prog 55 #[.func (.yield l) #[] #[], .pointer (some ⟨Pb, 0, none⟩), .pointer (some ⟨Eb, 0, none⟩)] W1 fun e W2 => (∃ v, e = .returned v) ∧ (J count W2 ∨ Jx W2) := by
  have HJ := Lib.hid hJ
  have HGR := Lib.hid hgr
  have HLO := Lib.hid hlo
  have HUP := Lib.hid hup
  have HY := Lib.hid hy
  have H0 := Lib.hid h0
  have c2 : W1.cell? ⟨Pb, 2, none⟩ = some (.int .i64 count) := (hJ 0 W1 h0).1.cell 2
  clear hJ hgr hlo hup hy h0
  refine callsIn_of_wp Try.func55 rfl trivial ?_
  simp only [Try.ntmps55, List.size_toArray, List.length_cons, List.length_nil, Nat.reduceAdd, Nat.reduceSub, Array.replicate_succ, Array.replicate_zero, List.push_toArray, List.append_toArray, List.nil_append, List.cons_append]
  gi_wp2_with fail
  gi_loopw [14] (fun i wr => ∃ k : Nat, k ≤ count ∧ i = .int .i64 k ∧ Hid (J k wr)) (fun i _ => count - (intOf i).toNat)
  case atStart => exact ⟨0, by omega, rfl, H0⟩
  case round =>
    clear H0 c2
    obtain ⟨k, hk, rfl, HK⟩ := hrel
    by_cases hlt : k < count
    · have hlt' : (k : Int) < count := by omega
      have hk0 := HJ.out k wr HK.out
      have c0 := hk0.1.cell 0
      have c1 := hk0.1.cell 1
      obtain ⟨s, hs⟩ : ∃ s, s = D.tells ((first : Int) + k) := ⟨_, rfl⟩
      have hst := Dsk.tells_ok hk0.2.ok ((first : Int) + k)
      rw [← hs] at hst
      have hz1 := hk0.2.ok.z1
      have hz2 := hk0.2.ok.z2
      have hrd := Read_yes ((first : Int) + k) hk0.2 (HUP.out k hlt) HLO.out
      have hyk := HY.out k
      rw [← hs] at hyk hrd
      have HYK := Lib.hid hyk
      have HRD := Lib.hid hrd
      have HST := Lib.hid hst
      have HZZ := Lib.hid (And.intro hz1 hz2)
      clear hk0 hst hz1 hz2 hrd hyk hs
      gi_wp2_with fail
      refine ⟨trivial, callsIn_wide.2 (HRD.out.mono ?_)⟩
      rintro e w2 ⟨v, rfl, ho, hb2⟩
      obtain ⟨p, c, rfl, hpb, hpc⟩ := ho.at_ D.size HST.out.1 (by have := HZZ.out; omega)
      obtain ⟨A', c', e', hr⟩ := ho.form
      injection e' with e1 e2 e3
      subst e1 e3
      have HR2 := Lib.hid (And.intro hr (And.intro ho.cap hb2))
      clear ho hb2 hr hpb hpc c0 c1 HRD e2
      have HCB := Lib.hid (fun w (h : Rd w w.heap.size (some p) s) => ContainsB_any s D.size c HST.out.1 (by have := HZZ.out; omega) (some p) w h)
      have HFR : Hid (∀ w, Rd w w.heap.size (some p) s → Calls Try.prog 58 #[.slice (some p) D.size c] w fun e w' => ∃ v', e = .returned (.tuple #[.int .i64 (readMark s), v', .int .i64 (readErr s)]) ∧ Own w' w.heap.size v' (readLoad s) ∧ Below w.heap.size w w') := Lib.hid (fun w h => by
        have hl := HST.out.1
        have := FRead_any p s c w h (by have := HZZ.out; omega) (by have := HZZ.out; omega) (by have := HR2.out.2.1; omega)
        rw [hl] at this
        exact this)
      have hm := readMark_le s HST.out.2 (by have := HZZ.out; have := HST.out.1; omega)
      have hm0 := hm.1
      have hm1 := hm.2
      clear hm
      gi_wp2_with fail
      refine ⟨trivial, callsIn_wide.2 ((HCB.out w2 HR2.out.1).mono ?_)⟩
      rintro e w3 ⟨rfl, hw3⟩
      subst hw3
      obtain ⟨q, hq⟩ : ∃ q, q = nzB s := ⟨_, rfl⟩
      rw [← hq]
      obtain ⟨w4, hw4⟩ : ∃ w4, w4 = w3.alloc (.cells #[.int .i64 0, .slice none 0 0, .bool (!q)] 92) := ⟨_, rfl⟩
      have hb4 : Below w3.heap.size w3 w4 := by subst hw4; exact grow_alloc (Below.refl _ _) _
      have hY : Blk w4 w3.heap.size #[.int .i64 0, .slice none 0 0, .bool (!q)] 92 := by subst hw4; exact Blk.new _ _ _
      have HQ := Lib.hid hq
      obtain ⟨Y, hYs⟩ : ∃ Y, Y = w3.heap.size := ⟨_, rfl⟩
      rw [← hYs] at hY
      have H4 : Hid (Below wr.heap.size wr w4 ∧ Blk w4 Y #[.int .i64 0, .slice none 0 0, .bool (!q)] 92 ∧ Rd w4 w4.heap.size (some p) s ∧ wr.heap.size ≤ Y) := Lib.hid ⟨grow HR2.out.2.2 hb4, hY, HR2.out.1.below hb4 hb4.size, by rw [hYs]; exact HR2.out.2.2.size⟩
      clear hb4 hY hq HCB HR2
      gi_wp2_with fail
      rw [← hYs, ← hw4]
      clear hw4 hYs w3
      refine ⟨trivial, callsIn_wide.2 ((HFR.out w4 H4.out.2.2.1).mono ?_)⟩
      rintro e w5 ⟨v9, rfl, ho9, hb9⟩
      obtain ⟨A9, c9, rfl, _⟩ := ho9.form
      obtain ⟨n9, hn9⟩ : ∃ n9, n9 = (readLoad s).length := ⟨_, rfl⟩
      rw [← hn9] at ho9 ⊢
      have hY5 : Blk w5 Y #[.int .i64 0, .slice none 0 0, .bool (!q)] 92 := H4.out.2.1.grew hb9
      have H5 : Hid (Below wr.heap.size wr w5 ∧ Blk w5 Y #[.int .i64 0, .slice none 0 0, .bool (!q)] 92 ∧ (∃ B, Own w5 B (.slice A9 n9 c9) (readLoad s)) ∧ wr.heap.size ≤ Y) := Lib.hid ⟨grow H4.out.1 hb9, hY5, ⟨_, ho9⟩, H4.out.2.2.2⟩
      clear ho9 hb9 hn9 H4 HFR
      have y0 := hY5.cell 0
      have y1 := hY5.cell 1
      have y2 := hY5.cell 2
      have g0 := hY5.free 0
      have g1 := hY5.free 1
      have g2 := hY5.free 2
      clear hY5
      obtain ⟨eE, heE⟩ : ∃ eE, eE = slotE s k := ⟨_, rfl⟩
      have hdv : (readMark s - (k : Int) - 1) / 2097152 = eE := by rw [heE]; rfl
      have hso : slotOk s k = ((readErr s == 0) && okEp eE && (readMark s == eE * 2097152 + k + 1)) := by rw [heE]; rfl
      have hse : slotOk s k = true → slotEp s k = eE := fun h => by rw [(slot_yes h).1, heE]
      have HSE := Lib.hid hse
      have HSO := Lib.hid hso
      have HMAY := Lib.hid (fun w => lmay_any eE w)
      clear hso heE hse
      generalize readMark s = M at *
      rcases readErr_two s with hE | hE
      · rw [hE] at HSO ⊢
        cases hoe : okEp eE with
        | false =>
          have hno : slotOk s k = false := by rw [HSO.out, hoe]; simp
          rw [hoe] at HMAY
          have hs := slot_no hno
          rw [hs.1, hs.2.1, hs.2.2, ← HQ.out] at HYK
          have HYF := Lib.hid (fun W R (hj : J k W) ho => HYK.out W (.slice none 0 0) R hlt hj ho)
          have HWB : Hid (Below wr.heap.size wr w5 ∧ ∃ B, Own w5 B (.slice none 0 0) []) := Lib.hid ⟨H5.out.1, 0, Own.none_ _ _⟩
          clear hs HYK HSO HSE H5 hno HQ
          gi_wp2_with fail
          refine ⟨trivial, callsIn_wide.2 ((HMAY.out w5).mono ?_)⟩
          rintro e w6 ⟨rfl, hw6⟩
          subst hw6
          gi_wp2_with fail
          refine ⟨trivial, ?_⟩
          gi_wp2_with fail
          refine upon_yield (by intro h; cases h) ?_
          refine HYF.out _ _ (HGR.out _ _ _ HK.out HWB.out.1) HWB.out.2 (fun W' hj => ?_) (fun W' hj => ?_)
          · have HJ2 := Lib.hid hj
            clear hj
            gi_wp2
            go_roundw
            case rel => exact ⟨k + 1, by omega, by go_num, HJ2⟩
            case measure => simp [intOf]; omega
          · have HJ2 := Lib.hid hj
            clear hj
            gi_wp2
            refine bodyPost_ret (results_none rfl _ _ _) rfl ⟨⟨_, rfl⟩, Or.inr HJ2.out⟩
        | true =>
          have hoe2 := of_decide_eq_true hoe
          have HMK := Lib.hid (fun w => mark_any eE (k : Int) hoe2 (by omega) w)
          rw [hoe] at HMAY
          by_cases hmm : M = eE * 2097152 + k + 1
          · have hyes : slotOk s k = true := by rw [HSO.out, hoe, hmm]; simp
            have hs := slot_yes hyes
            rw [HSE.out hyes, hs.2.1, hs.2.2] at HYK
            have HYF := Lib.hid (fun W R (hj : J k W) ho => HYK.out W (.slice A9 n9 c9) R hlt hj ho)
            have hmt : (M == eE * 2097152 + k + 1) = true := by simpa using hmm
            clear hmm
            gi_wp2_with fail
            refine ⟨trivial, callsIn_wide.2 ((HMAY.out w5).mono ?_)⟩
            rintro e w6 ⟨rfl, hw6⟩
            subst hw6
            gi_wp2_with fail
            refine ⟨trivial, callsIn_wide.2 ((HMK.out _).mono ?_)⟩
            rintro e w7 ⟨rfl, hw7⟩
            subst hw7
            have HWB : Hid (Below wr.heap.size wr (((w7.setCell ⟨Y, 0, none⟩ (.int .i64 eE)).setCell ⟨Y, 1, none⟩ (.slice A9 n9 c9)).setCell ⟨Y, 2, none⟩ (.bool false)) ∧ ∃ B, Own (((w7.setCell ⟨Y, 0, none⟩ (.int .i64 eE)).setCell ⟨Y, 1, none⟩ (.slice A9 n9 c9)).setCell ⟨Y, 2, none⟩ (.bool false)) B (.slice A9 n9 c9) (readLoad s)) := Lib.hid (box_set H5.out)
            clear hs HYK HSO HSE H5 hyes HQ
            gi_wp2_with fail
            refine upon_yield (by intro h; cases h) ?_
            refine HYF.out _ _ (HGR.out _ _ _ HK.out HWB.out.1) HWB.out.2 (fun W' hj => ?_) (fun W' hj => ?_)
            · have HJ2 := Lib.hid hj
              clear hj
              gi_wp2
              go_roundw
              case rel => exact ⟨k + 1, by omega, by go_num, HJ2⟩
              case measure => simp [intOf]; omega
            · have HJ2 := Lib.hid hj
              clear hj
              gi_wp2
              refine bodyPost_ret (results_none rfl _ _ _) rfl ⟨⟨_, rfl⟩, Or.inr HJ2.out⟩
          · have hno : slotOk s k = false := by rw [HSO.out, hoe]; simp [hmm]
            have hs := slot_no hno
            rw [hs.1, hs.2.1, hs.2.2, ← HQ.out] at HYK
            have HYF := Lib.hid (fun W R (hj : J k W) ho => HYK.out W (.slice none 0 0) R hlt hj ho)
            have HWB : Hid (Below wr.heap.size wr w5 ∧ ∃ B, Own w5 B (.slice none 0 0) []) := Lib.hid ⟨H5.out.1, 0, Own.none_ _ _⟩
            clear hs HYK HSO HSE H5 hno HQ
            have hmf : (M == eE * 2097152 + k + 1) = false := by simpa using hmm
            gi_wp2_with fail
            refine ⟨trivial, callsIn_wide.2 ((HMAY.out w5).mono ?_)⟩
            rintro e w6 ⟨rfl, hw6⟩
            subst hw6
            gi_wp2_with fail
            refine ⟨trivial, callsIn_wide.2 ((HMK.out _).mono ?_)⟩
            rintro e w7 ⟨rfl, hw7⟩
            subst hw7
            gi_wp2_with fail
            refine upon_yield (by intro h; cases h) ?_
            refine HYF.out _ _ (HGR.out _ _ _ HK.out HWB.out.1) HWB.out.2 (fun W' hj => ?_) (fun W' hj => ?_)
            · have HJ2 := Lib.hid hj
              clear hj
              gi_wp2
              go_roundw
              case rel => exact ⟨k + 1, by omega, by go_num, HJ2⟩
              case measure => simp [intOf]; omega
            · have HJ2 := Lib.hid hj
              clear hj
              gi_wp2
              refine bodyPost_ret (results_none rfl _ _ _) rfl ⟨⟨_, rfl⟩, Or.inr HJ2.out⟩
      · rw [hE] at HSO ⊢
        have hno : slotOk s k = false := by rw [HSO.out]; rfl
        have hs := slot_no hno
        rw [hs.1, hs.2.1, hs.2.2, ← HQ.out] at HYK
        have HYF := Lib.hid (fun W R (hj : J k W) ho => HYK.out W (.slice none 0 0) R hlt hj ho)
        have HWB : Hid (Below wr.heap.size wr w5 ∧ ∃ B, Own w5 B (.slice none 0 0) []) := Lib.hid ⟨H5.out.1, 0, Own.none_ _ _⟩
        clear hs HYK HSO HSE H5 hno HQ
        gi_wp2_with fail
        refine ⟨trivial, ?_⟩
        gi_wp2_with fail
        refine ⟨trivial, ?_⟩
        gi_wp2_with fail
        refine upon_yield (by intro h; cases h) ?_
        refine HYF.out _ _ (HGR.out _ _ _ HK.out HWB.out.1) HWB.out.2 (fun W' hj => ?_) (fun W' hj => ?_)
        · have HJ2 := Lib.hid hj
          clear hj
          gi_wp2
          go_roundw
          case rel => exact ⟨k + 1, by omega, by go_num, HJ2⟩
          case measure => simp [intOf]; omega
        · have HJ2 := Lib.hid hj
          clear hj
          gi_wp2
          refine bodyPost_ret (results_none rfl _ _ _) rfl ⟨⟨_, rfl⟩, Or.inr HJ2.out⟩
    · have hlt' : ¬ (k : Int) < count := by omega
      obtain rfl : k = count := by omega
      gi_wp2
      go_end0
      exact ⟨⟨_, rfl⟩, Or.inl HK.out⟩
end Go.Proofs.Ytpomfokpmbblkaa
