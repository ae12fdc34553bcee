/- Walks: WordCuts. Printed by mk_w16.py. -/
import Derived.Test.YtmdmejfcknaokaaDoorHeld
import Derived.Test.YtmdmejfcknaokaaDoorW15
namespace Go.Proofs.YtmdmejfcknaokaaDoor
open Go.RowKit

set_option maxHeartbeats 2000000 in
set_option maxRecDepth 20000 in
theorem Cuts_any (s : ByteArray) (w : World) (ht : Tab w) : Calls Tryd.prog 7 #[.string s] w fun e w' => e = .returned (.bool true) ∧ Below w.heap.size w w' := by
  by_cases hs : 600 < s.size
  · have hs' : (600 : Int) < s.size := by omega
    clear ht
    go_enter Tryd.func7, Tryd.ntmps7
    go_wp2
    go_ret
    exact ⟨rfl, Below.refl _ _⟩
  · have hs' : ¬ (600 : Int) < s.size := by omega
    have h1 := Words_any s (by omega) w
    have hn := words_len s
    have hk := words_know s
    generalize wordsL s = l at *
    have H1 := Lib.hid h1
    have HK := Lib.hid hk
    have HT := Lib.hid ht
    have HN := Lib.hid hn
    clear h1 ht hs hk hn
    go_enter Tryd.func7, Tryd.ntmps7
    go_wp2_with fail
    refine H1.out.mono ?_
    rintro e w1 ⟨v, rfl, hown, hb1⟩
    obtain ⟨A, c, rfl, hA⟩ := hown.form
    have HA := Lib.hid hA
    have HB1 := Lib.hid hb1
    have hlen : (l.length : Int) ≤ 1000 := by have := HN.out; omega
    obtain ⟨n, hn⟩ : ∃ n, n = l.length := ⟨_, rfl⟩
    rw [← hn] at hlen ⊢
    have HLN := Lib.hid hn
    clear hA hown H1 hb1 hn
    go_wp2_with fail
    go_loopw [4] (fun i wr => ∃ k : Nat, k ≤ n ∧ i = .int .i64 k ∧ Hid (Below w1.heap.size w1 wr)) (fun i _ => n - (intOf i).toNat)
    case atStart => exact ⟨0, by omega, rfl, Lib.hid (Below.refl _ _)⟩
    case round =>
      obtain ⟨k, hk, rfl, HB⟩ := hrel
      by_cases hlt : k < n
      · have hkl : k < l.length := by rw [← HLN.out]; exact hlt
        obtain ⟨p, hp, _, a1, a2, a3⟩ := (HA.out.grew HB.out).get hkl
        cases hp
        have hx := HK.out.1 _ (List.getElem_mem hkl)
        have hlt' : (k : Int) < n := by omega
        obtain ⟨x, hxe⟩ : ∃ x, x = l[k] := ⟨_, rfl⟩
        rw [← hxe] at a1 a2 a3 hx
        obtain ⟨t, f, e⟩ := x
        simp only at a1 a2 a3 hx
        obtain ⟨b1, b2, b3, b4, b5, b6⟩ := hx
        clear b3 b4 b5
        have hw := fun w => Words_any (s.extract f e) (by rw [ByteArray.size_extract]; omega) w
        rw [b6] at hw
        have HW := Lib.hid hw
        have g0 : decide ((f : Int) < 0) = false := decide_eq_false (by omega)
        have g1 : decide (s.size < e) = false := decide_eq_false (by omega)
        have g2 : decide (e < f) = false := decide_eq_false (by omega)
        have c1 : (f : Int) ≤ e := by omega
        have c2 : (e : Int) ≤ s.size := by omega
        have c3 : (e : Int) ≤ 1000 := by omega
        have g5 : IntKind.i64.wrap ((e : Int) - f) = ((e - f : Nat) : Int) := by rw [IntKind.wrap_i64]; omega
        have G5 := Lib.hid g5
        clear hw b6 hxe b1 b2 g5
        go_wp2_with fail
        go_quiet (fail)
        go_wp2_with fail
        refine wp_region_H (fun v => v.cell? ⟨(p.add (k * 3)).block, (p.add (k * 3)).off + 1, none⟩ = some (.int .i64 (f : Int)) ∧ v.cell? ⟨(p.add (k * 3)).block, (p.add (k * 3)).off + 2, none⟩ = some (.int .i64 (e : Int))) (by kernel_rfl) (fun v0 hv0 => ?_)
        have hS0 : (fun v => v.cell? ⟨(p.add (k * 3)).block, (p.add (k * 3)).off + 1, none⟩ = some (.int .i64 (f : Int)) ∧ v.cell? ⟨(p.add (k * 3)).block, (p.add (k * 3)).off + 2, none⟩ = some (.int .i64 (e : Int))) v0 := by subst hv0; exact ⟨a2, a3⟩
        have BV : Below wr.heap.size wr v0 := by subst hv0; exact (below_drewN (Below.refl _ _) nq).drew
        clear hv0
        refine wpH_take (i := 0) (v := ?_) rfl rfl (by kernel_rfl) (by kernel_rfl) (by kernel_rfl) (fun _ _ _ h => h) (Or.inl ⟨by rfl, ?_⟩) hS0 ?_
        rotate_left
        · (intro w_ hw_; go_simp; try with_reducible rfl)
        simp only [List.setIfInBounds_toArray, List.set_cons_zero, List.set_cons_succ]
        refine wpH_take (i := 1) (v := ?_) rfl rfl (by kernel_rfl) (by kernel_rfl) (by kernel_rfl) (fun _ _ _ h => h) (Or.inl ⟨by rfl, ?_⟩) hS0 ?_
        rotate_left
        · (intro w_ hw_; go_simp; try with_reducible rfl)
        simp only [List.setIfInBounds_toArray, List.set_cons_zero, List.set_cons_succ]
        refine wpH_take (i := 2) (v := ?_) rfl rfl (by kernel_rfl) (by kernel_rfl) (by kernel_rfl) (fun _ _ _ h => h) (Or.inl ⟨by rfl, ?_⟩) hS0 ?_
        rotate_left
        · (intro w_ hw_; go_simp; try with_reducible rfl)
        simp only [List.setIfInBounds_toArray, List.set_cons_zero, List.set_cons_succ]
        refine wpH_take (i := 3) (v := ?_) rfl rfl (by kernel_rfl) (by kernel_rfl) (by kernel_rfl) (fun _ _ _ h => h) (Or.inl ⟨by rfl, ?_⟩) hS0 ?_
        rotate_left
        · (intro w_ hw_; go_simp; try with_reducible rfl)
        simp only [List.setIfInBounds_toArray, List.set_cons_zero, List.set_cons_succ]
        refine wpH_take (i := 4) (v := ?_) rfl rfl (by kernel_rfl) (by kernel_rfl) (by kernel_rfl) (fun _ _ _ h => h) (Or.inl ⟨by rfl, ?_⟩) hS0 ?_
        rotate_left
        · (intro w_ hw_; go_simp; try with_reducible rfl)
        simp only [List.setIfInBounds_toArray, List.set_cons_zero, List.set_cons_succ]
        refine wpH_take (i := 5) (v := ?_) rfl rfl (by kernel_rfl) (by kernel_rfl) (by kernel_rfl) (fun _ _ _ h => h) (Or.inl ⟨by rfl, ?_⟩) hS0 ?_
        rotate_left
        · (intro w_ hw_; obtain ⟨q1, q2⟩ := hw_; go_simp; try with_reducible rfl)
        simp only [List.setIfInBounds_toArray, List.set_cons_zero, List.set_cons_succ]
        refine wpH_take (i := 6) (v := ?_) rfl rfl (by kernel_rfl) (by kernel_rfl) (by kernel_rfl) (fun _ _ _ h => h) (Or.inl ⟨by rfl, ?_⟩) hS0 ?_
        rotate_left
        · (intro w_ hw_; go_simp; try with_reducible rfl)
        simp only [List.setIfInBounds_toArray, List.set_cons_zero, List.set_cons_succ]
        refine wpH_take (i := 7) (v := ?_) rfl rfl (by kernel_rfl) (by kernel_rfl) (by kernel_rfl) (fun _ _ _ h => h) (Or.inl ⟨by rfl, ?_⟩) hS0 ?_
        rotate_left
        · (intro w_ hw_; go_simp; try with_reducible rfl)
        simp only [List.setIfInBounds_toArray, List.set_cons_zero, List.set_cons_succ]
        refine wpH_take (i := 8) (v := ?_) rfl rfl (by kernel_rfl) (by kernel_rfl) (by kernel_rfl) (fun _ _ _ h => h) (Or.inl ⟨by rfl, ?_⟩) hS0 ?_
        rotate_left
        · (intro w_ hw_; go_simp; try with_reducible rfl)
        simp only [List.setIfInBounds_toArray, List.set_cons_zero, List.set_cons_succ]
        refine wpH_take (i := 9) (v := ?_) rfl rfl (by kernel_rfl) (by kernel_rfl) (by kernel_rfl) (fun _ _ _ h => h) (Or.inl ⟨by rfl, ?_⟩) hS0 ?_
        rotate_left
        · (intro w_ hw_; go_simp; try with_reducible rfl)
        simp only [List.setIfInBounds_toArray, List.set_cons_zero, List.set_cons_succ]
        refine wpH_take (i := 10) (v := ?_) rfl rfl (by kernel_rfl) (by kernel_rfl) (by kernel_rfl) (fun _ _ _ h => h) (Or.inl ⟨by rfl, ?_⟩) hS0 ?_
        rotate_left
        · (intro w_ hw_; obtain ⟨q1, q2⟩ := hw_; go_simp; try with_reducible rfl)
        simp only [List.setIfInBounds_toArray, List.set_cons_zero, List.set_cons_succ]
        refine wpH_take (i := 11) (v := ?_) rfl rfl (by kernel_rfl) (by kernel_rfl) (by kernel_rfl) (fun _ _ _ h => h) (Or.inl ⟨by rfl, ?_⟩) hS0 ?_
        rotate_left
        · (intro w_ hw_; go_simp; try with_reducible rfl)
        simp only [List.setIfInBounds_toArray, List.set_cons_zero, List.set_cons_succ]
        refine wpH_callv (i := 12) (by kernel_rfl) rfl rfl (by rfl) (show Calls Tryd.prog 14 _ v0 (fun e' w' => ∃ v, e' = .returned v ∧ (OwnW 33 w' v0.heap.size v [(t, 0, e - f)] ∧ Below v0.heap.size v0 w')) from HW.out v0) (by go_simp) ?_
        rintro v2 w2 ⟨hown2, hb2⟩
        have hS1 : (fun v => v.cell? ⟨(p.add (k * 3)).block, (p.add (k * 3)).off + 1, none⟩ = some (.int .i64 (f : Int)) ∧ v.cell? ⟨(p.add (k * 3)).block, (p.add (k * 3)).off + 2, none⟩ = some (.int .i64 (e : Int))) w2 := ⟨cell_grew hS0.1 hb2, cell_grew hS0.2 hb2⟩
        clear hS0
        refine ⟨hS1, ?_⟩
        simp only [List.setIfInBounds_toArray, List.set_cons_zero, List.set_cons_succ]
        have BV2 := Lib.hid (grow BV hb2)
        clear BV hb2
        refine wpH_take (i := 13) (v := ?_) rfl rfl (by kernel_rfl) (by kernel_rfl) (by kernel_rfl) (fun _ _ _ h => h) (Or.inl ⟨by rfl, ?_⟩) hS1 ?_
        rotate_left
        · (intro w_ hw_; go_simp; try with_reducible rfl)
        simp only [List.setIfInBounds_toArray, List.set_cons_zero, List.set_cons_succ]
        clear hS1
        refine wpAnyH_done (by kernel_rfl) ?_ _
        obtain ⟨g, cp2, rfl, hg, hc⟩ := hown2.at_ (by simp)
        have q := hc 0 (by simp)
        simp only [List.getElem_cons_zero, List.length_cons, List.length_nil, Nat.zero_add, Nat.zero_mul] at q ⊢
        obtain ⟨q1, q2, q3⟩ := q
        replace a1 := cell_grew a1 BV2.out
        replace a2 := cell_grew a2 BV2.out
        replace a3 := cell_grew a3 BV2.out
        have HB3 := Lib.hid (grow HB.out BV2.out)
        have g5 := G5.out
        clear hown2 hc BV2 HW c1 c2 g0 g1 g2
        go_wp2_with fail
        go_quiet (fail)
        clear g5
        go_wp2
        go_roundw
        case rel => exact ⟨k + 1, by omega, by go_num, Lib.hid (below_drewN HB3.out _)⟩
        case measure => simp [intOf]; omega
      · have hlt' : ¬ (k : Int) < n := by omega
        have HAW := Lib.hid (awake_any wr (HT.out.grew (grow HB1.out HB.out)))
        go_wp2_with fail
        refine HAW.out.mono ?_
        rintro e w4 ⟨rfl, hb4⟩
        have HB4 := Lib.hid (grow (grow HB1.out HB.out) hb4)
        clear hb4 HAW
        go_wp2
        go_ret
        exact ⟨rfl, HB4.out⟩
end Go.Proofs.YtmdmejfcknaokaaDoor
