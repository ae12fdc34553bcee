/- Walk: the reference's Cover. Printed by mk_d4.py. -/
import Derived.Test.YthinjaddebfdhaaD3
import Derived.Test.YthinjaddebfdhaaFreeDeep
import Derived.Lib.SmallJoins
namespace Go.Proofs.Ythinjaddebfdhaa.Deep
open Go.RowKit
set_option maxRecDepth 20000

theorem wrap_small (n : Nat) (h : (n : Int) ≤ 4096) : IntKind.i64.wrap (n : Int) = (n : Int) := by rw [IntKind.wrap_i64]; omega
theorem wrap_small2 (n : Nat) (h : (n : Int) ≤ 4096) : wrap64 (n : Int) = (n : Int) := IntWalk.wrap64_in _ (by omega)
theorem stands_own (base : Nat) (v : Value) (l : List Nat) : Stands fun w => OwnU w base v l := fun _ _ hb h => h.below hb
theorem ins_length (l acc : List Nat) : (l.foldl M.ins acc).length = acc.length + l.length := by
  have : ∀ (l acc : List Nat), (l.foldl M.ins acc).length = acc.length + l.length := by
    intro l
    induction l with
    | nil => intro acc; simp
    | cons c l ih => intro acc; simp only [List.foldl_cons, ih, (M.ins_perm acc c).length_eq, List.length_cons]; omega
  exact this l acc

set_option maxHeartbeats 16000000 in
theorem refCover_road (a b c e : Int) (m : Nat) (h : mayR4 a b c e) (hm : 1 ≤ m) (hm2 : m ≤ 64) (w : World) :
    Calls Try.prog 15 #[.agg #[.int .i64 a, .int .i64 b, .int .i64 c, .int .i64 e], .int .i64 m] w fun r w' => ∃ v, r = .returned v ∧ OwnR 41 w' w.heap.size v (coverL a b c e m) ∧ Below w.heap.size w w' := by
  have hmay : ∀ w, Calls Try.prog 27 #[.agg #[.int .i64 a, .int .i64 b, .int .i64 c, .int .i64 e]] w fun r w' => r = .returned (.bool true) ∧ Below w.heap.size w w' := fun w => by
    have := refMayRect_any a b c e w
    rwa [mayR_iff.2 h] at this
  have HMAY := Lib.hid hmay
  have HF0 := Lib.hid (fw_zero h m hm)
  have HD := Lib.hid (show coverD a b c e m = dep (fw a b c e m) 32 from rfl)
  have H4 := Lib.hid h
  have HM1 := Lib.hid hm
  have m1 : (1 : Int) ≤ m := by omega
  have m2 : (m : Int) ≤ 64 := by omega
  have n1 : decide ((m : Int) < 1) = false := by simp; omega
  have n2 : decide ((64 : Int) < m) = false := by simp; omega
  have kr0 := Blk.new w #[.int .i64 a, .int .i64 b, .int .i64 c, .int .i64 e] 34
  have g0 := grow_alloc (Below.refl w.heap.size w) (.cells #[.int .i64 a, .int .i64 b, .int .i64 c, .int .i64 e] 34)
  have HK0 := Lib.hid (And.intro kr0 g0)
  have a1 : (0 : Int) ≤ a + 1800000000 := by obtain ⟨h1, h2, h3, h4, h5, h6⟩ := h; omega
  have a2 : a + 1800000000 ≤ 3600000000 := by obtain ⟨h1, h2, h3, h4, h5, h6⟩ := h; omega
  have a3 : (0 : Int) ≤ c + 1800000000 := by obtain ⟨h1, h2, h3, h4, h5, h6⟩ := h; omega
  have a4 : c + 1800000000 ≤ 3600000000 := by obtain ⟨h1, h2, h3, h4, h5, h6⟩ := h; omega
  have a5 : (0 : Int) ≤ b + 900000000 := by obtain ⟨h1, h2, h3, h4, h5, h6⟩ := h; omega
  have a6 : b + 900000000 ≤ 3600000000 := by obtain ⟨h1, h2, h3, h4, h5, h6⟩ := h; omega
  have a7 : (0 : Int) ≤ e + 900000000 := by obtain ⟨h1, h2, h3, h4, h5, h6⟩ := h; omega
  have a8 : e + 900000000 ≤ 3600000000 := by obtain ⟨h1, h2, h3, h4, h5, h6⟩ := h; omega
  clear hmay h hm hm2 kr0 g0
  go_enter Try.func15, Try.ntmps15
  go_wp2_with fail
  refine (HMAY.out _).mono ?_
  rintro r w1 ⟨rfl, hb1⟩
  have HKR := Lib.hid (HK0.out.1.grew hb1)
  have HG1 := Lib.hid (grow HK0.out.2 hb1)
  clear hb1 HK0
  go_wp2_with fail
  go_loopw [5] (fun i wr => ∃ d : Nat, i = .int .i64 d ∧ (d : Int) ≤ 32 ∧ Hid (dep (fw a b c e m) d = coverD a b c e m) ∧ Hid (Blk wr w.heap.size #[.int .i64 a, .int .i64 b, .int .i64 c, .int .i64 e] 34) ∧ Hid (Below w.heap.size w wr)) (fun i _ => (intOf i).toNat)
  case atStart => exact ⟨32, rfl, by omega, Lib.hid HD.out.symm, HKR, HG1⟩
  case round =>
    clear HKR HG1
    obtain ⟨d, rfl, hd, HDD, HK, HB⟩ := hrel
    have d0 : (0 : Int) ≤ d := by omega
    have hk := HK.out.four
    obtain ⟨s, hs⟩ : ∃ s, s = 32 - d := ⟨_, rfl⟩
    have e32 : (32 : Int) - (d : Int) = (s : Int) := by omega
    obtain ⟨P, hP⟩ : ∃ P, P = 2 ^ s := ⟨_, rfl⟩
    have HPOW : Hid (∀ w, Calls Try.prog 28 #[.int .i64 s] w fun e w' => e = .returned (.int .i64 (P : Nat)) ∧ w = w') := Lib.hid (fun w => by rw [hP]; exact pow_any s (by omega) w)
    have p1 : (1 : Int) ≤ P := by have := Nat.two_pow_pos s; omega
    have p2 : (P : Int) ≤ 4294967296 := by
      have h1 : 2 ^ s ≤ 2 ^ 32 := Nat.pow_le_pow_right (by decide) (by omega)
      omega
    have p3 : ((P : Int) == 0) = false := by simp; omega
    obtain ⟨x0, hx0⟩ : ∃ x0, x0 = xc a d := ⟨_, rfl⟩
    obtain ⟨x1, hx1⟩ : ∃ x1, x1 = xc c d := ⟨_, rfl⟩
    obtain ⟨y0, hy0⟩ : ∃ y0, y0 = yc b d := ⟨_, rfl⟩
    obtain ⟨y1, hy1⟩ : ∃ y1, y1 = yc e d := ⟨_, rfl⟩
    have hq : ∀ n : Int, 0 ≤ n → n / (P : Int) = ((n.toNat / 2 ^ (32 - d) : Nat) : Int) := fun n hn => by
      rw [← cast_div n (32 - d) hn, hP, hs]; simp
    have EX0 := Lib.hid (show (a + 1800000000) / (P : Int) = (x0 : Int) by rw [hx0]; exact hq _ a1)
    have EX1 := Lib.hid (show (c + 1800000000) / (P : Int) = (x1 : Int) by rw [hx1]; exact hq _ a3)
    have EY0 := Lib.hid (show (b + 900000000) / (P : Int) = (y0 : Int) by rw [hy0]; exact hq _ a5)
    have EY1 := Lib.hid (show (e + 900000000) / (P : Int) = (y1 : Int) by rw [hy1]; exact hq _ a7)
    obtain ⟨h41, h42, h43, h44, h45, h46⟩ := H4.out
    have hx01 : x0 ≤ x1 := by rw [hx0, hx1]; exact xc_mono d h42
    have hy01 : y0 ≤ y1 := by rw [hy0, hy1]; exact yc_mono d h45
    have hx1b : (x1 : Int) ≤ 3600000000 := by rw [hx1]; exact xc_le c d h43
    have hy1b : (y1 : Int) ≤ 3600000000 := by rw [hy1]; exact yc_le e d h46
    have HFW : Hid (fw a b c e m d = fewB x0 x1 y0 y1 m) := Lib.hid (by rw [hx0, hx1, hy0, hy1]; rfl)
    have HCE : Hid (cellsAt a b c e d = M.cellsL d y0 (y1 + 1 - y0) x0 (x1 + 1 - x0)) := Lib.hid (by rw [hx0, hx1, hy0, hy1]; exact cells_d H4.out d (by omega))
    clear hx0 hx1 hy0 hy1 h41 h42 h43 h44 h45 h46 hq hP hs
    go_wp2_with fail
    refine (HPOW.out _).mono ?_
    rintro r _ ⟨rfl, rfl⟩
    go_wp2_with fail
    go_quiet (fail)
    rw [EX0.out, EX1.out]
    obtain ⟨w2, hw2⟩ : ∃ w2, w2 = wr.drewN nq := ⟨_, rfl⟩
    have HK1 := Lib.hid (show Blk w2 w.heap.size #[.int .i64 a, .int .i64 b, .int .i64 c, .int .i64 e] 34 by rw [hw2]; exact HK.out.drewN nq)
    have HB1 := Lib.hid (show Below w.heap.size w w2 by rw [hw2]; exact below_drewN HB.out nq)
    rw [← hw2]
    clear hw2 HK HB hk
    have hk := HK1.out.four
    go_wp2_with fail
    go_quiet (fail)
    rw [EY0.out, EY1.out]
    obtain ⟨w3, hw3⟩ : ∃ w3, w3 = w2.drewN nq := ⟨_, rfl⟩
    have HK2 := Lib.hid (show Blk w3 w.heap.size #[.int .i64 a, .int .i64 b, .int .i64 c, .int .i64 e] 34 by rw [hw3]; exact HK1.out.drewN nq)
    have HB2 := Lib.hid (show Below w.heap.size w w3 by rw [hw3]; exact below_drewN HB1.out nq)
    rw [← hw3]
    clear hw3 HK1 HB1 hk
    obtain ⟨dx, hdx⟩ : ∃ dx, x1 = x0 + dx := ⟨x1 - x0, by omega⟩
    obtain ⟨dy, hdy⟩ : ∃ dy, y1 = y0 + dy := ⟨y1 - y0, by omega⟩
    have ex : (x1 : Int) - (x0 : Int) = (dx : Int) := by omega
    have ey : (y1 : Int) - (y0 : Int) = (dy : Int) := by omega
    have HFB : Hid (fewB x0 x1 y0 y1 m = decide (dx + 1 ≤ m ∧ dy + 1 ≤ m ∧ (dx + 1) * (dy + 1) ≤ m)) := Lib.hid (by
      unfold fewB; rw [hdx, hdy, Nat.add_sub_cancel_left, Nat.add_sub_cancel_left])
    have HDX := Lib.hid hdx
    have HDY := Lib.hid hdy
    clear hdx hdy
    by_cases c1 : 64 ≤ dx
    · have t1 : decide ((64 : Int) ≤ (dx : Int)) = true := by simp; omega
      have hfw : fw a b c e m d = false := by rw [HFW.out, HFB.out, decide_eq_false_iff_not]; omega
      clear c1
      obtain ⟨k, rfl⟩ : ∃ k, d = k + 1 := by
        cases d with
        | zero => exact absurd HF0.out (by rw [hfw]; simp)
        | succ k => exact ⟨k, rfl⟩
      have HDK := Lib.hid ((dep_no hfw).symm.trans HDD.out)
      clear hfw HDD
      go_wp2
      go_roundw
      case rel => exact ⟨k, by go_num, by omega, HDK, HK2, HB2⟩
      case measure => simp [intOf]
    · have t1 : decide ((64 : Int) ≤ (dx : Int)) = false := by simp; omega
      by_cases c2 : 64 ≤ dy
      · have t2 : decide ((64 : Int) ≤ (dy : Int)) = true := by simp; omega
        have hfw : fw a b c e m d = false := by rw [HFW.out, HFB.out, decide_eq_false_iff_not]; omega
        clear c1 c2
        obtain ⟨k, rfl⟩ : ∃ k, d = k + 1 := by
          cases d with
          | zero => exact absurd HF0.out (by rw [hfw]; simp)
          | succ k => exact ⟨k, rfl⟩
        have HDK := Lib.hid ((dep_no hfw).symm.trans HDD.out)
        clear hfw HDD
        go_wp2
        go_roundw
        case rel => exact ⟨k, by go_num, by omega, HDK, HK2, HB2⟩
        case measure => simp [intOf]
      · have t2 : decide ((64 : Int) ≤ (dy : Int)) = false := by simp; omega
        obtain ⟨pr, hpr⟩ : ∃ pr, pr = (dx + 1) * (dy + 1) := ⟨_, rfl⟩
        have hprb : pr ≤ 4096 := by
          have := Nat.mul_le_mul (show dx + 1 ≤ 64 by omega) (show dy + 1 ≤ 64 by omega)
          omega
        have hpi : ((dx : Int) + 1) * ((dy : Int) + 1) = (pr : Int) := by rw [hpr]; simp
        have hpi2 : (pr : Int) ≤ 4096 := by omega
        have dxb : (dx : Int) ≤ 64 := by omega
        have dyb : (dy : Int) ≤ 64 := by omega
        by_cases c3 : m < pr
        · have t3 : decide ((m : Int) < (pr : Int)) = true := by simp; omega
          have t3n : decide (m < pr) = true := by simpa using c3
          have hfw : fw a b c e m d = false := by rw [HFW.out, HFB.out, ← hpr, decide_eq_false_iff_not]; omega
          clear c1 c2 c3 hpr hprb
          obtain ⟨k, rfl⟩ : ∃ k, d = k + 1 := by
            cases d with
            | zero => exact absurd HF0.out (by rw [hfw]; simp)
            | succ k => exact ⟨k, rfl⟩
          have HDK := Lib.hid ((dep_no hfw).symm.trans HDD.out)
          clear hfw HDD
          have hpw := wrap_small2 pr hpi2
          have hpw2 := wrap_small pr hpi2
          go_wp2
          clear hpw hpw2
          go_roundw
          case rel => exact ⟨k, by go_num, by omega, HDK, HK2, HB2⟩
          case measure => simp [intOf]
        · have t3 : decide ((m : Int) < (pr : Int)) = false := by simp; omega
          have t3n : decide (m < pr) = false := by simp; omega
          have hfw : fw a b c e m d = true := by
            rw [HFW.out, HFB.out, ← hpr, decide_eq_true_eq]
            have h1 : (dx + 1) * 1 ≤ (dx + 1) * (dy + 1) := Nat.mul_le_mul_left _ (by omega)
            have h2 : 1 * (dy + 1) ≤ (dx + 1) * (dy + 1) := Nat.mul_le_mul_right _ (by omega)
            omega
          have hdd := (dep_yes hfw).symm.trans HDD.out
          have HDN := Lib.hid hdd
          have hlen := cells_few H4.out d hfw
          obtain ⟨TOT, hTOT⟩ : ∃ TOT, TOT = M.srt (cellsAt a b c e d) := ⟨_, rfl⟩
          have HTOT := Lib.hid hTOT
          have HTL : Hid (TOT.length ≤ 64 ∧ 1 ≤ TOT.length) := Lib.hid (by rw [hTOT, (M.srt_perm _).length_eq]; omega)
          have HINI : Hid ((M.cellsL d y0 (y1 + 1 - y0) x0 (x1 + 1 - x0)).foldl M.ins [] = TOT) := Lib.hid (by rw [M.ins_srt, hTOT, HCE.out])
          clear c1 c2 c3 hpr hprb hfw hdd hlen hTOT HDD
          have hpw := wrap_small2 pr hpi2
          have hpw2 := wrap_small pr hpi2
          go_wp2
          clear hpw hpw2 hpi hpi2 t3 t3n
          go_loopw [11, 12] (fun v s12 w4 => ∃ (x : Nat) (acc : List Nat), s12 = .int .i64 x ∧ x0 ≤ x ∧ x ≤ x1 + 1 ∧ Hid (OwnU w4 w.heap.size v acc ∧ Below w.heap.size w w4 ∧ (M.cellsL d y0 (y1 + 1 - y0) x (x1 + 1 - x)).foldl M.ins acc = TOT)) (fun _ s12 _ => x1 + 1 - (intOf s12).toNat)
          case atStart => exact ⟨x0, [], rfl, by omega, by omega, Lib.hid ⟨OwnU.none_ _ _, HB2.out, HINI.out⟩⟩
          case round =>
            obtain ⟨x, acc, rfl, hxa, hxb, HX⟩ := hrel
            clear HK2 HB2
            by_cases hx : x ≤ x1
            · have hx2 : decide ((x : Int) ≤ (x1 : Int)) = true := by simp; omega
              go_wp2_with fail
              go_loopw [11, 13] (fun v s13 w5 => ∃ (y : Nat) (acc : List Nat), s13 = .int .i64 y ∧ y0 ≤ y ∧ y ≤ y1 + 1 ∧ Hid (OwnU w5 w.heap.size v acc ∧ Below w.heap.size w w5 ∧ (M.colL d x y (y1 + 1 - y) ++ M.cellsL d y0 (y1 + 1 - y0) (x + 1) (x1 - x)).foldl M.ins acc = TOT)) (fun _ s13 _ => y1 + 1 - (intOf s13).toNat)
              case atStart =>
                refine ⟨y0, acc, rfl, by omega, by omega, Lib.hid ⟨HX.out.1, HX.out.2.1, ?_⟩⟩
                have e1 : x1 + 1 - x = (x1 - x) + 1 := by omega
                rw [← HX.out.2.2, e1]
                rfl
              case round =>
                clear HX
                obtain ⟨y, acc, rfl, hya, hyb, HY⟩ := hrel
                by_cases hy : y ≤ y1
                · have hy2 : decide ((y : Int) ≤ (y1 : Int)) = true := by simp; omega
                  obtain ⟨A, n, cc, hv⟩ : ∃ A n cc, _ = Value.slice A n cc := by
                    rcases HY.out.1.form with ⟨h0, _⟩ | ⟨g, c', h0, _⟩
                    · exact ⟨_, _, _, h0⟩
                    · exact ⟨_, _, _, h0⟩
                  subst hv
                  obtain ⟨hn, hncc, hpar⟩ := HY.out.1.parts
                  have hal : acc.length ≤ 64 := by
                    have h1 := congrArg List.length HY.out.2.2
                    rw [ins_length] at h1
                    have h2 := HTL.out.1
                    omega
                  have hnb : (n : Int) ≤ 1000 := by omega
                  obtain ⟨x_c, hxc⟩ : ∃ x_c, x_c = M.cod d x y := ⟨_, rfl⟩
                  have HMIX : Hid (∀ w, Calls Try.prog 20 #[.int .u64 x, .int .u64 y, .int .i64 d] w fun e w' => e = .returned (.int .u64 (x_c : Nat)) ∧ w = w') := Lib.hid (fun w => by
                    rw [hxc]; exact mix_any x y d (by omega) (by omega) (by omega) w)
                  have HXC := Lib.hid hxc
                  have HN := Lib.hid hn
                  have HPAR := Lib.hid hpar
                  clear hxc hn hpar
                  go_wp2_with fail
                  refine (HMIX.out _).mono ?_
                  rintro r _ ⟨rfl, rfl⟩
                  go_wp2_with fail
                  go_loop [15] (fun s15 => ∃ k : Nat, s15 = .int .i64 k ∧ k ≤ n ∧ Hid (k ≤ M.pos x_c acc)) (fun s15 => n - (intOf s15).toNat)
                  case atStart => exact ⟨0, rfl, by omega, Lib.hid (Nat.zero_le _)⟩
                  case round =>
                    obtain ⟨k, rfl, hkn, HKP⟩ := hrel
                    have hkcc : k ≤ cc := by omega
                    have hkl : k ≤ acc.length := by have := HN.out; omega
                    by_cases hlt : k < n
                    · have t4 : decide ((k : Int) < (n : Int)) = true := by simp; omega
                      have t4n : decide (k < n) = true := by simpa using hlt
                      have hkacc : k < acc.length := by have := HN.out; omega
                      rcases HPAR.out with ⟨_, h0, _⟩ | ⟨g, hA, hg1, hg2, hcell⟩
                      · rw [h0] at hkacc; simp at hkacc
                      · subst hA
                        have hcl := hcell k hkacc
                        obtain ⟨z, hz⟩ : ∃ z, z = acc[k] := ⟨_, rfl⟩
                        have hst := M.pos_step x_c acc k hkacc HKP.out
                        rw [← hz] at hcl hst
                        clear hcell hz
                        by_cases hzc : z < x_c
                        · have t5 : decide ((z : Int) < (x_c : Int)) = true := by simp; omega
                          have t5n : decide (z < x_c) = true := by simpa using hzc
                          rw [if_pos hzc] at hst
                          have HST := Lib.hid hst
                          clear hst
                          go_wp2
                          go_round
                          case rel => exact ⟨k + 1, by go_num, by omega, HST⟩
                          case measure => simp [intOf]; omega
                        · have t5 : decide ((z : Int) < (x_c : Int)) = false := by simp; omega
                          have t5n : decide (z < x_c) = false := by simpa using hzc
                          rw [if_neg hzc] at hst
                          have HPOS : Hid (acc.take k ++ x_c :: acc.drop k = M.ins acc x_c) := Lib.hid (by rw [hst]; rfl)
                          clear hst HKP
                          go_wp2_with fail
                          obtain ⟨Sa0, Sa0d⟩ : ∃ S : World → Prop, S = fun v : World => OwnU v w.heap.size (.slice (some ⟨g, 0, none⟩) n cc) acc ∧ Below w.heap.size w v := ⟨_, rfl⟩
                          have Sa0t0 : Stands Sa0 := by rw [Sa0d]; exact ((stands_own _ _ _).and (stands_below _))
                          have Sa0u0 : ∀ v, Sa0 v → OwnU v w.heap.size (.slice (some ⟨g, 0, none⟩) n cc) acc ∧ Below w.heap.size w v := fun v h => by rw [Sa0d] at h; exact h
                          have Sa0m0 : ∀ v, (OwnU v w.heap.size (.slice (some ⟨g, 0, none⟩) n cc) acc ∧ Below w.heap.size w v) → Sa0 v := fun v h => by rw [Sa0d]; exact h
                          have Sa0u := Lib.hid Sa0u0
                          have Sa0m := Lib.hid Sa0m0
                          have Sa0t := Lib.hid Sa0t0
                          clear Sa0d Sa0u0 Sa0m0 Sa0t0
                          refine wp_region_X (S := Sa0) (by kernel_rfl) (Sa0m.out _ ⟨HY.out.1, HY.out.2.1.drew⟩) ?_
                          refine wpX_take (i := 0) (v := ?_) Sa0t.out rfl rfl (by kernel_rfl) (by kernel_rfl) (by kernel_rfl) (by kernel_rfl) (fun _ _ _ h => h) (SteadyX.value (by rfl) ?_) ?_
                          rotate_left
                          · (intro w_ hS; go_simp; try with_reducible rfl)
                          simp only [List.setIfInBounds_toArray, List.set_cons_zero, List.set_cons_succ]
                          refine wpX_take (i := 1) (v := ?_) Sa0t.out rfl rfl (by kernel_rfl) (by kernel_rfl) (by kernel_rfl) (by kernel_rfl) (fun _ _ _ h => h) (SteadyX.value (by rfl) ?_) ?_
                          rotate_left
                          · (intro w_ hS; go_simp; try with_reducible rfl)
                          simp only [List.setIfInBounds_toArray, List.set_cons_zero, List.set_cons_succ]
                          refine wpX_take (i := 2) (v := (.slice (some ⟨g, 0, none⟩) k cc)) Sa0t.out rfl rfl (by kernel_rfl) (by kernel_rfl) (by kernel_rfl) (by kernel_rfl) (fun _ _ _ h => h) (SteadyX.value (by rfl) (fun w_ hS => by obtain ⟨q0, q1⟩ := Sa0u.out _ hS; exact exec_sliceH (.tmp 109) (.tmp 110) rfl rfl rfl hkcc)) ?_
                          simp only [List.setIfInBounds_toArray, List.set_cons_zero, List.set_cons_succ]
                          refine wpX_take (i := 3) (v := ?_) Sa0t.out rfl rfl (by kernel_rfl) (by kernel_rfl) (by kernel_rfl) (by kernel_rfl) (fun _ _ _ h => h) (SteadyX.value (by rfl) ?_) ?_
                          rotate_left
                          · (intro w_ hS; go_simp; try with_reducible rfl)
                          simp only [List.setIfInBounds_toArray, List.set_cons_zero, List.set_cons_succ]
                          refine wpX_take (i := 5) (v := ?_) Sa0t.out rfl rfl (by kernel_rfl) (by kernel_rfl) (by kernel_rfl) (by kernel_rfl) (fun _ _ _ h => h) (SteadyX.value (by rfl) ?_) ?_
                          rotate_left
                          · (intro w_ hS; go_simp; try with_reducible rfl)
                          simp only [List.setIfInBounds_toArray, List.set_cons_zero, List.set_cons_succ]
                          refine wpX_take (i := 6) (v := ?_) Sa0t.out rfl rfl (by kernel_rfl) (by kernel_rfl) (by kernel_rfl) (by kernel_rfl) (fun _ _ _ h => h) (SteadyX.value (by rfl) ?_) ?_
                          rotate_left
                          · (intro w_ hS; go_simp; try with_reducible rfl)
                          simp only [List.setIfInBounds_toArray, List.set_cons_zero, List.set_cons_succ]
                          refine wpX_take (i := 7) (v := (sliced (some ⟨g, 0, none⟩) k n cc 1)) Sa0t.out rfl rfl (by kernel_rfl) (by kernel_rfl) (by kernel_rfl) (by kernel_rfl) (fun _ _ _ h => h) (SteadyX.value (by rfl) (fun w_ hS => by obtain ⟨q0, q1⟩ := Sa0u.out _ hS; exact exec_sliceL (.tmp 114) (.tmp 115) rfl rfl rfl hkn)) ?_
                          simp only [List.setIfInBounds_toArray, List.set_cons_zero, List.set_cons_succ]
                          refine wpX_one (i := 4) (by kernel_rfl) (fun w_ hS => ?_)
                          obtain ⟨q0, q1⟩ := Sa0u.out _ hS
                          obtain ⟨G, hG⟩ : ∃ G, G = w_.heap.size := ⟨_, rfl⟩
                          have hltG : ∀ j, (Value.slice (some ⟨g, 0, none⟩) n cc).ownBlock = some j → j < G := fun j hj => by rw [hG]; exact (World.ownsRow.lt q0 j hj).2
                          have hbG : w.heap.size ≤ G := by rw [hG]; exact q1.size
                          obtain ⟨Sa1, Sa1d⟩ : ∃ S : World → Prop, S = fun v : World => OwnU v w.heap.size (.slice (some ⟨g, 0, none⟩) n cc) acc ∧ Below w.heap.size w v ∧ OwnU v G (.slice (some ⟨G, 0, none⟩) 1 1) [x_c] := ⟨_, rfl⟩
                          have Sa1t0 : Stands Sa1 := by rw [Sa1d]; exact ((stands_own _ _ _).and ((stands_below _).and (stands_own _ _ _)))
                          have Sa1u0 : ∀ v, Sa1 v → OwnU v w.heap.size (.slice (some ⟨g, 0, none⟩) n cc) acc ∧ Below w.heap.size w v ∧ OwnU v G (.slice (some ⟨G, 0, none⟩) 1 1) [x_c] := fun v h => by rw [Sa1d] at h; exact h
                          have Sa1m0 : ∀ v, (OwnU v w.heap.size (.slice (some ⟨g, 0, none⟩) n cc) acc ∧ Below w.heap.size w v ∧ OwnU v G (.slice (some ⟨G, 0, none⟩) 1 1) [x_c]) → Sa1 v := fun v h => by rw [Sa1d]; exact h
                          have Sa1u := Lib.hid Sa1u0
                          have Sa1m := Lib.hid Sa1m0
                          have Sa1t := Lib.hid Sa1t0
                          clear Sa1d Sa1u0 Sa1m0 Sa1t0
                          have st_ : Sa1 (w_.alloc (.cells #[.int .u64 x_c] 24)) := Sa1m.out _ ⟨OwnU.below q0 ((Below.refl _ w_).alloc (Nat.le_refl _) _), grow_alloc q1 _, OwnU.single (Blk.new' w_ _ _ hG)⟩
                          refine wpX_run (i := 4) (v := .slice (some ⟨G, 0, none⟩) 1 1) (w' := (w_.alloc (.cells #[.int .u64 x_c] 24))) Sa1 rfl rfl (by rfl) (by (subst hG; go_simp)) Sa1t.out (.inr fun v h => Sa0m.out _ (by obtain ⟨q0, q1, q2⟩ := Sa1u.out _ h; exact ⟨q0, q1⟩)) st_ ?_
                          clear hS st_ hG q0 q1
                          clear w_
                          simp only [List.setIfInBounds_toArray, List.set_cons_zero, List.set_cons_succ]
                          refine wpX_one (i := 8) (by kernel_rfl) (fun w_ hS => ?_)
                          obtain ⟨q0, q1, q2⟩ := Sa1u.out _ hS
                          obtain ⟨v1, w1, hrun1, ho1, hk1, hb1, hn1⟩ := run_ins1 56 q0 k hkl G x_c q2 hbG hltG (by omega)
                          obtain ⟨Sa2, Sa2d⟩ : ∃ S : World → Prop, S = fun v : World => OwnU v w.heap.size (.slice (some ⟨g, 0, none⟩) n cc) acc ∧ Below w.heap.size w v ∧ OwnU v G (.slice (some ⟨G, 0, none⟩) 1 1) [x_c] ∧ OwnU v G v1 (x_c :: acc.drop k) := ⟨_, rfl⟩
                          have Sa2t0 : Stands Sa2 := by rw [Sa2d]; exact ((stands_own _ _ _).and ((stands_below _).and ((stands_own _ _ _).and (stands_own _ _ _))))
                          have Sa2u0 : ∀ v, Sa2 v → OwnU v w.heap.size (.slice (some ⟨g, 0, none⟩) n cc) acc ∧ Below w.heap.size w v ∧ OwnU v G (.slice (some ⟨G, 0, none⟩) 1 1) [x_c] ∧ OwnU v G v1 (x_c :: acc.drop k) := fun v h => by rw [Sa2d] at h; exact h
                          have Sa2m0 : ∀ v, (OwnU v w.heap.size (.slice (some ⟨g, 0, none⟩) n cc) acc ∧ Below w.heap.size w v ∧ OwnU v G (.slice (some ⟨G, 0, none⟩) 1 1) [x_c] ∧ OwnU v G v1 (x_c :: acc.drop k)) → Sa2 v := fun v h => by rw [Sa2d]; exact h
                          have Sa2u := Lib.hid Sa2u0
                          have Sa2m := Lib.hid Sa2m0
                          have Sa2t := Lib.hid Sa2t0
                          clear Sa2d Sa2u0 Sa2m0 Sa2t0
                          have st_ : Sa2 w1 := Sa2m.out _ ⟨hk1, q1.trans hb1, hn1, ho1⟩
                          refine wpX_run (i := 8) (v := v1) (w' := w1) Sa2 rfl rfl (by rfl) (by exact exec_append (.tmp 113) (.tmp 116) 56 56 rfl rfl rfl hrun1) Sa2t.out (.inr fun v h => Sa1m.out _ (by obtain ⟨q0, q1, q2, q3⟩ := Sa2u.out _ h; exact ⟨q0, q1, q2⟩)) st_ ?_
                          clear hS st_ hrun1 ho1 hk1 hb1 hn1 hltG hbG q0 q1 q2
                          clear w_
                          simp only [List.setIfInBounds_toArray, List.set_cons_zero, List.set_cons_succ]
                          refine wpX_one (i := 9) (by kernel_rfl) (fun w_ hS => ?_)
                          obtain ⟨q0, q1, q2, q3⟩ := Sa2u.out _ hS
                          obtain ⟨v2, w2, hrun2, ho2, hb2⟩ := run_ins2 56 q0 k hkl q3 (by simp) q1.size (by simp; omega)
                          obtain ⟨Sa3, Sa3d⟩ : ∃ S : World → Prop, S = fun v : World => Below w.heap.size w v ∧ OwnU v w.heap.size v2 (acc.take k ++ x_c :: acc.drop k) := ⟨_, rfl⟩
                          have Sa3t0 : Stands Sa3 := by rw [Sa3d]; exact ((stands_below _).and (stands_own _ _ _))
                          have Sa3u0 : ∀ v, Sa3 v → Below w.heap.size w v ∧ OwnU v w.heap.size v2 (acc.take k ++ x_c :: acc.drop k) := fun v h => by rw [Sa3d] at h; exact h
                          have Sa3m0 : ∀ v, (Below w.heap.size w v ∧ OwnU v w.heap.size v2 (acc.take k ++ x_c :: acc.drop k)) → Sa3 v := fun v h => by rw [Sa3d]; exact h
                          have Sa3u := Lib.hid Sa3u0
                          have Sa3m := Lib.hid Sa3m0
                          have Sa3t := Lib.hid Sa3t0
                          clear Sa3d Sa3u0 Sa3m0 Sa3t0
                          have st_ : Sa3 w2 := Sa3m.out _ ⟨q1.trans hb2, ho2⟩
                          refine wpX_run (i := 9) (v := v2) (w' := w2) Sa3 rfl rfl (by rfl) (by exact exec_append (.tmp 111) (.tmp 117) 56 56 rfl rfl rfl hrun2) Sa3t.out (.inl (by kernel_rfl)) st_ ?_
                          clear hS st_ hrun2 ho2 hb2 q0 q1 q2 q3
                          clear w_
                          simp only [List.setIfInBounds_toArray, List.set_cons_zero, List.set_cons_succ]
                          refine wpX_take (i := 10) (v := ?_) Sa3t.out rfl rfl (by kernel_rfl) (by kernel_rfl) (by kernel_rfl) (by kernel_rfl) (fun _ _ _ h => h) (SteadyX.value (by rfl) ?_) ?_
                          rotate_left
                          · (intro w_ hS; go_simp; try with_reducible rfl)
                          simp only [List.setIfInBounds_toArray, List.set_cons_zero, List.set_cons_succ]
                          refine wpX_done (by kernel_rfl) (fun W hS => ?_) _
                          obtain ⟨q0, q1⟩ := Sa3u.out _ hS
                          clear hS Sa0u Sa0m Sa0t Sa1u Sa1m Sa1t Sa2u Sa2m Sa2t Sa3u Sa3m Sa3t
                          clear Sa0 Sa1 Sa2 Sa3
                          have HY2 := Lib.hid (show OwnU W w.heap.size v2 (M.ins acc x_c) ∧ Below w.heap.size w W ∧ (M.colL d x (y + 1) (y1 + 1 - (y + 1)) ++ M.cellsL d y0 (y1 + 1 - y0) (x + 1) (x1 - x)).foldl M.ins (M.ins acc x_c) = TOT from by
                            refine ⟨?_, q0, ?_⟩
                            · rw [HPOS.out] at q1; exact q1
                            · rw [← HY.out.2.2]
                              have e1 : y1 + 1 - y = (y1 + 1 - (y + 1)) + 1 := by omega
                              rw [e1, HXC.out]
                              rfl)
                          clear q0 q1 HY
                          go_wp2
                          go_roundw
                          case rel => exact ⟨y + 1, _, by go_num, by omega, by omega, HY2⟩
                          case measure => simp [intOf]; omega
                    · have t4 : decide ((k : Int) < (n : Int)) = false := by simp; omega
                      have t4n : decide (k < n) = false := by simpa using hlt
                      have hkp : k = M.pos x_c acc := by
                        have h1 := HKP.out
                        have h2 := M.pos_le x_c acc
                        have h3 := HN.out
                        omega
                      have HPOS : Hid (acc.take k ++ x_c :: acc.drop k = M.ins acc x_c) := Lib.hid (by rw [hkp]; rfl)
                      clear hkp HKP
                      go_wp2_with fail
                      obtain ⟨Sb0, Sb0d⟩ : ∃ S : World → Prop, S = fun v : World => OwnU v w.heap.size (.slice A n cc) acc ∧ Below w.heap.size w v := ⟨_, rfl⟩
                      have Sb0t0 : Stands Sb0 := by rw [Sb0d]; exact ((stands_own _ _ _).and (stands_below _))
                      have Sb0u0 : ∀ v, Sb0 v → OwnU v w.heap.size (.slice A n cc) acc ∧ Below w.heap.size w v := fun v h => by rw [Sb0d] at h; exact h
                      have Sb0m0 : ∀ v, (OwnU v w.heap.size (.slice A n cc) acc ∧ Below w.heap.size w v) → Sb0 v := fun v h => by rw [Sb0d]; exact h
                      have Sb0u := Lib.hid Sb0u0
                      have Sb0m := Lib.hid Sb0m0
                      have Sb0t := Lib.hid Sb0t0
                      clear Sb0d Sb0u0 Sb0m0 Sb0t0
                      refine wp_region_X (S := Sb0) (by kernel_rfl) (Sb0m.out _ ⟨HY.out.1, HY.out.2.1.drew⟩) ?_
                      refine wpX_take (i := 0) (v := ?_) Sb0t.out rfl rfl (by kernel_rfl) (by kernel_rfl) (by kernel_rfl) (by kernel_rfl) (fun _ _ _ h => h) (SteadyX.value (by rfl) ?_) ?_
                      rotate_left
                      · (intro w_ hS; go_simp; try with_reducible rfl)
                      simp only [List.setIfInBounds_toArray, List.set_cons_zero, List.set_cons_succ]
                      refine wpX_take (i := 1) (v := ?_) Sb0t.out rfl rfl (by kernel_rfl) (by kernel_rfl) (by kernel_rfl) (by kernel_rfl) (fun _ _ _ h => h) (SteadyX.value (by rfl) ?_) ?_
                      rotate_left
                      · (intro w_ hS; go_simp; try with_reducible rfl)
                      simp only [List.setIfInBounds_toArray, List.set_cons_zero, List.set_cons_succ]
                      refine wpX_take (i := 2) (v := (.slice A k cc)) Sb0t.out rfl rfl (by kernel_rfl) (by kernel_rfl) (by kernel_rfl) (by kernel_rfl) (fun _ _ _ h => h) (SteadyX.value (by rfl) (fun w_ hS => by obtain ⟨q0, q1⟩ := Sb0u.out _ hS; exact exec_sliceH (.tmp 109) (.tmp 110) rfl rfl rfl hkcc)) ?_
                      simp only [List.setIfInBounds_toArray, List.set_cons_zero, List.set_cons_succ]
                      refine wpX_take (i := 3) (v := ?_) Sb0t.out rfl rfl (by kernel_rfl) (by kernel_rfl) (by kernel_rfl) (by kernel_rfl) (fun _ _ _ h => h) (SteadyX.value (by rfl) ?_) ?_
                      rotate_left
                      · (intro w_ hS; go_simp; try with_reducible rfl)
                      simp only [List.setIfInBounds_toArray, List.set_cons_zero, List.set_cons_succ]
                      refine wpX_take (i := 5) (v := ?_) Sb0t.out rfl rfl (by kernel_rfl) (by kernel_rfl) (by kernel_rfl) (by kernel_rfl) (fun _ _ _ h => h) (SteadyX.value (by rfl) ?_) ?_
                      rotate_left
                      · (intro w_ hS; go_simp; try with_reducible rfl)
                      simp only [List.setIfInBounds_toArray, List.set_cons_zero, List.set_cons_succ]
                      refine wpX_take (i := 6) (v := ?_) Sb0t.out rfl rfl (by kernel_rfl) (by kernel_rfl) (by kernel_rfl) (by kernel_rfl) (fun _ _ _ h => h) (SteadyX.value (by rfl) ?_) ?_
                      rotate_left
                      · (intro w_ hS; go_simp; try with_reducible rfl)
                      simp only [List.setIfInBounds_toArray, List.set_cons_zero, List.set_cons_succ]
                      refine wpX_take (i := 7) (v := (sliced A k n cc 1)) Sb0t.out rfl rfl (by kernel_rfl) (by kernel_rfl) (by kernel_rfl) (by kernel_rfl) (fun _ _ _ h => h) (SteadyX.value (by rfl) (fun w_ hS => by obtain ⟨q0, q1⟩ := Sb0u.out _ hS; exact exec_sliceL (.tmp 114) (.tmp 115) rfl rfl rfl hkn)) ?_
                      simp only [List.setIfInBounds_toArray, List.set_cons_zero, List.set_cons_succ]
                      refine wpX_one (i := 4) (by kernel_rfl) (fun w_ hS => ?_)
                      obtain ⟨q0, q1⟩ := Sb0u.out _ hS
                      obtain ⟨G, hG⟩ : ∃ G, G = w_.heap.size := ⟨_, rfl⟩
                      have hltG : ∀ j, (Value.slice A n cc).ownBlock = some j → j < G := fun j hj => by rw [hG]; exact (World.ownsRow.lt q0 j hj).2
                      have hbG : w.heap.size ≤ G := by rw [hG]; exact q1.size
                      obtain ⟨Sb1, Sb1d⟩ : ∃ S : World → Prop, S = fun v : World => OwnU v w.heap.size (.slice A n cc) acc ∧ Below w.heap.size w v ∧ OwnU v G (.slice (some ⟨G, 0, none⟩) 1 1) [x_c] := ⟨_, rfl⟩
                      have Sb1t0 : Stands Sb1 := by rw [Sb1d]; exact ((stands_own _ _ _).and ((stands_below _).and (stands_own _ _ _)))
                      have Sb1u0 : ∀ v, Sb1 v → OwnU v w.heap.size (.slice A n cc) acc ∧ Below w.heap.size w v ∧ OwnU v G (.slice (some ⟨G, 0, none⟩) 1 1) [x_c] := fun v h => by rw [Sb1d] at h; exact h
                      have Sb1m0 : ∀ v, (OwnU v w.heap.size (.slice A n cc) acc ∧ Below w.heap.size w v ∧ OwnU v G (.slice (some ⟨G, 0, none⟩) 1 1) [x_c]) → Sb1 v := fun v h => by rw [Sb1d]; exact h
                      have Sb1u := Lib.hid Sb1u0
                      have Sb1m := Lib.hid Sb1m0
                      have Sb1t := Lib.hid Sb1t0
                      clear Sb1d Sb1u0 Sb1m0 Sb1t0
                      have st_ : Sb1 (w_.alloc (.cells #[.int .u64 x_c] 24)) := Sb1m.out _ ⟨OwnU.below q0 ((Below.refl _ w_).alloc (Nat.le_refl _) _), grow_alloc q1 _, OwnU.single (Blk.new' w_ _ _ hG)⟩
                      refine wpX_run (i := 4) (v := .slice (some ⟨G, 0, none⟩) 1 1) (w' := (w_.alloc (.cells #[.int .u64 x_c] 24))) Sb1 rfl rfl (by rfl) (by (subst hG; go_simp)) Sb1t.out (.inr fun v h => Sb0m.out _ (by obtain ⟨q0, q1, q2⟩ := Sb1u.out _ h; exact ⟨q0, q1⟩)) st_ ?_
                      clear hS st_ hG q0 q1
                      clear w_
                      simp only [List.setIfInBounds_toArray, List.set_cons_zero, List.set_cons_succ]
                      refine wpX_one (i := 8) (by kernel_rfl) (fun w_ hS => ?_)
                      obtain ⟨q0, q1, q2⟩ := Sb1u.out _ hS
                      obtain ⟨v1, w1, hrun1, ho1, hk1, hb1, hn1⟩ := run_ins1 56 q0 k hkl G x_c q2 hbG hltG (by omega)
                      obtain ⟨Sb2, Sb2d⟩ : ∃ S : World → Prop, S = fun v : World => OwnU v w.heap.size (.slice A n cc) acc ∧ Below w.heap.size w v ∧ OwnU v G (.slice (some ⟨G, 0, none⟩) 1 1) [x_c] ∧ OwnU v G v1 (x_c :: acc.drop k) := ⟨_, rfl⟩
                      have Sb2t0 : Stands Sb2 := by rw [Sb2d]; exact ((stands_own _ _ _).and ((stands_below _).and ((stands_own _ _ _).and (stands_own _ _ _))))
                      have Sb2u0 : ∀ v, Sb2 v → OwnU v w.heap.size (.slice A n cc) acc ∧ Below w.heap.size w v ∧ OwnU v G (.slice (some ⟨G, 0, none⟩) 1 1) [x_c] ∧ OwnU v G v1 (x_c :: acc.drop k) := fun v h => by rw [Sb2d] at h; exact h
                      have Sb2m0 : ∀ v, (OwnU v w.heap.size (.slice A n cc) acc ∧ Below w.heap.size w v ∧ OwnU v G (.slice (some ⟨G, 0, none⟩) 1 1) [x_c] ∧ OwnU v G v1 (x_c :: acc.drop k)) → Sb2 v := fun v h => by rw [Sb2d]; exact h
                      have Sb2u := Lib.hid Sb2u0
                      have Sb2m := Lib.hid Sb2m0
                      have Sb2t := Lib.hid Sb2t0
                      clear Sb2d Sb2u0 Sb2m0 Sb2t0
                      have st_ : Sb2 w1 := Sb2m.out _ ⟨hk1, q1.trans hb1, hn1, ho1⟩
                      refine wpX_run (i := 8) (v := v1) (w' := w1) Sb2 rfl rfl (by rfl) (by exact exec_append (.tmp 113) (.tmp 116) 56 56 rfl rfl rfl hrun1) Sb2t.out (.inr fun v h => Sb1m.out _ (by obtain ⟨q0, q1, q2, q3⟩ := Sb2u.out _ h; exact ⟨q0, q1, q2⟩)) st_ ?_
                      clear hS st_ hrun1 ho1 hk1 hb1 hn1 hltG hbG q0 q1 q2
                      clear w_
                      simp only [List.setIfInBounds_toArray, List.set_cons_zero, List.set_cons_succ]
                      refine wpX_one (i := 9) (by kernel_rfl) (fun w_ hS => ?_)
                      obtain ⟨q0, q1, q2, q3⟩ := Sb2u.out _ hS
                      obtain ⟨v2, w2, hrun2, ho2, hb2⟩ := run_ins2 56 q0 k hkl q3 (by simp) q1.size (by simp; omega)
                      obtain ⟨Sb3, Sb3d⟩ : ∃ S : World → Prop, S = fun v : World => Below w.heap.size w v ∧ OwnU v w.heap.size v2 (acc.take k ++ x_c :: acc.drop k) := ⟨_, rfl⟩
                      have Sb3t0 : Stands Sb3 := by rw [Sb3d]; exact ((stands_below _).and (stands_own _ _ _))
                      have Sb3u0 : ∀ v, Sb3 v → Below w.heap.size w v ∧ OwnU v w.heap.size v2 (acc.take k ++ x_c :: acc.drop k) := fun v h => by rw [Sb3d] at h; exact h
                      have Sb3m0 : ∀ v, (Below w.heap.size w v ∧ OwnU v w.heap.size v2 (acc.take k ++ x_c :: acc.drop k)) → Sb3 v := fun v h => by rw [Sb3d]; exact h
                      have Sb3u := Lib.hid Sb3u0
                      have Sb3m := Lib.hid Sb3m0
                      have Sb3t := Lib.hid Sb3t0
                      clear Sb3d Sb3u0 Sb3m0 Sb3t0
                      have st_ : Sb3 w2 := Sb3m.out _ ⟨q1.trans hb2, ho2⟩
                      refine wpX_run (i := 9) (v := v2) (w' := w2) Sb3 rfl rfl (by rfl) (by exact exec_append (.tmp 111) (.tmp 117) 56 56 rfl rfl rfl hrun2) Sb3t.out (.inl (by kernel_rfl)) st_ ?_
                      clear hS st_ hrun2 ho2 hb2 q0 q1 q2 q3
                      clear w_
                      simp only [List.setIfInBounds_toArray, List.set_cons_zero, List.set_cons_succ]
                      refine wpX_take (i := 10) (v := ?_) Sb3t.out rfl rfl (by kernel_rfl) (by kernel_rfl) (by kernel_rfl) (by kernel_rfl) (fun _ _ _ h => h) (SteadyX.value (by rfl) ?_) ?_
                      rotate_left
                      · (intro w_ hS; go_simp; try with_reducible rfl)
                      simp only [List.setIfInBounds_toArray, List.set_cons_zero, List.set_cons_succ]
                      refine wpX_done (by kernel_rfl) (fun W hS => ?_) _
                      obtain ⟨q0, q1⟩ := Sb3u.out _ hS
                      clear hS Sb0u Sb0m Sb0t Sb1u Sb1m Sb1t Sb2u Sb2m Sb2t Sb3u Sb3m Sb3t
                      clear Sb0 Sb1 Sb2 Sb3
                      have HY2 := Lib.hid (show OwnU W w.heap.size v2 (M.ins acc x_c) ∧ Below w.heap.size w W ∧ (M.colL d x (y + 1) (y1 + 1 - (y + 1)) ++ M.cellsL d y0 (y1 + 1 - y0) (x + 1) (x1 - x)).foldl M.ins (M.ins acc x_c) = TOT from by
                        refine ⟨?_, q0, ?_⟩
                        · rw [HPOS.out] at q1; exact q1
                        · rw [← HY.out.2.2]
                          have e1 : y1 + 1 - y = (y1 + 1 - (y + 1)) + 1 := by omega
                          rw [e1, HXC.out]
                          rfl)
                      clear q0 q1 HY
                      go_wp2
                      go_roundw
                      case rel => exact ⟨y + 1, _, by go_num, by omega, by omega, HY2⟩
                      case measure => simp [intOf]; omega
                · have hy2 : decide ((y : Int) ≤ (y1 : Int)) = false := by simp; omega
                  obtain rfl : y = y1 + 1 := by omega
                  have HY2 := Lib.hid (show OwnU wr w.heap.size _ acc ∧ Below w.heap.size w wr ∧ (M.cellsL d y0 (y1 + 1 - y0) (x + 1) (x1 + 1 - (x + 1))).foldl M.ins acc = TOT from by
                    refine ⟨HY.out.1, HY.out.2.1, ?_⟩
                    have e1 : x1 + 1 - (x + 1) = x1 - x := by omega
                    rw [← HY.out.2.2, e1]
                    simp [M.colL])
                  clear HY
                  go_wp2
                  go_roundw
                  case rel => exact ⟨x + 1, _, by go_num, by omega, by omega, HY2⟩
                  case measure => simp [intOf]; omega
            · have hx2 : decide ((x : Int) ≤ (x1 : Int)) = false := by simp; omega
              obtain rfl : x = x1 + 1 := by omega
              have hacc : acc = TOT := by
                have h1 := HX.out.2.2
                rw [Nat.sub_self] at h1
                exact h1
              subst hacc
              have hne : acc ≠ [] := by intro h0; have := HTL.out.2; rw [h0] at this; simp at this
              obtain ⟨g, cc, hv, hg1, hg2⟩ : ∃ g cc, _ = Value.slice (some ⟨g, 0, none⟩) acc.length cc ∧ w.heap.size ≤ g ∧ g < wr.heap.size := by
                rcases HX.out.1.form with ⟨_, h0⟩ | h0
                · exact absurd h0 hne
                · exact h0
              subst hv
              have HRNG := Lib.hid (ranges_any acc d acc.length g cc hd rfl (by have := HTL.out.1; omega) (by rw [HTOT.out]; exact M.srt_lt _ (cells_nd H4.out d (by omega)))
                (by intro z hz; rw [HTOT.out] at hz; exact cells_lt H4.out d (by omega) z ((M.srt_perm _).mem_iff.1 hz)) wr hg2 (fun k hk => HX.out.1.get hk))
              obtain ⟨n, hn⟩ : ∃ n, n = acc.length := ⟨_, rfl⟩
              rw [← hn] at HRNG ⊢
              have HBX := Lib.hid HX.out.2.1
              clear hne HX hn
              go_wp2_with fail
              refine HRNG.out.mono ?_
              rintro r w6 ⟨v, rfl, ho, hb⟩
              have HFIN := Lib.hid (show OwnR 41 w6 w.heap.size v (coverL a b c e m) ∧ Below w.heap.size w w6 from by
                refine ⟨?_, grow HBX.out hb⟩
                have e1 : coverL a b c e m = M.ranges (4 ^ (32 - d)) acc := by
                  unfold coverL coverS
                  rw [← HDN.out, HTOT.out]
                rw [e1]
                exact Joins.ownsRow_le ho HBX.out.size)
              clear ho hb
              go_wp2
              go_ret
              exact ⟨_, rfl, HFIN.out⟩

end Go.Proofs.Ythinjaddebfdhaa.Deep
