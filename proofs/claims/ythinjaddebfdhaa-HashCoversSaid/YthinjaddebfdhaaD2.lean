/- Walk: the reference's ranges. Printed by mk_d2.py. -/
import Derived.Test.YthinjaddebfdhaaD1
namespace Go.Proofs.Ythinjaddebfdhaa
open Go.RowKit
set_option maxRecDepth 20000

theorem quad_step (x d t : Nat) (hx : x < 4 ^ d ∧ d ≤ 32) (ht : t < 32 - d) {lo hi : Nat} (h1 : lo = x * 4 ^ t) (h2 : hi = x * 4 ^ t + (4 ^ t - 1)) :
    4 * (lo : Int) ≤ 18446744073709551615 ∧ 4 * (hi : Int) + 3 ≤ 18446744073709551615 ∧ (4 * lo = x * 4 ^ (t + 1) ∧ 4 * hi + 3 = x * 4 ^ (t + 1) + (4 ^ (t + 1) - 1)) := by
  have a1 : (x + 1) * 4 ^ (t + 1) ≤ 4 ^ d * 4 ^ (32 - d) := Nat.mul_le_mul hx.1 (Nat.pow_le_pow_right (by decide) (by omega))
  rw [← Nat.pow_add, show d + (32 - d) = 32 by omega] at a1
  have a2 : (4 : Nat) ^ 32 = 18446744073709551616 := by decide
  have a3 : 0 < 4 ^ t := Nat.pow_pos (by decide)
  have a4 : x * 4 ^ (t + 1) = 4 * (x * 4 ^ t) := by rw [Nat.pow_succ, ← Nat.mul_assoc, Nat.mul_comm _ 4]
  have a5 : (4 : Nat) ^ (t + 1) = 4 * 4 ^ t := by rw [Nat.pow_succ, Nat.mul_comm]
  rw [Nat.succ_mul, a4, a2] at a1
  rw [a4]
  rw [a5] at a1 ⊢
  subst h1
  subst h2
  generalize x * 4 ^ t = u at *
  generalize 4 ^ t = v at *
  omega

set_option maxHeartbeats 8000000 in
theorem ranges_any (cs : List Nat) (d n g cc : Nat) (hd : (d : Int) ≤ 32) (hn : n = cs.length) (hnb : (n : Int) ≤ 64) (hs : cs.Pairwise (· < ·)) (hb : ∀ x ∈ cs, x < 4 ^ d) (w : World)
    (hg : g < w.heap.size) (hget : ∀ k (hk : k < cs.length), w.cell? ⟨g, k, none⟩ = some (.int .u64 (cs[k] : Nat))) :
    Calls Try.prog 29 #[.slice (some ⟨g, 0, none⟩) n cc, .int .i64 d] w fun r w' => ∃ v, r = .returned v ∧ OwnR 41 w' w.heap.size v (M.ranges (4 ^ (32 - d)) cs) ∧ Below w.heap.size w w' := by
  have HN := Lib.hid hn
  have HG := Lib.hid hg
  have HGET := Lib.hid hget
  have HBD := Lib.hid hb
  have d0 : (0 : Int) ≤ 32 - (d : Int) := by omega
  obtain ⟨S, hS⟩ : ∃ S, S = 4 ^ (32 - d) := ⟨_, rfl⟩
  have hSp : 0 < S := by rw [hS]; exact Nat.pow_pos (by decide)
  have hINV : Hid (∀ k, k ≤ cs.length → M.Inv S (cs.take k) ((cs.take k).foldl (M.pushR S) [])) := Lib.hid (M.Inv.take hSp hs (fun x hx => by rw [hS]; exact (shl_low x d (by omega) (hb x hx)).2.2))
  have hJN : Hid (∀ k (hk : k + 1 < cs.length), M.joins S ((cs.take (k + 1)).foldl (M.pushR S) []) cs[k + 1] = decide (cs[k + 1] = cs[k] + 1)) := Lib.hid (fun k hk => by
    refine (hINV.out (k + 1) (by omega)).joins hSp (by rw [hS]; exact (shl_low _ d (by omega) (hb _ (List.getElem_mem hk))).2.2) ?_ (List.pairwise_iff_getElem.1 hs k (k + 1) (by omega) hk (by omega))
    rw [List.take_succ_eq_append_getElem (by omega), List.getLast?_concat])
  have HLT := Lib.hid (fun k (hk : k + 1 < cs.length) => List.pairwise_iff_getElem.1 hs k (k + 1) (by omega) hk (by omega))
  have HSS := Lib.hid hS
  rw [← hS]
  clear hn hg hget hb hs hS
  go_enter Try.func29, Try.ntmps29
  go_wp2
  go_loopw [5, 6] (fun vo i wr => ∃ k : Nat, i = .int .i64 k ∧ k ≤ n ∧ Hid (OwnR 41 wr w.heap.size vo ((cs.take k).foldl (M.pushR S) []) ∧ Below w.heap.size w wr)) (fun _ i _ => n - (intOf i).toNat)
  case atStart => exact ⟨0, rfl, by omega, Lib.hid ⟨OwnR.none_ _ _, Below.refl _ _⟩⟩
  case round =>
    obtain ⟨k, rfl, hk, HX⟩ := hrel
    by_cases hlt : k < n
    · have hkl : k < cs.length := by rw [← HN.out]; exact hlt
      have hcell := (HX.out.2.cell (p := ⟨g, k, none⟩) HG.out).trans (HGET.out k hkl)
      obtain ⟨x, hx⟩ : ∃ x, x = cs[k] := ⟨_, rfl⟩
      rw [← hx] at hcell
      have HXL : Hid (x < 4 ^ d ∧ d ≤ 32) := Lib.hid ⟨by rw [hx]; exact HBD.out _ (List.getElem_mem hkl), by omega⟩
      obtain ⟨out, hout⟩ : ∃ out, out = (cs.take k).foldl (M.pushR S) [] := ⟨_, rfl⟩
      have HNX : Hid ((cs.take (k + 1)).foldl (M.pushR S) [] = M.pushR S out x) := Lib.hid (by
        rw [List.take_succ_eq_append_getElem hkl, List.foldl_append, ← hout, ← hx]; rfl)
      have HO : Hid (OwnR 41 wr w.heap.size _ out ∧ Below w.heap.size w wr) := Lib.hid (by rw [hout]; exact HX.out)
      have hol : out.length ≤ 64 := by
        have h1 := fold_len S (cs.take k) []
        rw [← hout] at h1
        simp at h1
        omega
      have HOL := Lib.hid hol
      have hki : (k : Int) < (n : Int) := by omega
      by_cases k0 : k = 0
      · have HOE : Hid (out = []) := Lib.hid (by rw [hout, k0]; rfl)
        have HK0 := Lib.hid k0
        have hlen0 : out.length = 0 := by rw [HOE.out]; rfl
        rcases HO.out.1.form with ⟨h0, _⟩ | ⟨g2, c2, h0, hg2, _⟩
        · subst h0
          have d1 : k + 1 ≤ n := by omega
          clear hx hout HX k0 hlen0
          · skip
            go_wp2_with fail
            go_quiet (fail)
            obtain ⟨w5, hw5⟩ : ∃ w5, w5 = wr.drewN nq := ⟨_, rfl⟩
            have HW5 : Hid (OwnR 41 w5 w.heap.size _ out ∧ Below w.heap.size w w5) := Lib.hid (by rw [hw5]; exact ⟨HO.out.1, below_drewN HO.out.2 nq⟩)
            have hc5 : w5.cell? ⟨g, k, none⟩ = some (.int .u64 (x : Nat)) := by rw [hw5]; exact hcell
            rw [← hw5]
            clear hw5 HO hcell
            go_wp2_with fail
            go_loop [7, 8, 9] (fun s7 s8 s9 => ∃ t lo hi : Nat, (t : Int) ≤ 32 - (d : Int) ∧ s9 = .int .i64 t ∧ s7 = .int .u64 lo ∧ s8 = .int .u64 hi ∧ Hid (lo = x * 4 ^ t ∧ hi = x * 4 ^ t + (4 ^ t - 1))) (fun _ _ s9 => 32 - (intOf s9).toNat)
            case atStart => exact ⟨0, x, x, by omega, rfl, rfl, rfl, Lib.hid (by simp)⟩
            case round =>
              obtain ⟨t, lo, hi, ht, rfl, rfl, rfl, HT⟩ := hrel
              by_cases htl : (t : Int) < 32 - (d : Int)
              · obtain ⟨b1, b2, b3⟩ := quad_step x d t HXL.out (by omega) HT.out.1 HT.out.2
                have HB3 := Lib.hid b3
                clear b3
                have b4 : (0 : Int) ≤ lo := by omega
                have b5 : (0 : Int) ≤ hi := by omega
                have d0 : (0 : Int) ≤ d := by omega
                go_wp2_with fail
                go_round
                case rel => exact ⟨t + 1, 4 * lo, 4 * hi + 3, by omega, by go_num, val_int (by omega), val_int (by omega), HB3⟩
                case measure => simp [intOf]; omega
              · have ht2 : t = 32 - d := by omega
                have htd : decide ((t : Int) < 32 - (d : Int)) = false := by simp; omega
                have HL := Lib.hid (show lo = x * S from by rw [HT.out.1, ht2, HSS.out])
                have HH := Lib.hid (show hi = x * S + (S - 1) from by rw [HT.out.2, ht2, HSS.out])
                have d0 : (0 : Int) ≤ d := by omega
                clear HT ht2 htl
                go_wp2_with fail
                go_quiet (fail)
                obtain ⟨w6q, hw6q⟩ : ∃ w6q, w6q = w5.drewN nq := ⟨_, rfl⟩
                have HW6 : Hid (OwnR 41 w6q w.heap.size _ out ∧ Below w.heap.size w w6q) := Lib.hid (by rw [hw6q]; exact ⟨HW5.out.1, below_drewN HW5.out.2 nq⟩)
                rw [← hw6q]
                clear hw6q HW5
                have HP2 : Hid (M.pushR S out x = out ++ [(lo, hi)]) := Lib.hid (by rw [HOE.out, HL.out, HH.out]; rfl)
                obtain ⟨v6, w6, hrun, ho6, hb6⟩ := run_pushR (e := 41) Try.underlying37 (by kernel_rfl) 37 (HW6.out.1.below (grow_alloc (Below.refl w6q.heap.size w6q) (.cells #[.int .u64 lo, .int .u64 hi] 41))) w6q.heap.size lo hi (Blk.new w6q _ 41) (by have := HW6.out.2.size; simp; omega) (by have := HOL.out; omega)
                have RUN := Lib.hid hrun
                have HO6 := Lib.hid (And.intro ho6 ((HW6.out.2.alloc HW6.out.2.size (.cells #[.int .u64 lo, .int .u64 hi] 41)).trans hb6))
                clear hrun ho6 hb6
                go_wp2_with (at_builtin; refine Lib.wpList_append_run _ rfl (.tmp 58) (.tmp 62) 37 37 rfl _ _ rfl rfl v6 w6 RUN.out ?_)
                go_roundw
                case rel => exact ⟨k + 1, by go_num, by omega, Lib.hid (by rw [HNX.out, HP2.out]; exact HO6.out)⟩
                case measure => simp [intOf]; omega
        · rw [hlen0] at h0
          subst h0
          clear hx hout HX k0 hlen0
          · skip
            go_wp2_with fail
            go_quiet (fail)
            obtain ⟨w5, hw5⟩ : ∃ w5, w5 = wr.drewN nq := ⟨_, rfl⟩
            have HW5 : Hid (OwnR 41 w5 w.heap.size _ out ∧ Below w.heap.size w w5) := Lib.hid (by rw [hw5]; exact ⟨HO.out.1, below_drewN HO.out.2 nq⟩)
            have hc5 : w5.cell? ⟨g, k, none⟩ = some (.int .u64 (x : Nat)) := by rw [hw5]; exact hcell
            rw [← hw5]
            clear hw5 HO hcell
            go_wp2_with fail
            go_loop [7, 8, 9] (fun s7 s8 s9 => ∃ t lo hi : Nat, (t : Int) ≤ 32 - (d : Int) ∧ s9 = .int .i64 t ∧ s7 = .int .u64 lo ∧ s8 = .int .u64 hi ∧ Hid (lo = x * 4 ^ t ∧ hi = x * 4 ^ t + (4 ^ t - 1))) (fun _ _ s9 => 32 - (intOf s9).toNat)
            case atStart => exact ⟨0, x, x, by omega, rfl, rfl, rfl, Lib.hid (by simp)⟩
            case round =>
              obtain ⟨t, lo, hi, ht, rfl, rfl, rfl, HT⟩ := hrel
              by_cases htl : (t : Int) < 32 - (d : Int)
              · obtain ⟨b1, b2, b3⟩ := quad_step x d t HXL.out (by omega) HT.out.1 HT.out.2
                have HB3 := Lib.hid b3
                clear b3
                have b4 : (0 : Int) ≤ lo := by omega
                have b5 : (0 : Int) ≤ hi := by omega
                have d0 : (0 : Int) ≤ d := by omega
                go_wp2_with fail
                go_round
                case rel => exact ⟨t + 1, 4 * lo, 4 * hi + 3, by omega, by go_num, val_int (by omega), val_int (by omega), HB3⟩
                case measure => simp [intOf]; omega
              · have ht2 : t = 32 - d := by omega
                have htd : decide ((t : Int) < 32 - (d : Int)) = false := by simp; omega
                have HL := Lib.hid (show lo = x * S from by rw [HT.out.1, ht2, HSS.out])
                have HH := Lib.hid (show hi = x * S + (S - 1) from by rw [HT.out.2, ht2, HSS.out])
                have d0 : (0 : Int) ≤ d := by omega
                clear HT ht2 htl
                go_wp2_with fail
                go_quiet (fail)
                obtain ⟨w6q, hw6q⟩ : ∃ w6q, w6q = w5.drewN nq := ⟨_, rfl⟩
                have HW6 : Hid (OwnR 41 w6q w.heap.size _ out ∧ Below w.heap.size w w6q) := Lib.hid (by rw [hw6q]; exact ⟨HW5.out.1, below_drewN HW5.out.2 nq⟩)
                rw [← hw6q]
                clear hw6q HW5
                have HP2 : Hid (M.pushR S out x = out ++ [(lo, hi)]) := Lib.hid (by rw [HOE.out, HL.out, HH.out]; rfl)
                obtain ⟨v6, w6, hrun, ho6, hb6⟩ := run_pushR (e := 41) Try.underlying37 (by kernel_rfl) 37 (HW6.out.1.below (grow_alloc (Below.refl w6q.heap.size w6q) (.cells #[.int .u64 lo, .int .u64 hi] 41))) w6q.heap.size lo hi (Blk.new w6q _ 41) (by have := HW6.out.2.size; simp; omega) (by have := HOL.out; omega)
                have RUN := Lib.hid hrun
                have HO6 := Lib.hid (And.intro ho6 ((HW6.out.2.alloc HW6.out.2.size (.cells #[.int .u64 lo, .int .u64 hi] 41)).trans hb6))
                clear hrun ho6 hb6
                go_wp2_with (at_builtin; refine Lib.wpList_append_run _ rfl (.tmp 58) (.tmp 62) 37 37 rfl _ _ rfl rfl v6 w6 RUN.out ?_)
                go_roundw
                case rel => exact ⟨k + 1, by go_num, by omega, Lib.hid (by rw [HNX.out, HP2.out]; exact HO6.out)⟩
                case measure => simp [intOf]; omega
      · obtain ⟨j, hj⟩ : ∃ j, k = j + 1 := ⟨k - 1, by omega⟩
        obtain ⟨p, hp⟩ : ∃ p, p = cs[j]'(by omega) := ⟨_, rfl⟩
        have hcj := (HX.out.2.cell (p := ⟨g, j, none⟩) HG.out).trans (HGET.out j (by omega))
        rw [← hp] at hcj
        have hpb : (p : Int) + 1 ≤ 18446744073709551615 := by
          have hlt2 : p < x := by
            subst hj; rw [hp, hx]
            exact HLT.out j hkl
          have h2 := (shl_low x d (by omega) HXL.out.1).2.2
          have h3 : 0 < 4 ^ (32 - d) := Nat.pow_pos (by decide)
          have h4 : (x + 1) * 1 ≤ (x + 1) * 4 ^ (32 - d) := Nat.mul_le_mul_left _ h3
          omega
        have hjn : M.joins S out x = decide (x = p + 1) := by
          subst hj
          rw [hout, hx, hp]; exact hJN.out j hkl
        have hne : out ≠ [] := by
          intro h0
          have h1 := (hINV.out k (by omega)).mem (p * S)
          rw [← hout, h0, Nat.mul_div_cancel _ hSp] at h1
          simp only [List.not_mem_nil, false_and, exists_false, false_iff] at h1
          apply h1
          rw [hp, List.mem_iff_getElem]
          exact ⟨j, by simp; omega, by simp⟩
        rcases HO.out.1.form with ⟨_, h0⟩ | ⟨g2, c2, h0, hg2, _⟩
        · exact absurd h0 hne
        · subst h0
          obtain ⟨init, ⟨rl, rh⟩, hoi⟩ : ∃ init r, out = init ++ [r] := by
            rcases M.last_cases out with h0 | h0
            · exact absurd h0 hne
            · exact h0
          obtain ⟨n2, hn2⟩ : ∃ n2, n2 = out.length := ⟨_, rfl⟩
          obtain ⟨q, hq⟩ : ∃ q, q = init.length := ⟨_, rfl⟩
          have hnq : n2 = q + 1 := by rw [hn2, hoi, hq]; simp
          rw [← hn2] at HO ⊢ hol
          have HOI := Lib.hid hoi
          have HQ := Lib.hid hq
          have q1 : (n2 : Int) - 1 = (q : Int) := by omega
          have q2 : q < n2 := by omega
          have q3 : (0 : Int) ≤ (q : Int) := by omega
          have q4 : decide ((0 : Int) < (n2 : Int)) = true := by simp; omega
          have q5 : decide (0 < n2) = true := by simp; omega
          have q6 : (k : Int) - 1 = (j : Int) := by omega
          have q7 : IntKind.i64.wrap ((k : Int) - 1) = (j : Int) := by rw [q6, IntKind.wrap_i64]; omega
          have q8 : (j : Int) < (n : Int) := by omega
          have q9 : IntKind.u64.wrap ((p : Int) + 1) = (p : Int) + 1 := by rw [IntKind.wrap_u64]; omega
          have q10 : (n2 : Int) ≤ 64 := by omega
          clear hx hout HX k0 hj hp hoi hq hn2 hnq hne hkl hlt
          by_cases hxp : x = p + 1
          · have HJ : Hid (M.joins S out x = true) := Lib.hid (by rw [hjn]; simpa using hxp)
            have HXP := Lib.hid hxp
            have hk1 : k + 1 ≤ n := by omega
            have hxpi : (x : Int) = (p : Int) + 1 := by omega
            have HXI := Lib.hid hxpi
            clear hjn hxp hxpi
            · skip
              go_wp2_with fail
              go_quiet (fail)
              obtain ⟨w5, hw5⟩ : ∃ w5, w5 = wr.drewN nq := ⟨_, rfl⟩
              have HW5 : Hid (OwnR 41 w5 w.heap.size _ out ∧ Below w.heap.size w w5) := Lib.hid (by rw [hw5]; exact ⟨HO.out.1, below_drewN HO.out.2 nq⟩)
              have hc5 : w5.cell? ⟨g, k, none⟩ = some (.int .u64 (x : Nat)) := by rw [hw5]; exact hcell
              have hc6 : w5.cell? ⟨g, j, none⟩ = some (.int .u64 (p : Nat)) := by rw [hw5]; exact hcj
              rw [← hw5]
              clear hw5 HO hcell hcj
              go_wp2_with fail
              go_loop [7, 8, 9] (fun s7 s8 s9 => ∃ t lo hi : Nat, (t : Int) ≤ 32 - (d : Int) ∧ s9 = .int .i64 t ∧ s7 = .int .u64 lo ∧ s8 = .int .u64 hi ∧ Hid (lo = x * 4 ^ t ∧ hi = x * 4 ^ t + (4 ^ t - 1))) (fun _ _ s9 => 32 - (intOf s9).toNat)
              case atStart => exact ⟨0, x, x, by omega, rfl, rfl, rfl, Lib.hid (by simp)⟩
              case round =>
                obtain ⟨t, lo, hi, ht, rfl, rfl, rfl, HT⟩ := hrel
                by_cases htl : (t : Int) < 32 - (d : Int)
                · obtain ⟨b1, b2, b3⟩ := quad_step x d t HXL.out (by omega) HT.out.1 HT.out.2
                  have HB3 := Lib.hid b3
                  clear b3
                  have b4 : (0 : Int) ≤ lo := by omega
                  have b5 : (0 : Int) ≤ hi := by omega
                  have d0 : (0 : Int) ≤ d := by omega
                  go_wp2_with fail
                  go_round
                  case rel => exact ⟨t + 1, 4 * lo, 4 * hi + 3, by omega, by go_num, val_int (by omega), val_int (by omega), HB3⟩
                  case measure => simp [intOf]; omega
                · have ht2 : t = 32 - d := by omega
                  have htd : decide ((t : Int) < 32 - (d : Int)) = false := by simp; omega
                  have HL := Lib.hid (show lo = x * S from by rw [HT.out.1, ht2, HSS.out])
                  have HH := Lib.hid (show hi = x * S + (S - 1) from by rw [HT.out.2, ht2, HSS.out])
                  have d0 : (0 : Int) ≤ d := by omega
                  clear HT ht2 htl
                  go_wp2_with fail
                  have HP2 : Hid (M.pushR S out x = init ++ [(rl, hi)]) := Lib.hid (by
                    have hjx := HJ.out
                    unfold M.pushR
                    rw [hjx, if_pos rfl, HOI.out, List.dropLast_concat, HH.out]
                    simp [M.lowOf])
                  have hq : ((x : Int) == (p : Int) + 1) = true := by have := HXI.out; simp; omega
                  go_quiet (fail)
                  obtain ⟨w6q, hw6q⟩ : ∃ w6q, w6q = w5.drewN nq := ⟨_, rfl⟩
                  have HW6 : Hid (OwnR 41 w6q w.heap.size _ out ∧ Below w.heap.size w w6q) := Lib.hid (by rw [hw6q]; exact ⟨HW5.out.1, below_drewN HW5.out.2 nq⟩)
                  have HL6 := Lib.hid (show OwnR 41 w6q w.heap.size (.slice (some ⟨g2, 0, none⟩) n2 c2) (init ++ [(rl, rh)]) from by have h := HW6.out.1; rw [HOI.out] at h; exact h)
                  have hcl6 : w6q.cell? ⟨g2, q * 2 + 1, none⟩ = some (.int .u64 (rh : Nat)) := by rw [HQ.out]; exact HL6.out.last.2.1
                  have hfl6 : w6q.frozen? ⟨g2, q * 2 + 1, none⟩ = false := by rw [HQ.out]; exact HL6.out.last.2.2
                  have HO7 := Lib.hid (And.intro (HL6.out.stored (hi' := hi)) (HW6.out.2.setCell (p := ⟨g2, init.length * 2 + 1, none⟩) hg2 (.int .u64 hi)))
                  rw [← HQ.out] at HO7
                  clear HL6 HW6
                  rw [← hw6q]
                  clear hw6q HW5
                  go_wp2_with fail
                  go_roundw
                  case rel => exact ⟨k + 1, by go_num, by omega, Lib.hid (by rw [HNX.out, HP2.out]; exact HO7.out)⟩
                  case measure => simp [intOf]; omega
          · have HJ : Hid (M.joins S out x = false) := Lib.hid (by rw [hjn]; simpa using hxp)
            have hk1 : k + 1 ≤ n := by omega
            clear hjn
            · skip
              go_wp2_with fail
              go_quiet (fail)
              obtain ⟨w5, hw5⟩ : ∃ w5, w5 = wr.drewN nq := ⟨_, rfl⟩
              have HW5 : Hid (OwnR 41 w5 w.heap.size _ out ∧ Below w.heap.size w w5) := Lib.hid (by rw [hw5]; exact ⟨HO.out.1, below_drewN HO.out.2 nq⟩)
              have hc5 : w5.cell? ⟨g, k, none⟩ = some (.int .u64 (x : Nat)) := by rw [hw5]; exact hcell
              have hc6 : w5.cell? ⟨g, j, none⟩ = some (.int .u64 (p : Nat)) := by rw [hw5]; exact hcj
              rw [← hw5]
              clear hw5 HO hcell hcj
              go_wp2_with fail
              go_loop [7, 8, 9] (fun s7 s8 s9 => ∃ t lo hi : Nat, (t : Int) ≤ 32 - (d : Int) ∧ s9 = .int .i64 t ∧ s7 = .int .u64 lo ∧ s8 = .int .u64 hi ∧ Hid (lo = x * 4 ^ t ∧ hi = x * 4 ^ t + (4 ^ t - 1))) (fun _ _ s9 => 32 - (intOf s9).toNat)
              case atStart => exact ⟨0, x, x, by omega, rfl, rfl, rfl, Lib.hid (by simp)⟩
              case round =>
                obtain ⟨t, lo, hi, ht, rfl, rfl, rfl, HT⟩ := hrel
                by_cases htl : (t : Int) < 32 - (d : Int)
                · obtain ⟨b1, b2, b3⟩ := quad_step x d t HXL.out (by omega) HT.out.1 HT.out.2
                  have HB3 := Lib.hid b3
                  clear b3
                  have b4 : (0 : Int) ≤ lo := by omega
                  have b5 : (0 : Int) ≤ hi := by omega
                  have d0 : (0 : Int) ≤ d := by omega
                  go_wp2_with fail
                  go_round
                  case rel => exact ⟨t + 1, 4 * lo, 4 * hi + 3, by omega, by go_num, val_int (by omega), val_int (by omega), HB3⟩
                  case measure => simp [intOf]; omega
                · have ht2 : t = 32 - d := by omega
                  have htd : decide ((t : Int) < 32 - (d : Int)) = false := by simp; omega
                  have HL := Lib.hid (show lo = x * S from by rw [HT.out.1, ht2, HSS.out])
                  have HH := Lib.hid (show hi = x * S + (S - 1) from by rw [HT.out.2, ht2, HSS.out])
                  have d0 : (0 : Int) ≤ d := by omega
                  clear HT ht2 htl
                  go_wp2_with fail
                  have HP2 : Hid (M.pushR S out x = out ++ [(lo, hi)]) := Lib.hid (by unfold M.pushR; rw [HJ.out, if_neg (by simp), HL.out, HH.out])
                  have hq : ((x : Int) == (p : Int) + 1) = false := by simp; omega
                  go_quiet (fail)
                  obtain ⟨w6q, hw6q⟩ : ∃ w6q, w6q = w5.drewN nq := ⟨_, rfl⟩
                  have HW6 : Hid (OwnR 41 w6q w.heap.size _ out ∧ Below w.heap.size w w6q) := Lib.hid (by rw [hw6q]; exact ⟨HW5.out.1, below_drewN HW5.out.2 nq⟩)
                  rw [← hw6q]
                  clear hw6q HW5
                  obtain ⟨v6, w6, hrun, ho6, hb6⟩ := run_pushR (e := 41) Try.underlying37 (by kernel_rfl) 37 (HW6.out.1.below (grow_alloc (Below.refl w6q.heap.size w6q) (.cells #[.int .u64 lo, .int .u64 hi] 41))) w6q.heap.size lo hi (Blk.new w6q _ 41) (by have := HW6.out.2.size; simp; omega) (by have := HOL.out; omega)
                  have RUN := Lib.hid hrun
                  have HO6 := Lib.hid (And.intro ho6 ((HW6.out.2.alloc HW6.out.2.size (.cells #[.int .u64 lo, .int .u64 hi] 41)).trans hb6))
                  clear hrun ho6 hb6
                  go_wp2_with (at_builtin; refine Lib.wpList_append_run _ rfl (.tmp 58) (.tmp 62) 37 37 rfl _ _ rfl rfl v6 w6 RUN.out ?_)
                  go_roundw
                  case rel => exact ⟨k + 1, by go_num, by omega, Lib.hid (by rw [HNX.out, HP2.out]; exact HO6.out)⟩
                  case measure => simp [intOf]; omega
    · obtain rfl : k = n := by omega
      have hfin : (cs.take k).foldl (M.pushR S) [] = M.ranges S cs := by rw [HN.out, List.take_length]; rfl
      have HX2 := HX.out
      rw [hfin] at HX2
      have HF := Lib.hid HX2
      clear HX2 hfin HX
      go_wp2
      go_ret
      exact ⟨_, rfl, HF.out⟩

end Go.Proofs.Ythinjaddebfdhaa
