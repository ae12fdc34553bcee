/- Walks: LogReads. Printed by mk_a24.py. -/
import Derived.Test.YtpomfokpmbblkaaA23
namespace Go.Proofs.Ytpomfokpmbblkaa
open Go.RowKit Go.Maps
set_option maxRecDepth 8000

theorem SlotsV.get {v : World} {N : Nat} {A : Option Addr} {l : List SlotV} (h : SlotsV v N A l) {k : Nat} (hk : k < l.length) : ∃ p, A = some p ∧ p.block < N ∧ SlotAt v N (p.add (k * 6)) l[k] := by
  obtain ⟨p, e, hp, hc⟩ := h (by intro e; rw [e] at hk; simp at hk)
  exact ⟨p, e, hp, hc k hk⟩
theorem grpL_len (e : Int) : ∀ (l : List (Int × Option ((Int × List Nat) × Bool))) (out : List (List (Int × List Nat))) (g : List (Int × List Nat)), (grpL e l out g).length ≤ out.length + l.length
  | [], out, g => Nat.le_refl _
  | (a, b) :: r, out, g => by
    by_cases h : a = e
    · subst h
      cases b with
      | none => rw [grpL_none]; omega
      | some c =>
        obtain ⟨c, last⟩ := c
        rw [grpL_some]
        split
        · have := grpL_len a r (out ++ [g ++ [c]]) []
          simp at this ⊢; omega
        · have := grpL_len a r out (g ++ [c])
          simp at this ⊢; omega
    · rw [grpL_other h]; omega
theorem grpL_each (e : Int) (K : Nat) : ∀ (l : List (Int × Option ((Int × List Nat) × Bool))) (out : List (List (Int × List Nat))) (g : List (Int × List Nat)), (∀ x ∈ out, x.length ≤ K) → g.length + l.length ≤ K → ∀ x ∈ grpL e l out g, x.length ≤ K
  | [], out, g, h, _ => h
  | (a, b) :: r, out, g, h, hl => by
    by_cases h0 : a = e
    · subst h0
      cases b with
      | none => rw [grpL_none]; exact h
      | some c =>
        obtain ⟨c, last⟩ := c
        rw [grpL_some]
        split
        · refine grpL_each a K r _ _ (fun x hx => ?_) (by simp at hl ⊢; omega)
          rcases List.mem_append.1 hx with hx | hx
          · exact h x hx
          · simp at hx; subst hx; simp at hl ⊢; omega
        · exact grpL_each a K r _ _ h (by simp at hl ⊢; omega)
    · rw [grpL_other h0]; exact h
theorem secL_length (t : Nat → List Nat) : ∀ n i, (secL t n i).length = n
  | 0, _ => rfl
  | n + 1, i => by rw [secL_succ, List.length_cons, secL_length t n]

set_option maxHeartbeats 4000000 in
theorem Reads_early (A : Option Addr) (n cp : Nat) (E : Int) (w : World) (hb : -9223372036854775808 ≤ E ∧ E ≤ 9223372036854775807) (h : 10 < (n : Int) ∨ n = 0 ∨ E < 1 ∨ 1099511627776 < E) (hn : (n : Int) ≤ 9223372036854775807) :
    Calls Try.prog 8 #[.slice A n cp, .int .i64 E] w fun e w' => e = .returned (.bool true) ∧ Below w.heap.size w w' := by
  by_cases h1 : 10 < (n : Int)
  · go_enter Try.func8, Try.ntmps8
    go_wp2
    go_ret
    exact ⟨rfl, Below.refl _ _⟩
  by_cases h2 : n = 0
  · subst h2
    go_enter Try.func8, Try.ntmps8
    go_wp2
    go_ret
    exact ⟨rfl, Below.refl _ _⟩
  have h2' : ¬ (n : Int) = 0 := by omega
  by_cases h3 : E < 1
  · go_enter Try.func8, Try.ntmps8
    go_wp2
    go_ret
    exact ⟨rfl, Below.refl _ _⟩
  have h4 : 1099511627776 < E := by omega
  go_enter Try.func8, Try.ntmps8
  go_wp2
  go_ret
  exact ⟨rfl, Below.refl _ _⟩

set_option maxHeartbeats 64000000 in
theorem Reads_main (A : Option Addr) (xs : List SlotV) (n cp : Nat) (E : Int) (w : World) (hn : xs.length = n) (hr : SlotsV w w.heap.size A xs) (h1 : ¬ 10 < (n : Int)) (h2 : ¬ (n : Int) = 0) (h3 : ¬ E < 1) (h4 : ¬ 1099511627776 < E) :
    Calls Try.prog 8 #[.slice A n cp, .int .i64 E] w fun e w' => e = .returned (.bool true) ∧ Below w.heap.size w w' := by
  have HN := Lib.hid hn
  have HR := Lib.hid hr
  clear hn hr
  go_enter Try.func8, Try.ntmps8
  go_wp2_with fail
  refine (New_dk w 12 64 (fun _ _ => trivial) (Below.refl _ _) (by decide) (by decide) (by decide) (by decide)).mono ?_
  rintro r w1 ⟨b, m, rfl, hk, hb⟩
  have H0 : Hid (SrS w w1 b m nilv (Dsk.new 12 64) nilv []) := Lib.hid ⟨hk, SecRow.nil _ _⟩
  have H1 : Hid (Wr (Dsk.new 12 64) []) := Lib.hid Wr.start
  have HL0 : Hid (([] : List (List Nat)).length = 0) := Lib.hid rfl
  clear hk hb
  go_wp2_with fail
  go_loopw [6, 7, 8] (fun sv iv bv wr => ∃ (i : Nat) (D : Dsk) (vl : Value) (ss : List (List Nat)), i ≤ n ∧ iv = .int .i64 i ∧ Hid (ss.length = i) ∧ Hid (SrS w wr b m vl D sv ss) ∧ Hid (Wr D ss)) (fun _ iv _ _ => n - (intOf iv).toNat)
  case atStart => exact ⟨0, _, nilv, [], by omega, rfl, HL0, H0, H1⟩
  case round =>
    clear H0 H1 HL0
    obtain ⟨i, D, vl, ss, hi, rfl, HLN, HS, HW⟩ := hrel
    obtain ⟨sv, hsv⟩ : ∃ sv, sv = u6 := ⟨_, rfl⟩
    rw [← hsv] at HS ⊢
    clear hsv
    by_cases hlt : i < n
    · have hig : i < xs.length := by rw [HN.out]; exact hlt
      obtain ⟨w2, hmk, ho2, hg2⟩ := run_makeN (w := wr) wr.heap.size 64 (Nat.le_refl _) (by omega)
      have hb2 : Below wr.heap.size wr w2 := (Below.refl wr.heap.size wr).grown hg2 (Nat.le_refl _) (by simp)
      have HS2 := Lib.hid (HS.out.grew hb2)
      obtain ⟨p, eA, hpb, ⟨hla, hpg⟩, k0, k1, k2, k3, ⟨AB, cb, k4, hrd⟩, k5⟩ := (HR.out.below HS2.out.dk.low).get hig
      cases eA
      have HO2 := Lib.hid ho2
      have HB2 := Lib.hid hb2
      have MK := Lib.hid hmk
      have HRD := Lib.hid hrd
      have hnb : (i : Int) ≤ 10 := by omega
      generalize xs[i] = x at *
      obtain ⟨ep, at9, pg, la, bs, raw⟩ := x
      dsimp only at hla hpg k0 k1 k2 k3 k4 k5 HRD
      have HLA := Lib.hid hla
      have HPG0 := Lib.hid hpg
      clear hmk ho2 hb2 hg2 hpb hrd hla hpg
      cases raw with
      | true =>
        obtain ⟨s, v9, wc, hcp, hsl, ho3, hg3⟩ := run_copyin (c := cb) HO2.out HRD.out
        have hb3 : Below wr.heap.size wr wc := HB2.out.grown hg3 HB2.out.size (by intro k e; cases e; exact Nat.le_refl _)
        have HS5 := Lib.hid (HS.out.grew hb3)
        have HBY := Lib.hid (Byt.of_own' ho3)
        have HCP := Lib.hid hcp
        clear hcp ho3 hg3 hb3 k0 k1 k2 k3 HO2 HB2 HS HS2 HRD HLA HPG0
        generalize bs.length = nb at *
        go_wp2_with (first | (at_make; refine wpList_make_run rfl _ _ 42 rfl _ _ _ w2 rfl rfl MK.out ?_) | (refine wpList_copy_run _ rfl (.tmp 48) (.tmp 53) 42 42 rfl _ _ rfl rfl _ wc HCP.out ?_))
        have hpu := HW.out.push (by have := HLN.out; omega) hsl
        rw [HLN.out] at hpu
        have HPU := Lib.hid hpu
        have HL1 : Hid ((ss ++ [s]).length = i + 1) := Lib.hid (by simp [HLN.out])
        clear hpu hsl
        refine (Write_dk HS5.out.dk (1 + (i : Int)) HBY.out (by have := HW.out.loose; have := HLN.out; omega)).mono ?_
        rintro r w6 ⟨rfl, vl6, hk6, hst6⟩
        rw [HPU.out.1]
        have HS6 := Lib.hid (HS5.out.stepped hk6 hst6)
        have hby6 := hst6.byt HBY.out
        have HW6 := Lib.hid HPU.out.2
        clear hk6 hst6 HBY HS5 HPU
        obtain ⟨sv', w7, hrun, hs7⟩ := HS6.out.push (by have := HLN.out; omega) hby6
        have HRUN := Lib.hid hrun
        have HS7 := Lib.hid hs7
        clear hrun hs7 hby6 HS6
        go_wp2_with (at_builtin; refine Lib.wpList_append_run _ rfl (.tmp 130) (.tmp 132) 66 66 rfl _ _ rfl rfl _ w7 HRUN.out ?_)
        go_round
        case rel => exact ⟨i + 1, _, vl6, ss ++ [s], by omega, by go_num, HL1, HS7, HW6⟩
        case measure => simp only [intOf]; omega
      | false =>
        clear k4
        by_cases q1 : 1 ≤ ep
        rotate_left
        · clear k1 k2 k3 HB2 HRD HLA HPG0
          obtain ⟨s, hsv0⟩ : ∃ s, s = List.replicate 64 0 := ⟨_, rfl⟩
          have hsl : s.length = 64 := by rw [hsv0]; simp
          have HS5 := HS2
          have HBY : Hid (Byt w2 (.slice (some ⟨wr.heap.size, 0, none⟩) 64 64) s) := Lib.hid (by rw [hsv0]; exact Byt.of_own' HO2.out)
          clear hsv0 HS HS2 HO2
          go_wp2_with (at_make; refine wpList_make_run rfl _ _ 42 rfl _ _ _ w2 rfl rfl MK.out ?_)
          have hpu := HW.out.push (by have := HLN.out; omega) hsl
          rw [HLN.out] at hpu
          have HPU := Lib.hid hpu
          have HL1 : Hid ((ss ++ [s]).length = i + 1) := Lib.hid (by simp [HLN.out])
          clear hpu hsl
          refine (Write_dk HS5.out.dk (1 + (i : Int)) HBY.out (by have := HW.out.loose; have := HLN.out; omega)).mono ?_
          rintro r w6 ⟨rfl, vl6, hk6, hst6⟩
          rw [HPU.out.1]
          have HS6 := Lib.hid (HS5.out.stepped hk6 hst6)
          have hby6 := hst6.byt HBY.out
          have HW6 := Lib.hid HPU.out.2
          clear hk6 hst6 HBY HS5 HPU
          obtain ⟨sv', w7, hrun, hs7⟩ := HS6.out.push (by have := HLN.out; omega) hby6
          have HRUN := Lib.hid hrun
          have HS7 := Lib.hid hs7
          clear hrun hs7 hby6 HS6
          go_wp2_with (at_builtin; refine Lib.wpList_append_run _ rfl (.tmp 130) (.tmp 132) 66 66 rfl _ _ rfl rfl _ w7 HRUN.out ?_)
          go_round
          case rel => exact ⟨i + 1, _, vl6, ss ++ [s], by omega, by go_num, HL1, HS7, HW6⟩
          case measure => simp only [intOf]; omega
        by_cases q2 : ep ≤ 1099511627776
        rotate_left
        · clear k1 k2 k3 HB2 HRD HLA HPG0
          obtain ⟨s, hsv0⟩ : ∃ s, s = List.replicate 64 0 := ⟨_, rfl⟩
          have hsl : s.length = 64 := by rw [hsv0]; simp
          have HS5 := HS2
          have HBY : Hid (Byt w2 (.slice (some ⟨wr.heap.size, 0, none⟩) 64 64) s) := Lib.hid (by rw [hsv0]; exact Byt.of_own' HO2.out)
          clear hsv0 HS HS2 HO2
          go_wp2_with (at_make; refine wpList_make_run rfl _ _ 42 rfl _ _ _ w2 rfl rfl MK.out ?_)
          have hpu := HW.out.push (by have := HLN.out; omega) hsl
          rw [HLN.out] at hpu
          have HPU := Lib.hid hpu
          have HL1 : Hid ((ss ++ [s]).length = i + 1) := Lib.hid (by simp [HLN.out])
          clear hpu hsl
          refine (Write_dk HS5.out.dk (1 + (i : Int)) HBY.out (by have := HW.out.loose; have := HLN.out; omega)).mono ?_
          rintro r w6 ⟨rfl, vl6, hk6, hst6⟩
          rw [HPU.out.1]
          have HS6 := Lib.hid (HS5.out.stepped hk6 hst6)
          have hby6 := hst6.byt HBY.out
          have HW6 := Lib.hid HPU.out.2
          clear hk6 hst6 HBY HS5 HPU
          obtain ⟨sv', w7, hrun, hs7⟩ := HS6.out.push (by have := HLN.out; omega) hby6
          have HRUN := Lib.hid hrun
          have HS7 := Lib.hid hs7
          clear hrun hs7 hby6 HS6
          go_wp2_with (at_builtin; refine Lib.wpList_append_run _ rfl (.tmp 130) (.tmp 132) 66 66 rfl _ _ rfl rfl _ w7 HRUN.out ?_)
          go_round
          case rel => exact ⟨i + 1, _, vl6, ss ++ [s], by omega, by go_num, HL1, HS7, HW6⟩
          case measure => simp only [intOf]; omega
        by_cases q3 : 0 ≤ at9
        rotate_left
        · clear k2 k3 HB2 HRD HLA HPG0
          obtain ⟨s, hsv0⟩ : ∃ s, s = List.replicate 64 0 := ⟨_, rfl⟩
          have hsl : s.length = 64 := by rw [hsv0]; simp
          have HS5 := HS2
          have HBY : Hid (Byt w2 (.slice (some ⟨wr.heap.size, 0, none⟩) 64 64) s) := Lib.hid (by rw [hsv0]; exact Byt.of_own' HO2.out)
          clear hsv0 HS HS2 HO2
          go_wp2_with (at_make; refine wpList_make_run rfl _ _ 42 rfl _ _ _ w2 rfl rfl MK.out ?_)
          have hpu := HW.out.push (by have := HLN.out; omega) hsl
          rw [HLN.out] at hpu
          have HPU := Lib.hid hpu
          have HL1 : Hid ((ss ++ [s]).length = i + 1) := Lib.hid (by simp [HLN.out])
          clear hpu hsl
          refine (Write_dk HS5.out.dk (1 + (i : Int)) HBY.out (by have := HW.out.loose; have := HLN.out; omega)).mono ?_
          rintro r w6 ⟨rfl, vl6, hk6, hst6⟩
          rw [HPU.out.1]
          have HS6 := Lib.hid (HS5.out.stepped hk6 hst6)
          have hby6 := hst6.byt HBY.out
          have HW6 := Lib.hid HPU.out.2
          clear hk6 hst6 HBY HS5 HPU
          obtain ⟨sv', w7, hrun, hs7⟩ := HS6.out.push (by have := HLN.out; omega) hby6
          have HRUN := Lib.hid hrun
          have HS7 := Lib.hid hs7
          clear hrun hs7 hby6 HS6
          go_wp2_with (at_builtin; refine Lib.wpList_append_run _ rfl (.tmp 130) (.tmp 132) 66 66 rfl _ _ rfl rfl _ w7 HRUN.out ?_)
          go_round
          case rel => exact ⟨i + 1, _, vl6, ss ++ [s], by omega, by go_num, HL1, HS7, HW6⟩
          case measure => simp only [intOf]; omega
        by_cases q4 : at9 < 100
        rotate_left
        · clear k2 k3 HB2 HRD HLA HPG0
          obtain ⟨s, hsv0⟩ : ∃ s, s = List.replicate 64 0 := ⟨_, rfl⟩
          have hsl : s.length = 64 := by rw [hsv0]; simp
          have HS5 := HS2
          have HBY : Hid (Byt w2 (.slice (some ⟨wr.heap.size, 0, none⟩) 64 64) s) := Lib.hid (by rw [hsv0]; exact Byt.of_own' HO2.out)
          clear hsv0 HS HS2 HO2
          go_wp2_with (at_make; refine wpList_make_run rfl _ _ 42 rfl _ _ _ w2 rfl rfl MK.out ?_)
          have hpu := HW.out.push (by have := HLN.out; omega) hsl
          rw [HLN.out] at hpu
          have HPU := Lib.hid hpu
          have HL1 : Hid ((ss ++ [s]).length = i + 1) := Lib.hid (by simp [HLN.out])
          clear hpu hsl
          refine (Write_dk HS5.out.dk (1 + (i : Int)) HBY.out (by have := HW.out.loose; have := HLN.out; omega)).mono ?_
          rintro r w6 ⟨rfl, vl6, hk6, hst6⟩
          rw [HPU.out.1]
          have HS6 := Lib.hid (HS5.out.stepped hk6 hst6)
          have hby6 := hst6.byt HBY.out
          have HW6 := Lib.hid HPU.out.2
          clear hk6 hst6 HBY HS5 HPU
          obtain ⟨sv', w7, hrun, hs7⟩ := HS6.out.push (by have := HLN.out; omega) hby6
          have HRUN := Lib.hid hrun
          have HS7 := Lib.hid hs7
          clear hrun hs7 hby6 HS6
          go_wp2_with (at_builtin; refine Lib.wpList_append_run _ rfl (.tmp 130) (.tmp 132) 66 66 rfl _ _ rfl rfl _ w7 HRUN.out ?_)
          go_round
          case rel => exact ⟨i + 1, _, vl6, ss ++ [s], by omega, by go_num, HL1, HS7, HW6⟩
          case measure => simp only [intOf]; omega
        by_cases q5 : 0 ≤ pg
        rotate_left
        · clear k3 HB2 HRD HLA HPG0
          obtain ⟨s, hsv0⟩ : ∃ s, s = List.replicate 64 0 := ⟨_, rfl⟩
          have hsl : s.length = 64 := by rw [hsv0]; simp
          have HS5 := HS2
          have HBY : Hid (Byt w2 (.slice (some ⟨wr.heap.size, 0, none⟩) 64 64) s) := Lib.hid (by rw [hsv0]; exact Byt.of_own' HO2.out)
          clear hsv0 HS HS2 HO2
          go_wp2_with (at_make; refine wpList_make_run rfl _ _ 42 rfl _ _ _ w2 rfl rfl MK.out ?_)
          have hpu := HW.out.push (by have := HLN.out; omega) hsl
          rw [HLN.out] at hpu
          have HPU := Lib.hid hpu
          have HL1 : Hid ((ss ++ [s]).length = i + 1) := Lib.hid (by simp [HLN.out])
          clear hpu hsl
          refine (Write_dk HS5.out.dk (1 + (i : Int)) HBY.out (by have := HW.out.loose; have := HLN.out; omega)).mono ?_
          rintro r w6 ⟨rfl, vl6, hk6, hst6⟩
          rw [HPU.out.1]
          have HS6 := Lib.hid (HS5.out.stepped hk6 hst6)
          have hby6 := hst6.byt HBY.out
          have HW6 := Lib.hid HPU.out.2
          clear hk6 hst6 HBY HS5 HPU
          obtain ⟨sv', w7, hrun, hs7⟩ := HS6.out.push (by have := HLN.out; omega) hby6
          have HRUN := Lib.hid hrun
          have HS7 := Lib.hid hs7
          clear hrun hs7 hby6 HS6
          go_wp2_with (at_builtin; refine Lib.wpList_append_run _ rfl (.tmp 130) (.tmp 132) 66 66 rfl _ _ rfl rfl _ w7 HRUN.out ?_)
          go_round
          case rel => exact ⟨i + 1, _, vl6, ss ++ [s], by omega, by go_num, HL1, HS7, HW6⟩
          case measure => simp only [intOf]; omega
        · obtain ⟨ep, rfl⟩ := Int.eq_ofNat_of_zero_le (show 0 ≤ ep by omega)
          obtain ⟨at9, rfl⟩ := Int.eq_ofNat_of_zero_le (show 0 ≤ at9 by omega)
          obtain ⟨pg, rfl⟩ := Int.eq_ofNat_of_zero_le (show 0 ≤ pg by omega)
          have HC := Lib.hid (And.intro k0 (And.intro k1 (And.intro k2 k3)))
          have HEP : Hid ((1 : Int) ≤ ep ∧ (ep : Int) ≤ 1099511627776) := Lib.hid ⟨q1, q2⟩
          have HAT : Hid ((at9 : Int) ≤ 1048576) := Lib.hid (by omega)
          have HPG : Hid ((pg : Int) ≤ 9223372036854775807) := HPG0
          have hla := HLA.out
          obtain ⟨LL, hLL⟩ : ∃ LL, LL = List.replicate 19 la := ⟨_, rfl⟩
          have HLL := Lib.hid hLL
          have HLL2 : Hid (LL.length + 45 ≤ 64 ∧ ∀ b ∈ LL, b < 256) := Lib.hid (by rw [hLL]; exact ⟨by simp, fun b hb => by rw [List.eq_of_mem_replicate hb]; exact hla⟩)
          have HLL3 : Hid (LL.length = 19) := Lib.hid (by rw [hLL]; simp)
          obtain ⟨FL, hFL⟩ : ∃ FL : Bool, FL = ((la : Int).tmod 2 == 1) := ⟨_, rfl⟩
          have HFL := Lib.hid hFL
          clear hLL hFL HRD HPG0
          go_wp2_with (at_make; refine wpList_make_run rfl _ _ 42 rfl _ _ _ w2 rfl rfl MK.out ?_)
          refine wp_region_H (fun v => v.cell? (p.add (i * 6)) = some (.int .i64 (ep : Int)) ∧ v.cell? ⟨(p.add (i * 6)).block, (p.add (i * 6)).off + 1, none⟩ = some (.int .i64 (at9 : Int)) ∧ v.cell? ⟨(p.add (i * 6)).block, (p.add (i * 6)).off + 2, none⟩ = some (.int .i64 (pg : Int)) ∧ v.cell? ⟨(p.add (i * 6)).block, (p.add (i * 6)).off + 3, none⟩ = some (.int .u8 (la : Int))) (by kernel_rfl) (fun u0 hu0 => ?_)
          have hS0 : (fun v => v.cell? (p.add (i * 6)) = some (.int .i64 (ep : Int)) ∧ v.cell? ⟨(p.add (i * 6)).block, (p.add (i * 6)).off + 1, none⟩ = some (.int .i64 (at9 : Int)) ∧ v.cell? ⟨(p.add (i * 6)).block, (p.add (i * 6)).off + 2, none⟩ = some (.int .i64 (pg : Int)) ∧ v.cell? ⟨(p.add (i * 6)).block, (p.add (i * 6)).off + 3, none⟩ = some (.int .u8 (la : Int))) u0 := by subst hu0; exact HC.out
          have hb0 : Below wr.heap.size wr u0 := by subst hu0; exact HB2.out.drew
          clear hu0
          refine wpH_take (i := 0) (v := ?_) rfl rfl (by kernel_rfl) (by kernel_rfl) (by kernel_rfl) (fun _ _ _ h => h) (Or.inl ⟨by rfl, ?_⟩) hS0 ?_
          rotate_left
          · (intro w_ hw_; go_simp; try with_reducible rfl)
          simp only [List.setIfInBounds_toArray, List.set_cons_zero, List.set_cons_succ]
          refine wpH_take (i := 1) (v := ?_) rfl rfl (by kernel_rfl) (by kernel_rfl) (by kernel_rfl) (fun _ _ _ h => h) (Or.inl ⟨by rfl, ?_⟩) hS0 ?_
          rotate_left
          · (intro w_ hw_; go_simp; try with_reducible rfl)
          simp only [List.setIfInBounds_toArray, List.set_cons_zero, List.set_cons_succ]
          refine wpH_take (i := 2) (v := ?_) rfl rfl (by kernel_rfl) (by kernel_rfl) (by kernel_rfl) (fun _ _ _ h => h) (Or.inl ⟨by rfl, ?_⟩) hS0 ?_
          rotate_left
          · (intro w_ hw_; go_simp; try with_reducible rfl)
          simp only [List.setIfInBounds_toArray, List.set_cons_zero, List.set_cons_succ]
          refine wpH_take (i := 3) (v := ?_) rfl rfl (by kernel_rfl) (by kernel_rfl) (by kernel_rfl) (fun _ _ _ h => h) (Or.inl ⟨by rfl, ?_⟩) hS0 ?_
          rotate_left
          · (intro w_ hw_; go_simp; try with_reducible rfl)
          simp only [List.setIfInBounds_toArray, List.set_cons_zero, List.set_cons_succ]
          refine wpH_take (i := 4) (v := ?_) rfl rfl (by kernel_rfl) (by kernel_rfl) (by kernel_rfl) (fun _ _ _ h => h) (Or.inl ⟨by rfl, ?_⟩) hS0 ?_
          rotate_left
          · (intro w_ hw_; (have q1 := hw_.1; have q2 := hw_.2.1; have q3 := hw_.2.2.1; have q4 := hw_.2.2.2; clear hw_); go_simp; try with_reducible rfl)
          simp only [List.setIfInBounds_toArray, List.set_cons_zero, List.set_cons_succ]
          refine wpH_take (i := 5) (v := ?_) rfl rfl (by kernel_rfl) (by kernel_rfl) (by kernel_rfl) (fun _ _ _ h => h) (Or.inl ⟨by rfl, ?_⟩) hS0 ?_
          rotate_left
          · (intro w_ hw_; go_simp; try with_reducible rfl)
          simp only [List.setIfInBounds_toArray, List.set_cons_zero, List.set_cons_succ]
          refine wpH_take (i := 6) (v := ?_) rfl rfl (by kernel_rfl) (by kernel_rfl) (by kernel_rfl) (fun _ _ _ h => h) (Or.inl ⟨by rfl, ?_⟩) hS0 ?_
          rotate_left
          · (intro w_ hw_; go_simp; try with_reducible rfl)
          simp only [List.setIfInBounds_toArray, List.set_cons_zero, List.set_cons_succ]
          refine wpH_take (i := 7) (v := ?_) rfl rfl (by kernel_rfl) (by kernel_rfl) (by kernel_rfl) (fun _ _ _ h => h) (Or.inl ⟨by rfl, ?_⟩) hS0 ?_
          rotate_left
          · (intro w_ hw_; go_simp; try with_reducible rfl)
          simp only [List.setIfInBounds_toArray, List.set_cons_zero, List.set_cons_succ]
          refine wpH_take (i := 8) (v := ?_) rfl rfl (by kernel_rfl) (by kernel_rfl) (by kernel_rfl) (fun _ _ _ h => h) (Or.inl ⟨by rfl, ?_⟩) hS0 ?_
          rotate_left
          · (intro w_ hw_; go_simp; try with_reducible rfl)
          simp only [List.setIfInBounds_toArray, List.set_cons_zero, List.set_cons_succ]
          refine wpH_take (i := 9) (v := ?_) rfl rfl (by kernel_rfl) (by kernel_rfl) (by kernel_rfl) (fun _ _ _ h => h) (Or.inl ⟨by rfl, ?_⟩) hS0 ?_
          rotate_left
          · (intro w_ hw_; (have q1 := hw_.1; have q2 := hw_.2.1; have q3 := hw_.2.2.1; have q4 := hw_.2.2.2; clear hw_); go_simp; try with_reducible rfl)
          simp only [List.setIfInBounds_toArray, List.set_cons_zero, List.set_cons_succ]
          refine wpH_take (i := 10) (v := ?_) rfl rfl (by kernel_rfl) (by kernel_rfl) (by kernel_rfl) (fun _ _ _ h => h) (Or.inl ⟨by rfl, ?_⟩) hS0 ?_
          rotate_left
          · (intro w_ hw_; go_simp; try with_reducible rfl)
          simp only [List.setIfInBounds_toArray, List.set_cons_zero, List.set_cons_succ]
          refine wpH_take (i := 11) (v := ?_) rfl rfl (by kernel_rfl) (by kernel_rfl) (by kernel_rfl) (fun _ _ _ h => h) (Or.inl ⟨by rfl, ?_⟩) hS0 ?_
          rotate_left
          · (intro w_ hw_; go_simp; try with_reducible rfl)
          simp only [List.setIfInBounds_toArray, List.set_cons_zero, List.set_cons_succ]
          refine wpH_take (i := 12) (v := ?_) rfl rfl (by kernel_rfl) (by kernel_rfl) (by kernel_rfl) (fun _ _ _ h => h) (Or.inl ⟨by rfl, ?_⟩) hS0 ?_
          rotate_left
          · (intro w_ hw_; go_simp; try with_reducible rfl)
          simp only [List.setIfInBounds_toArray, List.set_cons_zero, List.set_cons_succ]
          refine wpH_take (i := 13) (v := ?_) rfl rfl (by kernel_rfl) (by kernel_rfl) (by kernel_rfl) (fun _ _ _ h => h) (Or.inl ⟨by rfl, ?_⟩) hS0 ?_
          rotate_left
          · (intro w_ hw_; go_simp; try with_reducible rfl)
          simp only [List.setIfInBounds_toArray, List.set_cons_zero, List.set_cons_succ]
          refine wpH_take (i := 14) (v := ?_) rfl rfl (by kernel_rfl) (by kernel_rfl) (by kernel_rfl) (fun _ _ _ h => h) (Or.inl ⟨by rfl, ?_⟩) hS0 ?_
          rotate_left
          · (intro w_ hw_; (have q1 := hw_.1; have q2 := hw_.2.1; have q3 := hw_.2.2.1; have q4 := hw_.2.2.2; clear hw_); go_simp; try with_reducible rfl)
          simp only [List.setIfInBounds_toArray, List.set_cons_zero, List.set_cons_succ]
          refine wpH_take (i := 15) (v := ?_) rfl rfl (by kernel_rfl) (by kernel_rfl) (by kernel_rfl) (fun _ _ _ h => h) (Or.inl ⟨by rfl, ?_⟩) hS0 ?_
          rotate_left
          · (intro w_ hw_; go_simp; try with_reducible rfl)
          simp only [List.setIfInBounds_toArray, List.set_cons_zero, List.set_cons_succ]
          refine wpH_take (i := 16) (v := ?_) rfl rfl (by kernel_rfl) (by kernel_rfl) (by kernel_rfl) (fun _ _ _ h => h) (Or.inl ⟨by rfl, ?_⟩) hS0 ?_
          rotate_left
          · (intro w_ hw_; go_simp; try with_reducible rfl)
          simp only [List.setIfInBounds_toArray, List.set_cons_zero, List.set_cons_succ]
          refine wpH_take (i := 17) (v := ?_) rfl rfl (by kernel_rfl) (by kernel_rfl) (by kernel_rfl) (fun _ _ _ h => h) (Or.inl ⟨by rfl, ?_⟩) hS0 ?_
          rotate_left
          · (intro w_ hw_; go_simp; try with_reducible rfl)
          simp only [List.setIfInBounds_toArray, List.set_cons_zero, List.set_cons_succ]
          refine wpH_take (i := 18) (v := ?_) rfl rfl (by kernel_rfl) (by kernel_rfl) (by kernel_rfl) (fun _ _ _ h => h) (Or.inl ⟨by rfl, ?_⟩) hS0 ?_
          rotate_left
          · (intro w_ hw_; go_simp; try with_reducible rfl)
          simp only [List.setIfInBounds_toArray, List.set_cons_zero, List.set_cons_succ]
          refine wpH_take (i := 19) (v := ?_) rfl rfl (by kernel_rfl) (by kernel_rfl) (by kernel_rfl) (fun _ _ _ h => h) (Or.inl ⟨by rfl, ?_⟩) hS0 ?_
          rotate_left
          · (intro w_ hw_; (have q1 := hw_.1; have q2 := hw_.2.1; have q3 := hw_.2.2.1; have q4 := hw_.2.2.2; clear hw_); go_simp; try with_reducible rfl)
          simp only [List.setIfInBounds_toArray, List.set_cons_zero, List.set_cons_succ]
          refine wpH_take (i := 23) (v := ?_) rfl rfl (by kernel_rfl) (by kernel_rfl) (by kernel_rfl) (fun _ _ _ h => h) (Or.inl ⟨by rfl, ?_⟩) hS0 ?_
          rotate_left
          · (intro w_ hw_; go_simp; try with_reducible rfl)
          simp only [List.setIfInBounds_toArray, List.set_cons_zero, List.set_cons_succ]
          refine wpH_take (i := 24) (v := ?_) rfl rfl (by kernel_rfl) (by kernel_rfl) (by kernel_rfl) (fun _ _ _ h => h) (Or.inl ⟨by rfl, ?_⟩) hS0 ?_
          rotate_left
          · (intro w_ hw_; go_simp; try with_reducible rfl)
          simp only [List.setIfInBounds_toArray, List.set_cons_zero, List.set_cons_succ]
          refine wpH_take (i := 25) (v := ?_) rfl rfl (by kernel_rfl) (by kernel_rfl) (by kernel_rfl) (fun _ _ _ h => h) (Or.inl ⟨by rfl, ?_⟩) hS0 ?_
          rotate_left
          · (intro w_ hw_; go_simp; try with_reducible rfl)
          simp only [List.setIfInBounds_toArray, List.set_cons_zero, List.set_cons_succ]
          refine wpH_take (i := 26) (v := ?_) rfl rfl (by kernel_rfl) (by kernel_rfl) (by kernel_rfl) (fun _ _ _ h => h) (Or.inl ⟨by rfl, ?_⟩) hS0 ?_
          rotate_left
          · (intro w_ hw_; go_simp; try with_reducible rfl)
          simp only [List.setIfInBounds_toArray, List.set_cons_zero, List.set_cons_succ]
          refine wpH_take (i := 27) (v := ?_) rfl rfl (by kernel_rfl) (by kernel_rfl) (by kernel_rfl) (fun _ _ _ h => h) (Or.inl ⟨by rfl, ?_⟩) hS0 ?_
          rotate_left
          · (intro w_ hw_; (have q1 := hw_.1; have q2 := hw_.2.1; have q3 := hw_.2.2.1; have q4 := hw_.2.2.2; clear hw_); go_simp; try with_reducible rfl)
          simp only [List.setIfInBounds_toArray, List.set_cons_zero, List.set_cons_succ]
          refine wpH_take (i := 28) (v := ?_) rfl rfl (by kernel_rfl) (by kernel_rfl) (by kernel_rfl) (fun _ _ _ h => h) (Or.inl ⟨by rfl, ?_⟩) hS0 ?_
          rotate_left
          · (intro w_ hw_; go_simp; try with_reducible rfl)
          simp only [List.setIfInBounds_toArray, List.set_cons_zero, List.set_cons_succ]
          refine wpH_take (i := 29) (v := ?_) rfl rfl (by kernel_rfl) (by kernel_rfl) (by kernel_rfl) (fun _ _ _ h => h) (Or.inl ⟨by rfl, ?_⟩) hS0 ?_
          rotate_left
          · (intro w_ hw_; go_simp; try with_reducible rfl)
          simp only [List.setIfInBounds_toArray, List.set_cons_zero, List.set_cons_succ]
          have hf := full_anyv la 19 u0 HLA.out (by omega)
          refine wpH_callv (i := 20) (by kernel_rfl) rfl rfl (by rfl) (hf) (by go_simp) ?_
          rintro _ u1 ⟨g9, rfl, ho9, hb9⟩
          have hS1 : (fun v => v.cell? (p.add (i * 6)) = some (.int .i64 (ep : Int)) ∧ v.cell? ⟨(p.add (i * 6)).block, (p.add (i * 6)).off + 1, none⟩ = some (.int .i64 (at9 : Int)) ∧ v.cell? ⟨(p.add (i * 6)).block, (p.add (i * 6)).off + 2, none⟩ = some (.int .i64 (pg : Int)) ∧ v.cell? ⟨(p.add (i * 6)).block, (p.add (i * 6)).off + 3, none⟩ = some (.int .u8 (la : Int))) u1 := ⟨cell_grew hS0.1 hb9, cell_grew hS0.2.1 hb9, cell_grew hS0.2.2.1 hb9, cell_grew hS0.2.2.2 hb9⟩
          clear hS0
          refine ⟨hS1, ?_⟩
          simp only [List.setIfInBounds_toArray, List.set_cons_zero, List.set_cons_succ]
          have hb1 := grow hb0 hb9
          have hst := (Byt.of_own' ho9).strv
          clear hf hb0 hb9
          have hS2 : (fun v => v.cell? (p.add (i * 6)) = some (.int .i64 (ep : Int)) ∧ v.cell? ⟨(p.add (i * 6)).block, (p.add (i * 6)).off + 1, none⟩ = some (.int .i64 (at9 : Int)) ∧ v.cell? ⟨(p.add (i * 6)).block, (p.add (i * 6)).off + 2, none⟩ = some (.int .i64 (pg : Int)) ∧ v.cell? ⟨(p.add (i * 6)).block, (p.add (i * 6)).off + 3, none⟩ = some (.int .u8 (la : Int))) u1 := hS1
          clear hS1
          refine wpH_run (i := 21) (v := (.string (str LL))) (w' := u1) (by kernel_rfl) rfl rfl (by rfl) (by rw [HLL.out]; exact exec_convert 42 9 (.tmp 113) rfl rfl hst) hS2 ?_
          simp only [List.setIfInBounds_toArray, List.set_cons_zero, List.set_cons_succ]
          clear hst ho9
          refine wpH_take (i := 22) (v := ?_) rfl rfl (by kernel_rfl) (by kernel_rfl) (by kernel_rfl) (fun _ _ _ h => h) (Or.inl ⟨by rfl, ?_⟩) hS2 ?_
          rotate_left
          · (intro w_ hw_; go_simp; try with_reducible rfl)
          simp only [List.setIfInBounds_toArray, List.set_cons_zero, List.set_cons_succ]
          have hsc := refSector_any 64 ep at9 pg LL FL u1 (by decide) (by decide) HEP.out HAT.out HPG.out HLL2.out.1 HLL2.out.2
          refine wpH_callv (i := 30) (by kernel_rfl) rfl rfl (by rfl) (hsc) (by go_simp; exact HFL.out.symm) ?_
          rintro v9 u2 ⟨ho9, hb9⟩
          have hS3 : (fun v => v.cell? (p.add (i * 6)) = some (.int .i64 (ep : Int)) ∧ v.cell? ⟨(p.add (i * 6)).block, (p.add (i * 6)).off + 1, none⟩ = some (.int .i64 (at9 : Int)) ∧ v.cell? ⟨(p.add (i * 6)).block, (p.add (i * 6)).off + 2, none⟩ = some (.int .i64 (pg : Int)) ∧ v.cell? ⟨(p.add (i * 6)).block, (p.add (i * 6)).off + 3, none⟩ = some (.int .u8 (la : Int))) u2 := ⟨cell_grew hS2.1 hb9, cell_grew hS2.2.1 hb9, cell_grew hS2.2.2.1 hb9, cell_grew hS2.2.2.2 hb9⟩
          clear hS2
          refine ⟨hS3, ?_⟩
          simp only [List.setIfInBounds_toArray, List.set_cons_zero, List.set_cons_succ]
          have hb5 := grow hb1 hb9
          have HS5 := Lib.hid (HS.out.grew hb5)
          obtain ⟨s, hs9⟩ : ∃ s, s = sector 64 (ep * 2097152 + at9 + 1) (leb pg 8 ++ [if FL then 1 else 0] ++ LL) := ⟨_, rfl⟩
          rw [← hs9] at ho9
          have hsl : s.length = 64 := by rw [hs9]; exact sector_length (by simp [HLL3.out])
          obtain ⟨p2, c2, rfl, -, -⟩ := ho9.at_ 64 hsl (by omega)
          have HBY := Lib.hid (Byt.of_own' ho9)
          clear hs9 hb1 hb5 hsc hb9 ho9 HS HS2 HO2
          refine wpH_take (i := 31) (v := ?_) rfl rfl (by kernel_rfl) (by kernel_rfl) (by kernel_rfl) (fun _ _ _ h => h) (Or.inl ⟨by rfl, ?_⟩) hS3 ?_
          rotate_left
          · (intro w_ hw_; go_simp; try with_reducible rfl)
          simp only [List.setIfInBounds_toArray, List.set_cons_zero, List.set_cons_succ]
          clear hS3
          refine wpAnyH_done (by kernel_rfl) ?_ _
          go_wp2_with fail
          have hpu := HW.out.push (by have := HLN.out; omega) hsl
          rw [HLN.out] at hpu
          have HPU := Lib.hid hpu
          have HL1 : Hid ((ss ++ [s]).length = i + 1) := Lib.hid (by simp [HLN.out])
          clear hpu hsl
          refine (Write_dk HS5.out.dk (1 + (i : Int)) HBY.out (by have := HW.out.loose; have := HLN.out; omega)).mono ?_
          rintro r w6 ⟨rfl, vl6, hk6, hst6⟩
          rw [HPU.out.1]
          have HS6 := Lib.hid (HS5.out.stepped hk6 hst6)
          have hby6 := hst6.byt HBY.out
          have HW6 := Lib.hid HPU.out.2
          clear hk6 hst6 HBY HS5 HPU
          obtain ⟨sv', w7, hrun, hs7⟩ := HS6.out.push (by have := HLN.out; omega) hby6
          have HRUN := Lib.hid hrun
          have HS7 := Lib.hid hs7
          clear hrun hs7 hby6 HS6
          go_wp2_with (at_builtin; refine Lib.wpList_append_run _ rfl (.tmp 130) (.tmp 132) 66 66 rfl _ _ rfl rfl _ w7 HRUN.out ?_)
          go_round
          case rel => exact ⟨i + 1, _, vl6, ss ++ [s], by omega, by go_num, HL1, HS7, HW6⟩
          case measure => simp only [intOf]; omega
    · obtain rfl : n = i := by omega
      have hk3 : ¬ (n : Int) < n := by omega
      obtain ⟨A6, c6, e6⟩ := HS.out.row.form
      rw [HLN.out] at e6
      subst e6
      have hl10 : ss.length ≤ 10 := by have := HLN.out; omega
      have hl0 : 0 < ss.length := by have := HLN.out; omega
      have hok := HW.out.at_ok hl10 hl0
      have hsl := HW.out.secL
      have hlat := HW.out.lat n (by rw [HLN.out]; exact Nat.le_refl _)
      rw [HLN.out] at hok hsl
      obtain ⟨R, hR⟩ : ∃ R, R = grpL E (secL (fun i => ss[i]?.getD []) n 0) [] [] := ⟨_, rfl⟩
      have hg : grp D 1 E n 0 [] [] = R := by unfold grp; rw [hsl, hR]
      have HRR := Lib.hid hR.symm
      have HRL : Hid (R.length ≤ 1000000000 ∧ ∀ g ∈ R, g.length ≤ 1000000000) := Lib.hid (by
        rw [hR]
        have hl := secL_length (fun i => ss[i]?.getD []) n 0
        refine ⟨Nat.le_trans (grpL_len _ _ _ _) (by rw [hl]; simp; omega), grpL_each _ _ _ _ _ (by simp) (by rw [hl]; simp; omega)⟩)
      have h13 : Calls Try.prog 13 #[.pointer (some ⟨b, 0, none⟩), .int .i64 1, .int .i64 n, .int .i64 E] wr fun e w' => ∃ ov, e = .returned (.tuple #[ov, .int .i64 0]) ∧ (∃ B, Grps w' ov R B) ∧ Below wr.heap.size wr w' :=
        LRead_any HS.out.dk.disk 1 n E hok (by unfold okEp; exact decide_eq_true (by omega)) (by have := HW.out.loose; omega) HW.out.down R hg
      have H13 := Lib.hid h13
      have HOK := Lib.hid hok
      have HLAT := Lib.hid hlat
      have HCL := Lib.hid (HW.out.cleaned hl10)
      rw [HLN.out] at HCL
      clear hR hg hok hsl hlat h13
      go_wp2_with fail
      refine H13.out.mono ?_
      rintro r w2 ⟨ov, rfl, hg, hb⟩
      have HS2 := Lib.hid (HS.out.grew hb)
      have HG2 := Lib.hid hg
      clear hg hb HS H13
      have h22 : Calls Try.prog 22 #[.pointer (some ⟨b, 0, none⟩), .int .i64 1, .int .i64 n] w2 fun e w' => e = .returned (.tuple #[.int .i64 (latS ss n), .int .i64 0]) ∧ Below w2.heap.size w2 w' := by
        rw [← HLAT.out]
        exact Latest_any HS2.out.dk.disk 1 n HOK.out (by have := HW.out.loose; omega) HW.out.down
      have H22 := Lib.hid h22
      clear h22
      go_wp2_with fail
      refine H22.out.mono ?_
      rintro r w3 ⟨rfl, hb⟩
      have HS3 := Lib.hid (HS2.out.grew hb)
      have HG3 : Hid (∃ B, Grps w3 ov R B) := Lib.hid (by obtain ⟨B, h⟩ := HG2.out; exact ⟨B, h.grew hb⟩)
      clear hb HS2 HG2 H22
      have h27 : Calls Try.prog 27 #[.pointer (some ⟨b, 0, none⟩), .int .i64 1, .int .i64 n] w3 fun e w' => e = .returned (.int .i64 0) ∧ ∃ vl', DiskAt w' b m vl' (wiped D 1 (tornL D 1 n)).flush ∧ Turn (own b m vl) w3 w' ∧ ∀ g, vl'.ownBlock = some g → vl.ownBlock = some g ∨ w3.heap.size ≤ g :=
        Clean_any HS3.out.dk.disk 1 n HOK.out (by have := HW.out.loose; omega) HW.out.down HW.out.armed
      have H27 := Lib.hid h27
      clear h27
      obtain ⟨L, hL⟩ : ∃ L, L = latS ss n := ⟨_, rfl⟩
      have HL := Lib.hid hL
      rw [← hL]
      clear hL
      go_wp2_with fail
      refine H27.out.mono ?_
      rintro r w4 ⟨rfl, vl4, hd, ht, hg⟩
      obtain ⟨hk4, hst4⟩ := HS3.out.dk.stepped hd ht hg
      have HS4 := Lib.hid (HS3.out.stepped hk4 hst4)
      have HG4 := Lib.hid (HS3.out.groups hst4 HG3.out)
      clear hd ht hg hk4 hst4 HS3 HG3 H27
      obtain ⟨D4, hD4⟩ : ∃ D4, D4 = (wiped D 1 (tornL D 1 n)).flush := ⟨_, rfl⟩
      rw [← hD4] at HS4 HCL
      clear hD4
      have h30 : Calls Try.prog 30 #[.pointer (some ⟨b, 0, none⟩)] w4 fun e w' => e = .returned (.int .i64 0) ∧ w' = w4 := by
        have := Loose_any HS4.out.dk.disk
        rw [HCL.out.loose] at this
        exact this
      have H30 := Lib.hid h30
      clear h30 HOK HLAT HW
      go_wp2_with fail
      refine H30.out.mono ?_
      rintro r _ ⟨rfl, rfl⟩
      clear H30
      obtain ⟨zs, hzs⟩ : ∃ zs, zs = List.replicate 64 0 := ⟨_, rfl⟩
      have HZS := Lib.hid hzs
      clear hzs
      go_wp2_with fail
      go_loopw [13, 14, 15, 16, 17, 18] (fun kv _ _ _ _ _ wk => ∃ k : Nat, k ≤ n ∧ kv = .int .i64 k ∧ Hid (SrS w wk b m vl4 D4 (.slice A6 n c6) ss) ∧ Hid (∃ B, Grps wk ov R B)) (fun kv _ _ _ _ _ _ => n - (intOf kv).toNat)
      case atStart => exact ⟨0, by omega, rfl, HS4, HG4⟩
      case round =>
        clear HS4 HG4
        obtain ⟨k, hk, rfl, HS, HG⟩ := hrel
        by_cases hlt2 : k < n
        · have hkl : k < ss.length := by rw [HLN.out]; exact hlt2
          have hrd := Read_dk HS.out.dk (1 + (k : Int)) (by rw [HCL.out.loose]; simp) (by unfold Dsk.ready; rw [HCL.out.down, HCL.out.sec, if_neg (by simp), if_neg (by omega)])
          rw [HCL.out.size, HCL.out.tells k hkl] at hrd
          have HRD := Lib.hid hrd
          have hk10 : (k : Int) ≤ 10 := by omega
          clear hrd
          go_wp2_with fail
          refine HRD.out.mono ?_
          rintro r w5 ⟨g5, c5, rfl, ho5, -, hb5⟩
          have HS5 := Lib.hid (HS.out.grew hb5)
          have HG5 : Hid (∃ B, Grps w5 ov R B) := Lib.hid (by obtain ⟨B, h⟩ := HG.out; exact ⟨B, h.grew hb5⟩)
          have HBR := Lib.hid (Byt.of_own' ho5)
          obtain ⟨g, q, cq, eA, _, c1, _, hy⟩ := HS5.out.row.secs k hkl
          subst eA
          have hst := hy.strv
          have HSL := Lib.hid (refSlot_any q ss[k] 64 cq k w5 hy (by decide) (by decide) (by omega))
          have HWN : Hid (wantOf ss[k] k = if slotEp ss[k] k = 0 then List.replicate 64 0 else ss[k]) := Lib.hid rfl
          obtain ⟨s, hs⟩ : ∃ s, s = ss[k] := ⟨_, rfl⟩
          rw [← hs] at HBR HSL HWN hst
          obtain ⟨x, hx⟩ : ∃ x, x = slotEp s k := ⟨_, rfl⟩
          rw [← hx] at HSL HWN
          obtain ⟨ST, hST⟩ : ∃ ST, ST = str s := ⟨_, rfl⟩
          rw [← hST] at hst
          have HST := Lib.hid hST
          clear hST ho5 hb5 hy hs hx HRD HS HG
          go_wp2_with fail
          refine HSL.out.mono ?_
          rintro r w6 ⟨v6, rfl, ho6, hb6⟩
          have HS6 := Lib.hid (HS5.out.grew hb6)
          have HG6 : Hid (∃ B, Grps w6 ov R B) := Lib.hid (by obtain ⟨B, h⟩ := HG5.out; exact ⟨B, h.grew hb6⟩)
          have HB6 := Lib.hid (HBR.out.grew hb6)
          obtain ⟨A9, c9, e9, _⟩ := ho6.form
          subst e9
          clear ho6 hb6 HS5 HG5 HBR HSL hst c1
          generalize (slotLoad s k).length = n9
          have hb6' := HB6.out
          by_cases hx0 : x = 0
          · have hwn : wantOf s k = zs := by rw [HWN.out, if_pos hx0, HZS.out]
            rw [hwn] at hb6'
            obtain ⟨w7, hmk, ho7, hg7⟩ := run_makeN (w := w6) w6.heap.size 64 (Nat.le_refl _) (by omega)
            have hb7 : Below w6.heap.size w6 w7 := (Below.refl w6.heap.size w6).grown hg7 (Nat.le_refl _) (by simp)
            have hst7 := (Byt.of_own' ho7).strv
            rw [← HZS.out] at hst7
            have hst8 := (hb6'.grew hb7).strv
            have HS7 := Lib.hid (HS6.out.grew hb7)
            have HG7 : Hid (∃ B, Grps w7 ov R B) := Lib.hid (by obtain ⟨B, h⟩ := HG6.out; exact ⟨B, h.grew hb7⟩)
            have MK := Lib.hid hmk
            obtain ⟨Z, hZ⟩ : ∃ Z, Z = str zs := ⟨_, rfl⟩
            rw [← hZ] at hst7 hst8
            clear hZ hmk ho7 hg7 hb7 hwn hb6' HS6 HG6 HB6 HWN
            go_wp2_with (at_make; refine wpList_make_run rfl _ _ 42 rfl _ _ _ w7 rfl rfl MK.out ?_)
            go_round
            case rel => exact ⟨k + 1, by omega, by go_num, HS7, HG7⟩
            case measure => simp only [intOf]; omega
          · have hwn : wantOf s k = s := by rw [HWN.out, if_neg hx0]
            rw [hwn] at hb6'
            have hst8 := hb6'.strv
            rw [← HST.out] at hst8
            clear hwn hb6' HB6 HWN
            go_wp2
            go_round
            case rel => exact ⟨k + 1, by omega, by go_num, HS6, HG6⟩
            case measure => simp only [intOf]; omega
        · obtain rfl : n = k := by omega
          have hk4 : ¬ (n : Int) < n := by omega
          have HRG := Lib.hid (refGroups_any A6 ss n c6 64 wr.heap.size E wr HLN.out (by omega) HS.out.row.secs (by decide) (by decide) (by omega) R HRR.out)
          go_wp2_with fail
          refine HRG.out.mono ?_
          rintro r w7 ⟨v7, rfl, hrg, hb7⟩
          have HS7 := Lib.hid (HS.out.grew hb7)
          obtain ⟨B7, hg7⟩ := HG.out
          have h23 : Calls Try.prog 23 #[ov, v7] w7 fun e w' => e = .returned (.bool true) ∧ Below w7.heap.size w7 w' := (told_rg (hg7.grew hb7) hrg hg7.bytes HRL.out.1 HRL.out.2).mono (by rintro e w' ⟨rfl, hb⟩; exact ⟨by simp, hb⟩)
          have H23 := Lib.hid h23
          clear h23 hrg hb7 hg7 HS HG HRG
          go_wp2_with fail
          refine H23.out.mono ?_
          rintro r w8 ⟨rfl, hb8⟩
          have HS8 := Lib.hid (HS7.out.grew hb8)
          have h33 := refLatest_any A6 ss n c6 64 w8.heap.size w8 HLN.out (by omega) HS8.out.row.secs (by decide) (by decide)
          rw [← HL.out] at h33
          have H33 := Lib.hid h33
          clear h33 hb8 HS7 H23
          go_wp2_with fail
          refine H33.out.mono ?_
          rintro r w9 ⟨rfl, hb9⟩
          have HS9 := Lib.hid (HS8.out.grew hb9)
          clear hb9 HS8 H33
          go_wp2_with fail
          refine (awake_any _).mono ?_
          rintro r w10 ⟨rfl, hb10⟩
          have HB := Lib.hid (grow HS9.out.dk.low hb10)
          clear hb10
          go_wp2
          go_ret
          exact ⟨rfl, HB.out⟩
end Go.Proofs.Ytpomfokpmbblkaa
