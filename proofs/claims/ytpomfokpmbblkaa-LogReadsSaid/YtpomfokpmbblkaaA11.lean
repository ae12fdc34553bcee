/- Walks: LogAgain. Printed by mk_a11.py. -/
import Derived.Test.YtpomfokpmbblkaaA10
namespace Go.Proofs.Ytpomfokpmbblkaa
open Go.RowKit Go.Maps
set_option maxRecDepth 8000

/-- LogAgain's elder log at its start. -/
theorem again_elder (n : Nat) : Elder ((Dsk.new 12 64).arm n) ⟨1, 10, 7, 0, false⟩ :=
  .inl ⟨[], LogHas.start rfl (by show 1 + 10 ≤ 12; omega) ⟨by show 1 ≤ 1048576; omega, by show 10 ≤ 1048576; omega, by show 1 ≤ 7 ∧ 7 ≤ 1099511627776; omega, Nat.zero_le _⟩ rfl (by show 64 ≤ 64; omega) (fun i _ => by
    show slotEp (List.replicate 64 0) i ≠ (7 : Nat)
    rw [slotEp_zeros (by decide)]; decide), fun _ _ _ => rfl, rfl, by show 0 ≤ max (n : Int) 0; omega⟩
/-- The newer one's. -/
theorem again_newer {D : Dsk} {L : Lg} (h : Elder D L) (hO : D.Ok) (hf : Fix D L 64 12 1 10 7) (fs : List Int) : Newer (D.crash fs) ⟨1, 10, 8, 0, false⟩ [] := by
  refine ⟨LogHas.start rfl ?_ ⟨by show 1 ≤ 1048576; omega, by show 10 ≤ 1048576; omega, by show 1 ≤ 8 ∧ 8 ≤ 1099511627776; omega, Nat.zero_le _⟩ rfl ?_ (fun i hi => ?_), rfl, rfl⟩
  · show 1 + 10 ≤ D.sectors; rw [hf.s]; omega
  · show 64 ≤ D.size; rw [hf.z]; omega
  · have := h.other hO fs (e := 8) (by omega) (by rw [hf.e]; omega) i (by rw [hf.c]; exact hi)
    rw [hf.f] at this
    exact this

set_option maxHeartbeats 16000000 in
theorem Again_play (A A2 A3 : Option Addr) (ls l2 : List (List PutV)) (fs : List Int) (n n2 nf c c2 c3 : Nat) (w : World) (hn : ls.length = n) (hn2 : l2.length = n2) (hnf : fs.length = nf) (hr : PutRows w w.heap.size A ls) (hr2 : PutRows w w.heap.size A2 l2)
    (hfc : nf ≤ c3) (hfi : IRd w A3 fs) (hfa : fs ≠ [] → ∀ p, A3 = some p → p.block < w.heap.size) :
    Calls Try.prog 5 #[.slice A n c, .slice A2 n2 c2, .slice A3 nf c3] w fun e w' => e = .returned (.bool true) ∧ Below w.heap.size w w' := by
  have HR := Lib.hid hr
  have HR2 := Lib.hid hr2
  have HN := Lib.hid (And.intro hn hn2)
  have HF := Lib.hid (And.intro hnf (And.intro hfc (And.intro hfi hfa)))
  have HLT := Lib.hid (light_any (.int .u8 0) (.int .i64 0) (.int .i64 0) (.int .i64 0) A ls n c w.heap.size w hn (Nat.le_refl _) hr)
  have HLT2 := Lib.hid (fun w1 (hb : Below w.heap.size w w1) => light_any (.int .u8 0) (.int .i64 0) (.int .i64 0) (.int .i64 0) A2 l2 n2 c2 w.heap.size w1 hn2 hb.size (hr2.below hb))
  clear hn hn2 hr hr2 hnf hfc hfi hfa
  cases hlb : lightB ls with
  | false =>
    rw [hlb] at HLT
    go_enter Try.func5, Try.ntmps5
    go_wp2_with fail
    refine HLT.out.mono ?_
    rintro e w1 ⟨rfl, hb⟩
    have HB := Lib.hid hb
    clear hb
    go_wp2
    go_ret
    exact ⟨rfl, HB.out⟩
  | true =>
    rw [hlb] at HLT
    have hl := of_decide_eq_true hlb
    have HL := Lib.hid hl
    clear hlb hl
    cases hlb2 : lightB l2 with
    | false =>
      rw [hlb2] at HLT2
      go_enter Try.func5, Try.ntmps5
      go_wp2_with fail
      refine HLT.out.mono ?_
      rintro e w1 ⟨rfl, hb⟩
      have HB := Lib.hid hb
      clear hb
      go_wp2_with fail
      refine (HLT2.out w1 HB.out).mono ?_
      rintro e w2 ⟨rfl, hb⟩
      have HB := Lib.hid (grow HB.out hb)
      clear hb
      go_wp2
      go_ret
      exact ⟨rfl, HB.out⟩
    | true =>
      rw [hlb2] at HLT2
      have hl2 := of_decide_eq_true hlb2
      have HL2 := Lib.hid hl2
      clear hlb2 hl2
      by_cases h60 : (60 : Int) < nf
      · go_enter Try.func5, Try.ntmps5
        go_wp2_with fail
        refine HLT.out.mono ?_
        rintro e w1 ⟨rfl, hb⟩
        have HB := Lib.hid hb
        clear hb
        go_wp2_with fail
        refine (HLT2.out w1 HB.out).mono ?_
        rintro e w2 ⟨rfl, hb⟩
        have HB := Lib.hid (grow HB.out hb)
        clear hb
        go_wp2
        go_ret
        exact ⟨rfl, HB.out⟩
      · go_enter Try.func5, Try.ntmps5
        go_wp2_with fail
        refine HLT.out.mono ?_
        rintro e w1 ⟨rfl, hb⟩
        have HB := Lib.hid hb
        clear hb
        go_wp2_with fail
        refine (HLT2.out w1 HB.out).mono ?_
        rintro e w2 ⟨rfl, hb⟩
        have HB2 := Lib.hid (grow HB.out hb)
        clear hb HB HLT HLT2
        go_wp2_with fail
        refine (New_dk w 12 64 (fun _ _ => trivial) HB2.out (by decide) (by decide) (by decide) (by decide)).mono ?_
        rintro e w3 ⟨b, m, rfl, hk, -⟩
        have HK := Lib.hid hk
        clear hk HB2
        go_wp2_with fail
        refine (Start_st HK.out 1 10 7 rfl rfl).mono ?_
        rintro e w4 ⟨G, rfl, hk, -, -⟩
        have HK := Lib.hid hk
        clear hk
        go_wp2_with fail
        refine (Arm_lst HK.out nf (by omega)).mono ?_
        rintro e w5 ⟨rfl, hk⟩
        have HK := Lib.hid hk
        clear hk
        have hn8 : (n : Int) ≤ 8 := by have := HL.out.1; have := HN.out.1; omega
        have hn28 : (n2 : Int) ≤ 8 := by have := HL2.out.1; have := HN.out.2; omega
        have HE0 := Lib.hid (again_elder nf)
        have HF0 : Hid (Fix ((Dsk.new 12 64).arm nf) ⟨1, 10, 7, 0, false⟩ 64 12 1 10 7) := Lib.hid ⟨rfl, rfl, rfl, rfl, rfl⟩
        go_wp2_with fail
        go_loopw [10] (fun iv wr => ∃ (i : Nat) (D : Dsk) (L : Lg) (vl : Value), i ≤ n ∧ iv = .int .i64 i ∧ Hid (LSt w wr b m vl D G L) ∧ Hid (Elder D L) ∧ Hid (Fix D L 64 12 1 10 7)) (fun iv _ => n - (intOf iv).toNat)
        case atStart => exact ⟨0, _, _, _, by omega, rfl, HK, HE0, HF0⟩
        case round =>
          clear HK HE0 HF0
          obtain ⟨i, D, L, vl, hi, rfl, HS, HE, HFX⟩ := hrel
          by_cases hlt : i < n
          · have hig : i < ls.length := by rw [HN.out.1]; exact hlt
            obtain ⟨p, B, cb, e, hpb, c1, hp⟩ := (HR.out.below HS.out.dk.low).get hig
            subst e
            obtain ⟨ni, hni⟩ : ∃ ni, ni = ls[i].length := ⟨_, rfl⟩
            rw [← hni] at c1
            have hni8 : ni ≤ 8 := by rw [hni]; exact HL.out.2 _ (List.getElem_mem hig)
            have HGR := Lib.hid (group_any B ls[i] ni cb w.heap.size 19 wr hni.symm (by omega) HS.out.dk.low.size (by decide) hp)
            have HBY := Lib.hid (chOfPut_bytes 19 hp)
            have HG8 : Hid ((ls[i].map (chOfPut 19)).length ≤ 8) := Lib.hid (by rw [List.length_map, ← hni]; exact hni8)
            obtain ⟨g, hg⟩ : ∃ g, g = ls[i].map (chOfPut 19) := ⟨_, rfl⟩
            rw [← hg] at HGR HBY HG8
            have HE6 := Lib.hid (HE.out.step (g := g) (by rw [HFX.out.z]; omega) HBY.out)
            have HF6 := Lib.hid (HFX.out.step g)
            have HLO := Lib.hid HE.out.lo
            clear hni hp hpb hg HBY HE HFX
            go_wp2_with fail
            refine HGR.out.mono ?_
            rintro e w6 ⟨gv, rfl, hc, -, hb5⟩
            have HS5 := Lib.hid (And.intro (HS.out.grew hb5) hc)
            clear hc hb5 HS HGR
            go_wp2_with fail
            refine (append_puts HS5.out.1 HS5.out.2 HG8.out (by have := HLO.out; omega)).mono ?_
            rintro e w7 ⟨rfl, vl6, hk, -⟩
            have HS6 := Lib.hid hk
            clear hk HS5 HLO
            go_wp2
            go_round
            case rel => exact ⟨i + 1, _, _, vl6, by omega, by go_num, HS6, HE6, HF6⟩
            case measure => simp only [intOf]; omega
          · obtain rfl : i = n := by omega
            have hk3 : ¬ (i : Int) < i := by omega
            have HNW := Lib.hid (again_newer HE.out HS.out.dk.disk.ok HFX.out fs)
            have hlo := HE.out.lo
            go_wp2_with fail
            refine (Crash_fates HS.out fs A3 c3 nf HF.out.1 (by omega) HF.out.2.1 HF.out.2.2.1 HF.out.2.2.2).mono ?_
            rintro e w6 ⟨rfl, vl5, hk⟩
            have HS5 := Lib.hid hk
            have HFS : Hid ((D.crash fs).size = 64 ∧ (D.crash fs).sectors = 12) := Lib.hid ⟨HFX.out.z, HFX.out.s⟩
            clear hk HS HE HFX hlo
            obtain ⟨E, hE⟩ : ∃ E, E = D.crash fs := ⟨_, rfl⟩
            rw [← hE] at HS5 HNW HFS
            clear hE
            go_wp2_with fail
            refine (Start_st HS5.out.dk 1 10 8 (by unfold okAt; rw [HFS.out.2]; rfl) rfl).mono ?_
            rintro e w7 ⟨G2, rfl, hk, -, -⟩
            have HS6 := Lib.hid hk
            clear hk HS5
            have HRD := Lib.hid (LRead_any HS6.out.dk.disk 1 10 8 (by unfold okAt; rw [HFS.out.2]; rfl) rfl (by rw [HNW.out.loose]; decide) HNW.out.has.up [] HNW.out.has.groups)
            go_wp2_with fail
            refine HRD.out.mono ?_
            rintro e w8 ⟨ov, rfl, ⟨B0, hG⟩, hb8⟩
            obtain ⟨Ao, co, rfl⟩ := hG.form
            have HS7 := Lib.hid (HS6.out.grew hb8)
            have HW7 : Hid (WtSt w w8 [] nilv nilv []) := Lib.hid (WtSt.start HS7.out.dk.low)
            have HF7 : Hid (Fix E ⟨1, 10, 8, 0, false⟩ 64 12 1 10 8) := Lib.hid ⟨HFS.out.1, HFS.out.2, rfl, rfl, rfl⟩
            clear hG hb8 HS6 HRD HFS
            go_wp2_with fail
            go_loopw [15, 16] (fun ov iv wr => ∃ (i : Nat) (D : Dsk) (L : Lg) (vl : Value) (rows : List (List (Int × List Nat))), i ≤ n2 ∧ iv = .int .i64 i ∧ Hid (LSt w wr b m vl D G2 L) ∧ Hid (Newer D L rows) ∧ Hid (Fix D L 64 12 1 10 8) ∧ Hid (WtSt w wr rows ov nilv []) ∧ Hid (rows.length ≤ i ∧ BytesIn rows ∧ ∀ g ∈ rows, g.length ≤ 8)) (fun _ iv _ => n2 - (intOf iv).toNat)
            case atStart => exact ⟨0, _, _, _, [], by omega, rfl, HS7, HNW, HF7, HW7, Lib.hid ⟨by simp, by intro g hg; simp at hg, by intro g hg; simp at hg⟩⟩
            case round =>
              clear HS7 HNW HF7 HW7
              obtain ⟨i, D, L, vl, rows, hi, rfl, HS, HNW, HFX, HWT, HRW⟩ := hrel
              obtain ⟨ov, hov⟩ : ∃ ov, ov = u15 := ⟨_, rfl⟩
              rw [← hov] at HWT ⊢
              clear hov
              by_cases hlt : i < n2
              · have hig : i < l2.length := by rw [HN.out.2]; exact hlt
                obtain ⟨p, B, cb, e, hpb, c1, hp⟩ := (HR2.out.below HS.out.dk.low).get hig
                subst e
                obtain ⟨ni, hni⟩ : ∃ ni, ni = l2[i].length := ⟨_, rfl⟩
                rw [← hni] at c1
                have hni8 : ni ≤ 8 := by rw [hni]; exact HL2.out.2 _ (List.getElem_mem hig)
                have HGR := Lib.hid (group_any B l2[i] ni cb w.heap.size 19 wr hni.symm (by omega) HS.out.dk.low.size (by decide) hp)
                have HBY := Lib.hid (chOfPut_bytes 19 hp)
                have HG8 : Hid ((l2[i].map (chOfPut 19)).length ≤ 8) := Lib.hid (by rw [List.length_map, ← hni]; exact hni8)
                obtain ⟨g, hg⟩ : ∃ g, g = l2[i].map (chOfPut 19) := ⟨_, rfl⟩
                rw [← hg] at HGR HBY HG8
                have HE6 := Lib.hid (HNW.out.step (g := g) (by rw [HFX.out.z]; omega) HBY.out)
                have HF6 := Lib.hid (HFX.out.step g)
                have HLO := Lib.hid HNW.out.loose
                clear hni hp hpb hg HNW HFX
                go_wp2_with fail
                refine HGR.out.mono ?_
                rintro e w9 ⟨gv, rfl, hc, -, hb5⟩
                have HS5 := Lib.hid (And.intro (HS.out.grew hb5) (And.intro hc (HWT.out.grew hb5)))
                clear hc hb5 HS HGR HWT
                go_wp2_with fail
                refine (append_puts HS5.out.1 HS5.out.2.1 HG8.out (by rw [HLO.out]; decide)).mono ?_
                rintro e w10 ⟨rfl, vl6, hk, hwent⟩
                have HAG : Hid (AgSt w w10 b m vl6 (app D L g).2.1 G2 (app D L g).2.2 gv g rows ov nilv []) := Lib.hid ⟨hk, HS5.out.2.1.went hwent HS5.out.1.log HS5.out.1.dk.disk, HS5.out.2.2.went HS5.out.1 hwent⟩
                clear hk hwent HS5 HLO
                obtain ⟨X, hX⟩ : ∃ X, X = (app D L g).1 := ⟨_, rfl⟩
                obtain ⟨D6, hD6⟩ : ∃ D6, D6 = (app D L g).2.1 := ⟨_, rfl⟩
                obtain ⟨L6, hL6⟩ : ∃ L6, L6 = (app D L g).2.2 := ⟨_, rfl⟩
                rw [← hX, ← hD6, ← hL6] at HE6
                rw [← hD6, ← hL6] at HAG HF6
                rw [← hX]
                clear hX hD6 hL6
                by_cases hX0 : X = 0
                · subst hX0
                  have HNW6 : Hid (Newer D6 L6 (rows ++ [g])) := Lib.hid (by
                    rcases HE6.out with h | h
                    · exact h.2
                    · exact absurd rfl h.1)
                  clear HE6
                  obtain ⟨Ag, cr, egv⟩ := HAG.out.src.slice
                  subst egv
                  obtain ⟨nr, hnr⟩ : ∃ nr, nr = g.length := ⟨_, rfl⟩
                  rw [← hnr] at HAG ⊢
                  have hnr8 : (nr : Int) ≤ 8 := by have := HG8.out; omega
                  have HNG := Lib.hid hnr
                  clear hnr
                  go_wp2_with fail
                  go_loopw [18, 19] (fun lv kv wk => ∃ k : Nat, k ≤ nr ∧ kv = .int .i64 k ∧ Hid (AgSt w wk b m vl6 D6 G2 L6 (.slice Ag nr cr) g rows ov lv (g.take k))) (fun _ kv _ => nr - (intOf kv).toNat)
                  case atStart => exact ⟨0, by omega, rfl, HAG⟩
                  case round =>
                    clear HAG
                    obtain ⟨k, hk, rfl, HS⟩ := hrel
                    obtain ⟨lv, hlv⟩ : ∃ lv, lv = u18 := ⟨_, rfl⟩
                    rw [← hlv] at HS ⊢
                    clear hlv
                    by_cases hk2 : k < nr
                    · have hki : k < g.length := by rw [← HNG.out]; exact hk2
                      obtain ⟨gr, _, pp, z, d, e, e4, f1, f2, hy, e5⟩ := HS.out.src.at_ k hki
                      injection e with e e2 e3
                      subst e
                      clear e2 e3 e4 e5
                      obtain ⟨px, hpx⟩ : ∃ px, px = g[k].1 := ⟨_, rfl⟩
                      obtain ⟨ll, hll⟩ : ∃ ll, ll = g[k].2 := ⟨_, rfl⟩
                      rw [← hpx] at f1
                      rw [← hll] at hy
                      have HTK : Hid (g.take k ++ [(px, ll)] = g.take (k + 1)) := Lib.hid (by rw [List.take_add_one, List.getElem?_eq_getElem hki, hpx, hll]; rfl)
                      have HC := Lib.hid (And.intro f1 (And.intro f2 hy))
                      have HNB := Lib.hid (show k ≤ 1000000000 by omega)
                      clear f1 f2 hy hpx hll
                      go_wp2_with fail
                      refine wp_region_H (fun v => (v.cell? ⟨gr, k * 2, none⟩ = some (.int .i64 px) ∧ v.cell? ⟨gr, k * 2 + 1, none⟩ = some (.slice (some pp) z d)) ∧ Byt v (.slice (some pp) z d) ll) (by kernel_rfl) (fun u0 hu0 => ?_)
                      have hS0 : (fun v => (v.cell? ⟨gr, k * 2, none⟩ = some (.int .i64 px) ∧ v.cell? ⟨gr, k * 2 + 1, none⟩ = some (.slice (some pp) z d)) ∧ Byt v (.slice (some pp) z d) ll) u0 := by subst hu0; exact ⟨⟨HC.out.1, HC.out.2.1⟩, HC.out.2.2.drew⟩
                      have g0 : AgSt w u0 b m vl6 D6 G2 L6 (.slice (some ⟨gr, 0, none⟩) nr cr) g rows ov lv (g.take k) := by subst hu0; exact HS.out.drew
                      clear hu0
                      refine wpH_take (i := 0) (v := ?_) rfl rfl (by kernel_rfl) (by kernel_rfl) (by kernel_rfl) (fun _ _ _ h => h) (Or.inl ⟨by rfl, ?_⟩) hS0 ?_
                      rotate_left
                      · (intro w_ hw_; go_simp; try with_reducible rfl)
                      simp only [List.setIfInBounds_toArray, List.set_cons_zero, List.set_cons_succ]
                      refine wpH_take (i := 1) (v := ?_) rfl rfl (by kernel_rfl) (by kernel_rfl) (by kernel_rfl) (fun _ _ _ h => h) (Or.inl ⟨by rfl, ?_⟩) hS0 ?_
                      rotate_left
                      · (intro w_ hw_; go_simp; try with_reducible rfl)
                      simp only [List.setIfInBounds_toArray, List.set_cons_zero, List.set_cons_succ]
                      refine wpH_take (i := 2) (v := ?_) rfl rfl (by kernel_rfl) (by kernel_rfl) (by kernel_rfl) (fun _ _ _ h => h) (Or.inl ⟨by rfl, ?_⟩) hS0 ?_
                      rotate_left
                      · (intro w_ hw_; go_simp; try with_reducible rfl)
                      simp only [List.setIfInBounds_toArray, List.set_cons_zero, List.set_cons_succ]
                      refine wpH_take (i := 3) (v := ?_) rfl rfl (by kernel_rfl) (by kernel_rfl) (by kernel_rfl) (fun _ _ _ h => h) (Or.inl ⟨by rfl, ?_⟩) hS0 ?_
                      rotate_left
                      · (intro w_ hw_; go_simp; try with_reducible rfl)
                      simp only [List.setIfInBounds_toArray, List.set_cons_zero, List.set_cons_succ]
                      refine wpH_take (i := 4) (v := ?_) rfl rfl (by kernel_rfl) (by kernel_rfl) (by kernel_rfl) (fun _ _ _ h => h) (Or.inl ⟨by rfl, ?_⟩) hS0 ?_
                      rotate_left
                      · (intro w_ hw_; go_simp; try with_reducible rfl)
                      simp only [List.setIfInBounds_toArray, List.set_cons_zero, List.set_cons_succ]
                      refine wpH_take (i := 5) (v := ?_) rfl rfl (by kernel_rfl) (by kernel_rfl) (by kernel_rfl) (fun _ _ _ h => h) (Or.inl ⟨by rfl, ?_⟩) hS0 ?_
                      rotate_left
                      · (intro w_ hw_; (have q2 := hw_.1.1; have q3 := hw_.1.2; clear hw_); go_simp; try with_reducible rfl)
                      simp only [List.setIfInBounds_toArray, List.set_cons_zero, List.set_cons_succ]
                      refine wpH_take (i := 6) (v := ?_) rfl rfl (by kernel_rfl) (by kernel_rfl) (by kernel_rfl) (fun _ _ _ h => h) (Or.inl ⟨by rfl, ?_⟩) hS0 ?_
                      rotate_left
                      · (intro w_ hw_; go_simp; try with_reducible rfl)
                      simp only [List.setIfInBounds_toArray, List.set_cons_zero, List.set_cons_succ]
                      refine wpH_take (i := 7) (v := ?_) rfl rfl (by kernel_rfl) (by kernel_rfl) (by kernel_rfl) (fun _ _ _ h => h) (Or.inl ⟨by rfl, ?_⟩) hS0 ?_
                      rotate_left
                      · (intro w_ hw_; go_simp; try with_reducible rfl)
                      simp only [List.setIfInBounds_toArray, List.set_cons_zero, List.set_cons_succ]
                      refine wpH_take (i := 8) (v := ?_) rfl rfl (by kernel_rfl) (by kernel_rfl) (by kernel_rfl) (fun _ _ _ h => h) (Or.inl ⟨by rfl, ?_⟩) hS0 ?_
                      rotate_left
                      · (intro w_ hw_; go_simp; try with_reducible rfl)
                      simp only [List.setIfInBounds_toArray, List.set_cons_zero, List.set_cons_succ]
                      refine wpH_take (i := 9) (v := ?_) rfl rfl (by kernel_rfl) (by kernel_rfl) (by kernel_rfl) (fun _ _ _ h => h) (Or.inl ⟨by rfl, ?_⟩) hS0 ?_
                      rotate_left
                      · (intro w_ hw_; go_simp; try with_reducible rfl)
                      simp only [List.setIfInBounds_toArray, List.set_cons_zero, List.set_cons_succ]
                      refine wpH_take (i := 10) (v := ?_) rfl rfl (by kernel_rfl) (by kernel_rfl) (by kernel_rfl) (fun _ _ _ h => h) (Or.inl ⟨by rfl, ?_⟩) hS0 ?_
                      rotate_left
                      · (intro w_ hw_; (have q2 := hw_.1.1; have q3 := hw_.1.2; clear hw_); go_simp; try with_reducible rfl)
                      simp only [List.setIfInBounds_toArray, List.set_cons_zero, List.set_cons_succ]
                      refine wpH_take (i := 11) (v := (.string (str ll))) rfl rfl (by kernel_rfl) (by kernel_rfl) (by kernel_rfl) (fun _ _ _ h => h) (Or.inl ⟨by rfl, ?_⟩) hS0 ?_
                      · (intro w_ hw_; exact exec_convert 42 9 (.tmp 119) rfl rfl (hw_.2.strv))
                      simp only [List.setIfInBounds_toArray, List.set_cons_zero, List.set_cons_succ]
                      refine wpH_take (i := 12) (v := ?_) rfl rfl (by kernel_rfl) (by kernel_rfl) (by kernel_rfl) (fun _ _ _ h => h) (Or.inl ⟨by rfl, ?_⟩) hS0 ?_
                      rotate_left
                      · (intro w_ hw_; go_simp; try with_reducible rfl)
                      simp only [List.setIfInBounds_toArray, List.set_cons_zero, List.set_cons_succ]
                      obtain ⟨u2, hu2⟩ : ∃ u2, u2 = u0.alloc (.cells #[.int .i64 px, .string (str ll)] 47) := ⟨_, rfl⟩
                      have hb2 : Below u0.heap.size u0 u2 := by subst hu2; exact grow_alloc (Below.refl _ _) _
                      have hB : Blk u2 u0.heap.size #[.int .i64 px, .string (str ll)] 47 := by subst hu2; exact Blk.new _ _ _
                      have g2 := g0.grew hb2
                      have hS1 : (fun v => (v.cell? ⟨gr, k * 2, none⟩ = some (.int .i64 px) ∧ v.cell? ⟨gr, k * 2 + 1, none⟩ = some (.slice (some pp) z d)) ∧ Byt v (.slice (some pp) z d) ll) u2 := ⟨⟨cell_grew hS0.1.1 hb2, cell_grew hS0.1.2 hb2⟩, hS0.2.grew hb2⟩
                      clear hS0
                      refine wpH_run (i := 13) (v := (.slice (some ⟨u0.heap.size, 0, none⟩) 1 1)) (w' := u2) (by kernel_rfl) rfl rfl (by rfl) (by rw [hu2]; go_simp) hS1 ?_
                      simp only [List.setIfInBounds_toArray, List.set_cons_zero, List.set_cons_succ]
                      obtain ⟨v', u3, hrun, g3, hce, hby⟩ := g2.push hB (by have := HNB.out; rw [List.length_take]; omega)
                      have hS2 : (fun v => (v.cell? ⟨gr, k * 2, none⟩ = some (.int .i64 px) ∧ v.cell? ⟨gr, k * 2 + 1, none⟩ = some (.slice (some pp) z d)) ∧ Byt v (.slice (some pp) z d) ll) u3 := ⟨⟨(hce gr _ rfl).trans hS1.1.1, (hce gr _ rfl).trans hS1.1.2⟩, hby _ _ hS1.2⟩
                      clear hS1
                      refine wpH_run (i := 14) (v := v') (w' := u3) (by kernel_rfl) rfl rfl (by rfl) (by exact exec_append (.tmp 109) (.tmp 122) 45 45 rfl rfl rfl hrun) hS2 ?_
                      simp only [List.setIfInBounds_toArray, List.set_cons_zero, List.set_cons_succ]
                      clear hrun hB g2 g0 hb2 hu2 hce hby
                      refine wpH_take (i := 15) (v := ?_) rfl rfl (by kernel_rfl) (by kernel_rfl) (by kernel_rfl) (fun _ _ _ h => h) (Or.inl ⟨by rfl, ?_⟩) hS2 ?_
                      rotate_left
                      · (intro w_ hw_; go_simp; try with_reducible rfl)
                      simp only [List.setIfInBounds_toArray, List.set_cons_zero, List.set_cons_succ]
                      rw [HTK.out] at g3
                      have HG3 := Lib.hid g3
                      clear g3
                      clear hS2
                      refine wpAnyH_done (by kernel_rfl) ?_ _

                      go_wp2
                      go_round
                      case rel => exact ⟨k + 1, by omega, by go_num, HG3⟩
                      case measure => simp only [intOf]; omega
                    · obtain rfl : k = nr := by omega
                      have hk3 : ¬ (k : Int) < k := by omega
                      have hs := HS.out
                      rw [List.take_of_length_le (by rw [← HNG.out]; exact Nat.le_refl _)] at hs
                      have hg8 := grow_alloc (Below.refl _ wr) (.cells #[lv] 45)
                      obtain ⟨v', w11, hrun, h9⟩ := (hs.grew hg8).close (Blk.new wr _ _) (by have := HRW.out.1; omega)
                      obtain ⟨Al, cl, rfl⟩ := hs.wt.row.form
                      have HRUN := Lib.hid hrun
                      have HG9 := Lib.hid h9.st
                      have HG10 := Lib.hid h9.wt
                      have HRW2 : Hid ((rows ++ [g]).length ≤ i + 1 ∧ BytesIn (rows ++ [g]) ∧ ∀ x ∈ rows ++ [g], x.length ≤ 8) := Lib.hid ⟨by have := HRW.out.1; simp; omega, fun x hx => by
                        rcases List.mem_append.1 hx with hx | hx
                        · exact HRW.out.2.1 x hx
                        · simp at hx; subst hx; exact HBY.out, fun x hx => by
                        rcases List.mem_append.1 hx with hx | hx
                        · exact HRW.out.2.2 x hx
                        · simp at hx; subst hx; exact HG8.out⟩
                      clear hs hg8 hrun h9 HS
                      go_wp2_with (at_builtin; refine Lib.wpList_append_run _ rfl (.tmp 124) (.tmp 126) 37 37 rfl _ _ rfl rfl v' w11 HRUN.out ?_)
                      exact ⟨⟨i + 1, D6, L6, vl6, rows ++ [g], by omega, by go_num, HG9, HNW6, HF6, HG10, HRW2⟩, by simp only [intOf]; omega⟩
                · have HNW6 : Hid (Newer D6 L6 rows) := Lib.hid (by
                    rcases HE6.out with h | h
                    · exact absurd h.1 hX0
                    · exact h.2)
                  have HG9 := Lib.hid HAG.out.st
                  have HG10 := Lib.hid HAG.out.wt
                  have HRW2 : Hid (rows.length ≤ i + 1 ∧ BytesIn rows ∧ ∀ x ∈ rows, x.length ≤ 8) := Lib.hid ⟨by have := HRW.out.1; omega, HRW.out.2⟩
                  clear HE6 HAG
                  go_wp2
                  go_round
                  case rel => exact ⟨i + 1, D6, L6, vl6, rows, by omega, by go_num, HG9, HNW6, HF6, HG10, HRW2⟩
                  case measure => simp only [intOf]; omega
              · obtain rfl : i = n2 := by omega
                have hk3 : ¬ (i : Int) < i := by omega
                have hgs := HNW.out.has.groups
                rw [HFX.out.f, HFX.out.c, HFX.out.e] at hgs
                have HRD := Lib.hid (LRead_any HS.out.dk.disk 1 10 8 (by unfold okAt; rw [HFX.out.s]; rfl) rfl (by rw [HNW.out.loose]; decide) HNW.out.has.up rows hgs)
                clear hgs
                go_wp2_with fail
                refine HRD.out.mono ?_
                rintro e w9 ⟨gv, rfl, ⟨B0, hG⟩, hb8⟩
                obtain ⟨Bo, _, ho, _⟩ := HWT.out.out
                have HT := Lib.hid (told_any hG (ho.grew hb8) HRW.out.2.1 (by have := HRW.out.1; omega) (fun g hg => by have := HRW.out.2.2 g hg; omega))
                have HB9 := Lib.hid (grow HWT.out.low hb8)
                clear hG hb8 ho HRD HS HNW HFX HWT HRW
                go_wp2_with fail
                refine HT.out.mono ?_
                rintro e w10 ⟨he, hb⟩
                rw [decide_eq_true trivial] at he
                subst he
                have HB10 := Lib.hid (grow HB9.out hb)
                clear hb HT
                go_wp2_with fail
                refine (awake_any _).mono ?_
                rintro e w11 ⟨rfl, hb⟩
                have HB := Lib.hid (grow HB10.out hb)
                clear hb
                go_wp2
                go_ret
                exact ⟨rfl, HB.out⟩
end Go.Proofs.Ytpomfokpmbblkaa
