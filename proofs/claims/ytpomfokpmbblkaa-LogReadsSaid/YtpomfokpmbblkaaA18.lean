/- Walks: the document's groups of sectors. -/
import Derived.Test.YtpomfokpmbblkaaA17
namespace Go.Proofs.Ytpomfokpmbblkaa
open Go.RowKit Go.Maps
set_option maxRecDepth 8000

/-- What n sectors from i on say, as slots. -/
def secL (t : Nat → List Nat) : Nat → Nat → List (Int × Option ((Int × List Nat) × Bool))
  | 0, _ => []
  | n + 1, i => (slotEp (t i) i, chOf (slotLoad (t i) i)) :: secL t n (i + 1)
theorem secL_succ (t : Nat → List Nat) (n i : Nat) : secL t (n + 1) i = (slotEp (t i) i, chOf (slotLoad (t i) i)) :: secL t n (i + 1) := rfl
theorem slL_secL (D : Dsk) (f : Nat) : ∀ n i, slL D f n i = secL (fun i => D.tells ((f : Int) + i)) n i
  | 0, _ => rfl
  | n + 1, i => by rw [slL_succ, secL_succ, slL_secL D f n (i + 1)]
theorem secL_congr {t t' : Nat → List Nat} : ∀ n i, (∀ k, i ≤ k → k < i + n → t k = t' k) → secL t n i = secL t' n i
  | 0, _, _ => rfl
  | n + 1, i, h => by rw [secL_succ, secL_succ, h i (by omega) (by omega), secL_congr n (i + 1) (fun k h1 h2 => h k (by omega) (by omega))]
theorem num_le_drop (l : List Nat) : ∀ j, num (l.drop j) ≤ num l
  | 0 => by simp
  | j + 1 => by have := num_drop_le (j + 1) l (by omega); omega
theorem chOf_big {ld : List Nat} (h : 2147483647 < num (ld.take 8)) : chOf ld = none := by unfold chOf; rw [if_pos (.inl h)]
theorem chOf_flag {ld : List Nat} {f : Nat} (h : ld[8]? = some f) (hf : 1 < f) : chOf ld = none := by unfold chOf; rw [h]; rw [if_pos (.inr hf)]
theorem chOf_ok {ld : List Nat} {f : Nat} (h : ld[8]? = some f) (h1 : ¬ 2147483647 < num (ld.take 8)) (hf : ¬ 1 < f) : chOf ld = some (((num (ld.take 8) : Int), ld.drop 9), f == 1) := by
  unfold chOf; rw [h, Option.getD_some]; rw [if_neg (by omega)]

set_option maxHeartbeats 16000000 in
theorem refGroups_any (A : Option Addr) (ss : List (List Nat)) (n c z N : Nat) (ep : Int) (w : World) (hn : ss.length = n) (hnb : (n : Int) ≤ 1048576) (hs : Secs w N z A ss) (h1 : (64 : Int) ≤ z) (h2 : (z : Int) ≤ 4096) (hep : 1 ≤ ep) (R : List (List (Int × List Nat)))
    (hR : grpL ep (secL (fun i => ss[i]?.getD []) n 0) [] [] = R) :
    Calls Try.prog 32 #[.slice A n c, .int .i64 ep] w fun e w' => ∃ v, e = .returned v ∧ RG w' w.heap.size v R ∧ Below w.heap.size w w' := by
  have HS0 := Lib.hid hs
  have HN := Lib.hid hn
  have HR0 := Lib.hid hR
  have H0 : Hid (WtSt w w [] nilv nilv []) := Lib.hid (WtSt.start (Below.refl _ _))
  clear hs hn hR
  go_enter Try.func32, Try.ntmps32
  go_wp2_with fail
  go_loopw [5, 6, 7] (fun ov lv iv wr => ∃ (i : Nat) (ws : List (List (Int × List Nat))) (row : List (Int × List Nat)), i ≤ n ∧ iv = .int .i64 i ∧ Hid (WtSt w wr ws ov lv row) ∧ Hid (grpL ep (secL (fun i => ss[i]?.getD []) (n - i) i) ws row = R) ∧ Hid (ws.length ≤ i ∧ row.length ≤ i)) (fun _ _ iv _ => n - (intOf iv).toNat)
  case atStart => exact ⟨0, [], [], by omega, rfl, H0, HR0, Lib.hid ⟨Nat.le_refl _, Nat.le_refl _⟩⟩
  case round =>
    clear H0 HR0
    obtain ⟨i, ws, row, hi, rfl, HW, HG, HLN⟩ := hrel
    obtain ⟨ov, hov⟩ : ∃ ov, ov = u5 := ⟨_, rfl⟩
    obtain ⟨lv, hlv⟩ : ∃ lv, lv = u6 := ⟨_, rfl⟩
    rw [← hov, ← hlv] at HW
    rw [← hov, ← hlv]
    clear hov hlv
    by_cases hlt : i < n
    · have hig : i < ss.length := by rw [HN.out]; exact hlt
      obtain ⟨g, q, cq, e, _, c1, _, hy⟩ := (HS0.out.grew HW.out.low) i hig
      subst e
      have HSL := Lib.hid (refSlot_any q ss[i] z cq i wr hy h1 h2 (by omega))
      have hg := HG.out
      rw [show n - i = (n - (i + 1)) + 1 by omega, secL_succ] at hg
      have hget : ss[i]?.getD [] = ss[i] := by rw [List.getElem?_eq_getElem hig]; rfl
      rw [hget] at hg
      have h28 := slot_28 (s := ss[i]) (k := i) (by have := hy.len_val; omega)
      obtain ⟨s, hs⟩ : ∃ s, s = ss[i] := ⟨_, rfl⟩
      rw [← hs] at HSL hg h28
      generalize slotLoad s i = ld at HSL hg h28
      generalize slotEp s i = E at HSL hg h28
      obtain ⟨rest, hrest⟩ : ∃ rest, rest = secL (fun i => ss[i]?.getD []) (n - (i + 1)) (i + 1) := ⟨_, rfl⟩
      rw [← hrest] at hg
      have HRS := Lib.hid hrest
      clear hrest
      have HSS := Lib.hid (show n - (i + 1) = n - i - 1 by omega)
      clear hy hget hs
      by_cases hE : E = ep
      · subst hE
        have hl28 := h28 hep
        obtain ⟨fb, hfb⟩ : ∃ fb, ld[8]? = some fb := ⟨_, List.getElem?_eq_getElem (by omega)⟩
        have HFB := Lib.hid hfb
        have HG2 := Lib.hid hg
        have HL28 := Lib.hid hl28
        clear hg h28 hfb hl28
        go_wp2_with fail
        refine HSL.out.mono ?_
        rintro e w2 ⟨v2, rfl, ho, hb2⟩
        have hne : ld ≠ [] := fun e => by have := HL28.out; rw [e] at this; simp at this
        have hby := Byt.of_own ho hne
        obtain ⟨A2, c2, rfl, _⟩ := ho.form
        obtain ⟨p2, c2', e2, _, _⟩ := hby.rd
        injection e2 with e2 e3 e4
        subst e2
        subst e4
        clear e3
        obtain ⟨nl, hnl⟩ : ∃ nl, nl = ld.length := ⟨_, rfl⟩
        rw [← hnl] at hby ⊢
        have hnl28 : (28 : Int) ≤ nl := by have := HL28.out; omega
        have HNL := Lib.hid hnl
        have HY := Lib.hid hby
        have HW2 := Lib.hid (HW.out.grew hb2)
        clear ho hb2 hby hnl hne HSL c1 HW
        go_wp2_with fail
        go_loopw [10, 11] (fun pv kv wk => ∃ (m : Nat) (x : Int) (pg : Nat), m ≤ 8 ∧ kv = .int .i64 x ∧ pv = .int .i64 (pg : Int) ∧ wk = w2 ∧ Hid (x = (m : Int) - 1 ∧ pg = num ((ld.take 8).drop m))) (fun _ kv _ => (intOf kv + 1).toNat)
        case atStart => exact ⟨8, 7, 0, Nat.le_refl _, rfl, rfl, rfl, Lib.hid ⟨by omega, by rw [List.drop_eq_nil_of_le (by rw [List.length_take]; omega)]; rfl⟩⟩
        case round =>
          obtain ⟨m, x, pg, hm, rfl, rfl, rfl, HX⟩ := hrel
          by_cases hm0 : m = 0
          · subst hm0
            have hx : x = -1 := by have := HX.out.1; omega
            have hpg : pg = num (ld.take 8) := by have := HX.out.2; rwa [List.drop_zero] at this
            subst hx
            have HPG := Lib.hid hpg
            clear HX hpg
            obtain ⟨q8, e8, _, hc8, hb8⟩ := HY.out.rdv.get (show 8 < ld.length by have := HL28.out; omega)
            cases e8
            have hf8 : ld[8]'(by have := HL28.out; omega) = fb := by have := HFB.out; rw [List.getElem?_eq_getElem (by have := HL28.out; omega)] at this; exact Option.some.inj this
            have e8 : p2.add 8 = ⟨p2.block, p2.off + 8, none⟩ := by simp [Addr.add]
            rw [hf8, e8] at hc8
            rw [hf8] at hb8
            clear e8 hf8
            by_cases hbig : 2147483647 < pg
            · have hbig' : (2147483647 : Int) < pg := by omega
              have HRW := Lib.hid (show ws = R by rw [← HG2.out, chOf_big (by rw [← HPG.out]; exact hbig), grpL_none])
              obtain ⟨Bo, _, ho, _⟩ := HW2.out.out
              rw [HRW.out] at ho
              go_wp2
              go_ret
              exact ⟨_, rfl, ⟨Bo, ho⟩, HW2.out.low⟩
            · have hbig' : ¬ (2147483647 : Int) < pg := by omega
              by_cases hfl : 1 < fb
              · have hfl' : (1 : Int) < fb := by omega
                have HRW := Lib.hid (show ws = R by rw [← HG2.out, chOf_flag HFB.out hfl, grpL_none])
                obtain ⟨Bo, _, ho, _⟩ := HW2.out.out
                rw [HRW.out] at ho
                go_wp2
                go_ret
                exact ⟨_, rfl, ⟨Bo, ho⟩, HW2.out.low⟩
              · have hfl' : ¬ (1 : Int) < fb := by omega
                have hch := chOf_ok HFB.out (by rw [← HPG.out]; exact hbig) hfl
                rw [← HPG.out] at hch
                have hg := HG2.out
                rw [hch, grpL_some] at hg
                have hcap := HY.out.cap_val
                have hc9 : ¬ c2 = 9 := by omega
                have hby9 := byt_drop9 HY.out (by omega)
                have hcv := hby9.strv
                obtain ⟨S9, hS9⟩ : ∃ S9, S9 = str (ld.drop 9) := ⟨_, rfl⟩
                obtain ⟨w3, hw3⟩ : ∃ w3, w3 = wr.alloc (.cells #[.int .i64 (pg : Int), .string (str (ld.drop 9))] 47) := ⟨_, rfl⟩
                have hb3 : Below wr.heap.size wr w3 := by subst hw3; exact grow_alloc (Below.refl _ _) _
                have hB3 : Blk w3 wr.heap.size #[.int .i64 (pg : Int), .string (str (ld.drop 9))] 47 := by subst hw3; exact Blk.new _ _ _
                obtain ⟨v4, w4, hrun, hw4, ht4⟩ := (HW2.out.grew hb3).push hB3 (by have := HLN.out.2; omega)
                have hy4 : Byt w4 (.slice (some p2) nl c2) ld := (HY.out.grew hb3).turn ht4 (fun j hj cs fz e => by
                  obtain ⟨cs', e'⟩ := (HW2.out.grew hb3).row.kind (g := j) (by simpa using hj)
                  rw [e'] at e; cases e)
                obtain ⟨q8, e8, _, hd8, _⟩ := hy4.rdv.get (show 8 < ld.length by have := HL28.out; omega)
                cases e8
                have hf8 : ld[8]'(by have := HL28.out; omega) = fb := by have := HFB.out; rw [List.getElem?_eq_getElem (by have := HL28.out; omega)] at this; exact Option.some.inj this
                have e8 : p2.add 8 = ⟨p2.block, p2.off + 8, none⟩ := by simp [Addr.add]
                rw [hf8, e8] at hd8
                rw [hw3] at hrun
                rw [← hS9] at hcv hrun
                obtain ⟨A4, c4, e4⟩ := hw4.row.form
                obtain ⟨n4, hn4⟩ : ∃ n4, n4 = (row ++ [((pg : Int), ld.drop 9)]).length := ⟨_, rfl⟩
                rw [← hn4] at e4
                subst e4
                have HRUN := Lib.hid hrun
                have HW4 := Lib.hid hw4
                have HG4 := Lib.hid hg
                clear e8 hf8 hy4 hby9 hb3 hB3 hw3 hrun ht4 hch hg hcap hn4 hS9 HPG hw4
                by_cases hf1 : fb = 1
                · subst hf1
                  have hg8 := grow_alloc (Below.refl _ w4) (.cells #[.slice A4 n4 c4] 45)
                  obtain ⟨v6, w6, hrun6, hw6, _, _⟩ := (HW4.out.grew hg8).close (Blk.new w4 _ _) (by have := HLN.out.1; omega)
                  have HRUN6 := Lib.hid hrun6
                  have HW6 := Lib.hid hw6
                  have HG6 : Hid (grpL E (secL (fun i => ss[i]?.getD []) (n - (i + 1)) (i + 1)) (ws ++ [row ++ [((pg : Int), ld.drop 9)]]) [] = R) := Lib.hid (by rw [← HRS.out]; have := HG4.out; simpa using this)
                  have HLN6 : Hid ((ws ++ [row ++ [((pg : Int), ld.drop 9)]]).length ≤ i + 1 ∧ ([] : List (Int × List Nat)).length ≤ i + 1) := Lib.hid ⟨by have := HLN.out.1; simp; omega, by simp⟩
                  clear hg8 hrun6 hw6 HG4 HW4
                  go_wp2_with (at_builtin; first
                    | refine Lib.wpList_append_run _ rfl (.tmp 55) (.tmp 61) 45 45 rfl _ _ rfl rfl _ w4 HRUN.out ?_
                    | refine Lib.wpList_append_run _ rfl (.tmp 67) (.tmp 69) 37 37 rfl _ _ rfl rfl _ w6 HRUN6.out ?_)
                  exact ⟨⟨i + 1, _, _, by omega, by go_num, HW6, HG6, HLN6⟩, by simp only [intOf]; omega⟩
                · have hf1' : ¬ (fb : Int) = 1 := by omega
                  have HG6 : Hid (grpL E (secL (fun i => ss[i]?.getD []) (n - (i + 1)) (i + 1)) ws (row ++ [((pg : Int), ld.drop 9)]) = R) := Lib.hid (by rw [← HRS.out]; have := HG4.out; simpa [hf1] using this)
                  have HLN6 : Hid (ws.length ≤ i + 1 ∧ (row ++ [((pg : Int), ld.drop 9)]).length ≤ i + 1) := Lib.hid ⟨by have := HLN.out.1; omega, by have := HLN.out.2; simp; omega⟩
                  clear HG4
                  go_wp2_with (at_builtin; refine Lib.wpList_append_run _ rfl (.tmp 55) (.tmp 61) 45 45 rfl _ _ rfl rfl _ w4 HRUN.out ?_)
                  exact ⟨⟨i + 1, _, _, by omega, by go_num, HW4, HG6, HLN6⟩, by simp only [intOf]; omega⟩
          · obtain ⟨k, rfl⟩ : ∃ k, m = k + 1 := ⟨m - 1, by omega⟩
            have hx : x = (k : Int) := by have := HX.out.1; omega
            subst hx
            have hpg := HX.out.2
            by_cases hbig : 2147483647 < pg
            · have hbig' : (2147483647 : Int) < pg := by omega
              have HRW := Lib.hid (show ws = R by
                have := num_le_drop (ld.take 8) (k + 1)
                rw [← HG2.out, chOf_big (by omega), grpL_none])
              clear HX hpg
              obtain ⟨Bo, _, ho, _⟩ := HW2.out.out
              rw [HRW.out] at ho
              go_wp2
              go_ret
              exact ⟨_, rfl, ⟨Bo, ho⟩, HW2.out.low⟩
            · have hbig' : ¬ (2147483647 : Int) < pg := by omega
              have hkl : k < ld.length := by have := HL28.out; omega
              obtain ⟨q8, e8, _, hc8, hb8⟩ := HY.out.rdv.get hkl
              cases e8
              have hkt : k < (ld.take 8).length := by rw [List.length_take]; omega
              have hnx := num_drop (ld.take 8) k hkt
              rw [List.getElem_take, ← hpg] at hnx
              obtain ⟨bk, hbk⟩ : ∃ bk, bk = ld[k] := ⟨_, rfl⟩
              rw [← hbk] at hc8 hb8 hnx
              have HN1 : Hid (((k : Int) - 1 = (k : Int) - 1) ∧ bk + 256 * pg = num ((ld.take 8).drop k)) := Lib.hid ⟨rfl, hnx.symm⟩
              clear HX hpg hnx hbk hkt
              go_wp2
              go_round
              case rel => exact ⟨k, (k : Int) - 1, bk + 256 * pg, by omega, by go_num, by go_num, trivial, HN1⟩
              case measure => simp only [intOf]; omega
      · have hRW := Lib.hid (show ws = R by rw [← hg, grpL_other hE])
        clear hg h28
        go_wp2_with fail
        refine HSL.out.mono ?_
        rintro e w2 ⟨v2, rfl, ho, hb2⟩
        obtain ⟨A2, c2, rfl, _⟩ := ho.form
        generalize ld.length = nl
        have HW2 := Lib.hid (HW.out.grew hb2)
        clear ho hb2
        go_wp2
        go_ret
        obtain ⟨Bo, _, ho, _⟩ := HW2.out.out
        rw [hRW.out] at ho
        exact ⟨_, rfl, ⟨Bo, ho⟩, HW2.out.low⟩
    · obtain rfl : n = i := by omega
      have hk3 : ¬ (n : Int) < n := by omega
      have hRW := Lib.hid (show ws = R by have := HG.out; rw [Nat.sub_self] at this; exact this)
      go_wp2
      go_ret
      obtain ⟨Bo, _, ho, _⟩ := HW.out.out
      rw [hRW.out] at ho
      exact ⟨_, rfl, ⟨Bo, ho⟩, HW.out.low⟩
end Go.Proofs.Ytpomfokpmbblkaa
