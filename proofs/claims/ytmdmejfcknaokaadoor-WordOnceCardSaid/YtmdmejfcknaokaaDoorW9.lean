/- Walks: the document's Words. Printed by mk_w9.py. -/
import Derived.Test.YtmdmejfcknaokaaDoorRow
import Derived.Test.YtmdmejfcknaokaaDoorW8
import Derived.Lib.AppendZeros
namespace Go.Proofs.YtmdmejfcknaokaaDoor
open Go.RowKit

theorem FoldR_fold (c : Int) (w : World) : Calls Tryd.prog 9 #[.int .i64 c] w fun e w' => e = .returned (.string (str (fold c))) ∧ Below w.heap.size w w' := by
  rw [fold_same]; exact FoldR_any c w
theorem str_none (f : List Nat) : (str f).toList.isEmpty = decide (f = []) := by
  rw [ByteArray.toList_eq]
  cases f <;> simp [str]
/-- What Words tells. -/
def IsWords (et : TypeId) (B : Nat) (w : World) (l : List Wd) (e : Ending) (w' : World) : Prop := ∃ v, e = .returned v ∧ OwnW et w' B v l ∧ Below B w w'

/-- The sign at a place, and what it becomes, hidden. -/
theorem at_sign (s : ByteArray) (hs : (s.size : Int) ≤ 100000) (i : Nat) (hi : i < s.size) : ∃ (c : Int) (n : Nat) (f : List Nat), 1 ≤ n ∧ i + n ≤ s.size ∧ (f.length : Int) ≤ 4 ∧ Hid (toks s i = (i, f) :: toks s (i + n)) ∧ Hid (f = fold (signR s i).1) ∧
    Hid (∀ w, Calls Tryd.prog 29 #[.string s, .int .i64 i] w fun e w' => e = .returned (.tuple #[.int .i64 c, .int .i64 (n : Int)]) ∧ w' = w) ∧ Hid (∀ w, Calls Tryd.prog 9 #[.int .i64 c] w fun e w' => e = .returned (.string (str f)) ∧ Below w.heap.size w w') :=
  ⟨(signR s i).1, (signR s i).2, fold (signR s i).1, (sign_pos s i).1, sign_end s i hi, by have := fold_len (signR s i).1; omega, Lib.hid (toks_lt s i hi), Lib.hid rfl, Lib.hid fun w => Sign_any s (by omega) i hi w, Lib.hid fun w => FoldR_fold _ w⟩

set_option maxHeartbeats 8000000 in
theorem refWords_any (s : ByteArray) (hs : (s.size : Int) ≤ 100000) (w : World) : Calls Tryd.prog 15 #[.string s] w (IsWords 46 w.heap.size w (wordsL s)) := by
  obtain ⟨R, hR⟩ : ∃ R, R = wordsL s := ⟨_, rfl⟩
  have hrl := words_len s
  rw [← hR] at hrl ⊢
  have HR := Lib.hid (show [] ++ wm (toks s 0) none = R from hR.symm)
  have RLEN := Lib.hid hrl
  clear hR hrl
  go_enter Tryd.func15, Tryd.ntmps15
  go_wp2
  go_loopw [3, 4] (fun vo ai wr => ∃ (i : Nat) (l : List Wd), i ≤ s.size ∧ ai = .int .i64 i ∧ OwnW 46 wr w.heap.size vo l ∧ Below w.heap.size w wr ∧ Hid (l ++ wm (toks s i) none = R)) (fun _ ai _ => s.size - (intOf ai).toNat)
  case atStart => exact ⟨0, [], by omega, rfl, OwnW.none_ _ _ _, Below.refl _ _, HR⟩
  case round =>
    clear HR
    obtain ⟨i, l, hi, rfl, hown, hbel, H⟩ := hrel
    by_cases hlt : i < s.size
    · obtain ⟨c, n, f, hpos, hend, hfl, HT, HFD, HS, HF⟩ := at_sign s hs i hlt
      have HE := Lib.hid (str_none f)
      go_wp2_with fail
      refine (HS.out _).mono ?_
      rintro e w1 ⟨rfl, hw1⟩
      obtain rfl := hw1
      go_wp2_with fail
      refine (HF.out _).mono ?_
      rintro e w2 ⟨rfl, hb2⟩
      by_cases hf0 : f = []
      · have e1 : (str f).toList.isEmpty = true := by rw [HE.out, decide_eq_true hf0]
        have hn : Hid (l ++ wm (toks s (i + n)) none = R) := Lib.hid (by rw [← H.out, HT.out, wm_skip hf0])
        clear hf0 HS HF HT HFD HE H
        go_wp2
        refine ⟨⟨i + n, l, hend, by go_num, hown.below hb2, hbel.trans (hb2.mono hbel.size), hn⟩, ?_⟩
        show s.size - ((i : Int) + n).toNat < s.size - (i : Int).toNat
        omega
      · have e1 : (str f).toList.isEmpty = false := by rw [HE.out, decide_eq_false hf0]
        have hn : Hid (l ++ wm (toks s i) (some (i, [], false)) = R) := Lib.hid (by rw [← H.out, HT.out, wm_start hf0])
        have HNE : Hid (fold (signR s i).1 ≠ []) := Lib.hid (by rw [← HFD.out]; exact hf0)
        have OWN2 := Lib.hid (hown.below hb2)
        clear hf0 HS HF HT HFD HE H hown
        have hbx0 := Blk.new w2 #[.string ⟨#[]⟩, .int .i64 i, .int .i64 0] 46
        have hw0 : Below w2.heap.size w2 (w2.alloc (.cells #[.string ⟨#[]⟩, .int .i64 i, .int .i64 0] 46)) := (Below.refl _ _).alloc (Nat.le_refl _) _
        go_wp2
        clear e1 hend hpos hfl
        go_loopw [4, 8] (fun ai fu wr => ∃ (j : Nat) (t : List Nat) (cu : Bool), i ≤ j ∧ j ≤ s.size ∧ ai = .int .i64 j ∧ fu = .bool cu ∧ (t.length : Int) ≤ 32 ∧ Blk wr w2.heap.size #[.string (str t), .int .i64 i, .int .i64 0] 46 ∧ Below w2.heap.size w2 wr ∧ Hid (l ++ wm (toks s j) (some (i, t, cu)) = R)) (fun ai _ _ => s.size - (intOf ai).toNat)
        case atStart => exact ⟨i, [], false, by omega, hi, rfl, rfl, by simp, hbx0, hw0, hn⟩
        case round =>
        clear hn hbx0 hw0
        obtain ⟨j, t, cu, hij, hj, rfl, rfl, htl, bx, bw, H⟩ := hrel
        by_cases hlt2 : j < s.size
        · obtain ⟨c2, n2, f2, hpos, hend, hfl, HT, HFD, HS, HF⟩ := at_sign s hs j hlt2
          have HE := Lib.hid (str_none f2)
          go_wp2_with fail
          refine (HS.out _).mono ?_
          rintro e w3 ⟨rfl, hw1⟩
          obtain rfl := hw1
          go_wp2_with fail
          refine (HF.out _).mono ?_
          rintro e w4 ⟨rfl, hb4⟩
          have bx := bx.grew hb4
          have bw := bw.trans (hb4.mono bw.size)
          by_cases hf0 : f2 = []
          · have e1 : (str f2).toList.isEmpty = true := by rw [HE.out, decide_eq_true hf0]
            have HF2 : Hid (l ++ (t, i, j) :: wm (toks s j) none = R) := Lib.hid (by rw [← H.out, HT.out, wm_stop hf0, wm_skip hf0])
            have hne : i ≠ j := fun e => HNE.out (by rw [e, ← HFD.out]; exact hf0)
            have hmono : i < j := by omega
            clear hf0 HS HF HT HFD HE H hb4
            have hcb : ((w4.setCell ⟨w2.heap.size, 2, none⟩ (.int .i64 (j : Int))).heap.size) = w4.heap.size := by simp
            have bx2 := bx.set 2 (.int .i64 (j : Int))
            have bw2 := bw.setCell (p := ⟨w2.heap.size, 2, none⟩) (Nat.le_refl _) (.int .i64 (j : Int))
            obtain ⟨W5, hW5⟩ : ∃ W5, w4.setCell ⟨w2.heap.size, 2, none⟩ (.int .i64 (j : Int)) = W5 := ⟨_, rfl⟩
            rw [hW5] at bx2 bw2 hcb
            have own5 := OWN2.out.below bw2
            have hll : l.length + 1 ≤ 1000000 := by
              have h1 := congrArg List.length HF2.out
              have h2 := RLEN.out
              simp at h1
              omega
            obtain ⟨v', w', hrun, ho, hb'⟩ := run_pushW refs_type own5 t i j (base := w.heap.size) (Nat.le_trans hbel.size (Nat.le_trans hb2.size (by rw [hcb]; exact bw.size))) hll
            have c5 := bx2.cell 0
            have c6 := bx2.cell 1
            have c7 := bx2.cell 2
            have HRUN := Lib.hid hrun
            have HO := Lib.hid ho
            have HB := Lib.hid (((hbel.trans (hb2.mono hbel.size)).trans (bw2.mono (Nat.le_trans hbel.size hb2.size))).trans hb')
            have HW5 := Lib.hid hW5
            clear hrun ho hb' hll own5 hcb
            have c0 := bx.cell 0
            have c1 := bx.cell 1
            have c2 := bx.cell 2
            have g2 := bx.free 2
            clear bx bx2 bw2 bw
            go_wp2_with (at_builtin; refine Lib.wpList_append_run _ rfl (.tmp 66) (.tmp 68) 30 30 rfl _ _ rfl rfl v' w' HRUN.out ?_)
            refine ⟨⟨j, l ++ [(t, i, j)], hj, rfl, HO.out, HB.out, Lib.hid ?_⟩, ?_⟩
            · have := HF2.out
              rw [List.append_assoc]; exact this
            · show s.size - (j : Int).toNat < s.size - (i : Int).toNat
              omega
          · have e1 : (str f2).toList.isEmpty = false := by rw [HE.out, decide_eq_false hf0]
            have hstep : Hid (l ++ wm (toks s (j + n2)) (some (i, putW t cu f2, cutW t cu f2)) = R) := Lib.hid (by rw [← H.out, HT.out, wm_go hf0])
            have hz1 := str_size t
            have hz2 := str_size f2
            have hcat := str_append t f2
            have hjn : ((j : Int) + (n2 : Int)) = ((j + n2 : Nat) : Int) := by omega
            have hp := putW_le t cu f2 (by omega)
            have c0 := bx.cell 0
            have c1 := bx.cell 1
            have g0 := bx.free 0
            have HJN := Lib.hid hjn
            have HBX := Lib.hid bx
            have HBW := Lib.hid bw
            clear hf0 HS HF HT HFD HE H hb4 hjn bx bw
            by_cases hcut : cutW t cu f2 = true
            · have hput : putW t cu f2 = t := by unfold putW; rw [if_pos hcut]
              rw [hput, hcut] at hstep
              have hcu : cu = true ∨ cu = false ∧ (32 : Int) < (t.length : Int) + f2.length := by
                unfold cutW at hcut
                cases cu with
                | true => exact Or.inl rfl
                | false => simp at hcut; exact Or.inr ⟨rfl, by omega⟩
              clear hput hcut hp hcat
              rcases hcu with rfl | ⟨rfl, hgt⟩
              all_goals
                go_wp2
                refine ⟨⟨j + n2, t, true, by omega, hend, by rw [HJN.out], rfl, htl, HBX.out, HBW.out, hstep⟩, ?_⟩
                show s.size - ((j : Int) + n2).toNat < s.size - (j : Int).toNat
                omega
            · have hcut' : cutW t cu f2 = false := by simpa using hcut
              have hput : putW t cu f2 = t ++ f2 := by unfold putW; rw [hcut']; rfl
              rw [hput] at hp hstep
              rw [hcut'] at hstep
              have hcu : cu = false := by
                unfold cutW at hcut'
                cases cu with
                | true => simp at hcut'
                | false => rfl
              subst hcu
              have hgt : decide ((32 : Int) < (t.length : Int) + f2.length) = false := by
                apply decide_eq_false
                unfold cutW at hcut'
                simp at hcut'
                omega
              have hbx5 := HBX.out.set 0 (.string (str (t ++ f2)))
              have hbw5 := HBW.out.setCell (p := ⟨w2.heap.size, 0, none⟩) (Nat.le_refl _) (.string (str (t ++ f2)))
              have HBX5 := Lib.hid hbx5
              have HBW5 := Lib.hid hbw5
              have hp' : ((t ++ f2).length : Int) ≤ 32 := by omega
              clear hput hcut hcut' hp hbx5 hbw5
              go_wp2
              refine ⟨⟨j + n2, t ++ f2, false, by omega, hend, by rw [HJN.out], (by first | rfl | trivial), hp', HBX5.out, HBW5.out, hstep⟩, ?_⟩
              show s.size - ((j : Int) + n2).toNat < s.size - (j : Int).toNat
              omega
        · have hjs : j = s.size := by omega
          have HF2 : Hid (l ++ (t, i, j) :: wm (toks s j) none = R) := Lib.hid (by
            rw [← H.out, toks_end s j hlt2, wm_stop rfl, wm_skip rfl, hjs])
          have hmono : i < j := by omega
          clear H hjs
          have hcb : ((wr.setCell ⟨w2.heap.size, 2, none⟩ (.int .i64 (j : Int))).heap.size) = wr.heap.size := by simp
          have bx2 := bx.set 2 (.int .i64 (j : Int))
          have bw2 := bw.setCell (p := ⟨w2.heap.size, 2, none⟩) (Nat.le_refl _) (.int .i64 (j : Int))
          obtain ⟨W5, hW5⟩ : ∃ W5, wr.setCell ⟨w2.heap.size, 2, none⟩ (.int .i64 (j : Int)) = W5 := ⟨_, rfl⟩
          rw [hW5] at bx2 bw2 hcb
          have own5 := OWN2.out.below bw2
          have hll : l.length + 1 ≤ 1000000 := by
            have h1 := congrArg List.length HF2.out
            have h2 := RLEN.out
            simp at h1
            omega
          obtain ⟨v', w', hrun, ho, hb'⟩ := run_pushW refs_type own5 t i j (base := w.heap.size) (Nat.le_trans hbel.size (Nat.le_trans hb2.size (by rw [hcb]; exact bw.size))) hll
          have c5 := bx2.cell 0
          have c6 := bx2.cell 1
          have c7 := bx2.cell 2
          have HRUN := Lib.hid hrun
          have HO := Lib.hid ho
          have HB := Lib.hid (((hbel.trans (hb2.mono hbel.size)).trans (bw2.mono (Nat.le_trans hbel.size hb2.size))).trans hb')
          have HW5 := Lib.hid hW5
          clear hrun ho hb' hll own5 hcb
          have c0 := bx.cell 0
          have c1 := bx.cell 1
          have c2 := bx.cell 2
          have g2 := bx.free 2
          clear bx bx2 bw2 bw
          go_wp2_with (at_builtin; refine Lib.wpList_append_run _ rfl (.tmp 66) (.tmp 68) 30 30 rfl _ _ rfl rfl v' w' HRUN.out ?_)
          refine ⟨⟨j, l ++ [(t, i, j)], hj, rfl, HO.out, HB.out, Lib.hid ?_⟩, ?_⟩
          · have := HF2.out
            rw [List.append_assoc]; exact this
          · show s.size - (j : Int).toNat < s.size - (i : Int).toNat
            omega

    · have hr : l = R := by rw [← H.out, toks_end s i hlt, wm_skip rfl]; simp [wm]
      subst hr
      clear H
      have HO := Lib.hid hown
      clear hown
      go_wp2
      go_ret
      exact ⟨_, rfl, HO.out, hbel⟩
end Go.Proofs.YtmdmejfcknaokaaDoor
