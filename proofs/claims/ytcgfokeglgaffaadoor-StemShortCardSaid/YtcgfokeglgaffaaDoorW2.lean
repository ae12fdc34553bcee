/- Walks: sounds, measures. Printed by mk_w2.py. -/
import Derived.Test.YtcgfokeglgaffaaDoorW1
import Derived.Maps.AppendAt
import Derived.Laws.OwnMore
import Derived.Deep.AppendLies
import Derived.OwnWalk
import Derived.Lib.AppendZeros
import Derived.Lib.OthersKept
namespace Go.Proofs.YtcgfokeglgaffaaDoor
open Go.RowKit

/-- The slice v is a row of the call's own (its blocks are those from 'base' on) and holds these. -/
def OwnB (w : World) (base : Nat) (v : Value) (l : List Bool) : Prop := w.ownsRow base 4 1 v l.length (l.map Value.bool)
theorem info4 : (Tryd.prog.info? 4).map (fun i => (i.zero, i.size, i.bytes)) = some (some (.bool false), 1, 1) := by kernel_rfl
section
variable {w w' : World} {base : Nat} {v : Value} {l : List Bool}
theorem OwnB.nil (w : World) (base : Nat) : OwnB w base (.slice none 0 0) [] := World.ownsRow_nil w base 4 1
theorem OwnB.below (h : OwnB w base v l) (hb : Below w.heap.size w w') : OwnB w' base v l := by
  refine World.ownsRow.kept h (row := none) ⟨hb.os, hb.tape, hb.output, hb.size, fun k hk _ => hb.block k hk⟩ ?_
  cases v.ownBlock <;> simp
theorem OwnB.form (h : OwnB w base v l) : ∃ A c, v = .slice A l.length c ∧ (l ≠ [] → ∃ g, A = some ⟨g, 0, none⟩ ∧ base ≤ g ∧ g < w.heap.size ∧ ∀ k (hk : k < l.length), w.cell? ⟨g, k, none⟩ = some (.bool l[k])) := by
  rcases h.2 with ⟨rfl, h0⟩ | ⟨g, cap, cur, rfl, hb, hg, hc⟩
  · exact ⟨none, 0, by rw [h0], fun hn => absurd (List.eq_nil_of_length_eq_zero h0) hn⟩
  · refine ⟨_, _, rfl, fun _ => ⟨g, rfl, hb, lt_of_block hg, fun k hk => ?_⟩⟩
    have e : ∀ j, (⟨g, 0, none⟩ : Addr).add j = ⟨g, j, none⟩ := fun j => by unfold Addr.add; split <;> simp_all
    have h1 := World.ownsRow.cells h (g := g) rfl k (.bool l[k]) (by simp [List.getElem?_eq_getElem hk])
    rwa [e] at h1
end
/-- 'append' of one, out of a literal. -/
theorem run_pushB {w : World} {base : Nat} {v : Value} {l : List Bool} (h : OwnB w base v l) (b : Bool) (hbase : base ≤ w.heap.size) (hn : l.length + 1 ≤ 1000000) :
    ∃ v' w', (Builtin.append_ #[26, 26] 26 #[v, .slice (some ⟨w.heap.size, 0, none⟩) 1 1]).run Tryd.prog (w.alloc (.cells #[.bool b] 4)) = .ok v' w' ∧ OwnB w' base v' (l ++ [b]) ∧ (w.alloc (.cells #[.bool b] 4)).grownBy w' v.ownBlock := by
  have hb := Blk.new w #[.bool b] 4
  obtain ⟨i, hi, hz, hs, hby⟩ := info_parts info4
  have h' : OwnB (w.alloc (.cells #[.bool b] 4)) base v l := World.ownsRow.alloc h _
  obtain ⟨v', w', hrun, h2, h3, _, _⟩ := run_append_own_at (P := Tryd.prog) _ base 26 26 4 i _ 1 1 Tryd.underlying26 hi hz hs hby rfl (by omega) v l.length (l.map Value.bool) h' ⟨w.heap.size, 0, none⟩ 1 1 [.bool b] rfl
    (fun j u hu => by
      match j with
      | 0 => simp at hu; rw [← hu]; exact hb.cell 0
      | j + 1 => simp at hu) (fun u hu => by simp at hu; rw [hu]; rfl) (by simp only [maxLen]; omega) (by omega) (by simp; omega)
  refine ⟨v', w', hrun, ?_, h3⟩
  unfold OwnB
  rw [List.length_append, List.map_append]; exact h2
/-- .. behind an iterator. -/
theorem push_it {w W : World} {s : ByteArray} {p : Nat} {v : Value} {l : List Bool} (h : OwnB W (w.heap.size + 1) v l) (b : Bool) (hit : W.heap[w.heap.size]? = some (.stringIter s p)) (hb : Below w.heap.size w W) (hn : l.length + 1 ≤ 1000000) :
    ∃ v' w', (Builtin.append_ #[26, 26] 26 #[v, .slice (some ⟨W.heap.size, 0, none⟩) 1 1]).run Tryd.prog (W.alloc (.cells #[.bool b] 4)) = .ok v' w' ∧ OwnB w' (w.heap.size + 1) v' (l ++ [b]) ∧ Below w.heap.size w w' ∧ w'.heap[w.heap.size]? = some (.stringIter s p) := by
  have hlt := lt_of_block hit
  obtain ⟨v', w', h1, h2, h3⟩ := run_pushB h b (by omega) hn
  refine ⟨v', w', h1, h2, Below.grown (hb.alloc (by omega) _) h3 (by simp; omega) (fun k hk => by have := (World.ownsRow.lt h k hk).1; omega), ?_⟩
  rw [h3.block w.heap.size (by simp; omega) (fun e => by have := (World.ownsRow.lt h _ e.symm).1; omega), Below.heap_alloc _ _ _ hlt]
  exact hit

theorem at_sign (s : ByteArray) (i : Nat) (hi : i < s.size) (k : Nat) (wr : World) (hit : wr.heap[k]? = some (.stringIter s i)) : ∃ (c n : Nat), 1 ≤ n ∧ (c : Int) ≤ 2147483647 ∧ Hid (codes s i = c :: codes s (i + n)) ∧
    (∀ ty, (Instr.next (.pointer (some ⟨k, 0, none⟩)) true ty).run Tryd.prog wr = .ok (.tuple #[.bool true, .int .i64 i, .int .i32 c]) (wr.iterAt k s (i + n))) :=
  ⟨(Utf8.decode s i).1, (Utf8.decode s i).2, width_one s i hi, by have := decode_le s i; omega, Lib.hid (codes_lt s i hi), fun ty => Lib.run_next_any_at wr k s i ty hit hi⟩
theorem OwnB.iterAt {w : World} {base k : Nat} {v : Value} {l : List Bool} {s : ByteArray} (h : OwnB w base v l) (hk : k < base) (p : Nat) : OwnB (w.iterAt k s p) base v l := by
  refine ⟨h.1, ?_⟩
  rcases h.2 with hn | ⟨g, cap, cur, hv, hb, hg, rest⟩
  · exact Or.inl hn
  · exact Or.inr ⟨g, cap, cur, hv, hb, (Lib.iterAt_other w k g s p (by omega)).trans hg, rest⟩

set_option maxHeartbeats 4000000 in
theorem sounds_any (s : ByteArray) (hs : (s.size : Int) ≤ 100000) (w : World) : Calls Tryd.prog 11 #[.string s] w fun e w' => ∃ v, e = .returned v ∧ OwnB w' (w.heap.size + 1) v (snd s) ∧ Below w.heap.size w w' := by
  obtain ⟨R, hR⟩ : ∃ R, R = snd s := ⟨_, rfl⟩
  have hlen := snd_len s
  rw [← hR] at hlen ⊢
  have HL := Lib.hid hlen
  have HR := Lib.hid (show [] ++ sndGo (decide (0 < ([] : List Bool).length)) false (codes s 0) = R from hR.symm)
  clear hR hlen
  go_enter Tryd.func11, Tryd.ntmps11
  go_wp2
  go_loopw [3, 4] (fun vo vl wr => ∃ (pos : Nat) (l : List Bool) (la : Bool), vl = .bool la ∧ Hid (OwnB wr (w.heap.size + 1) vo l ∧ wr.heap[w.heap.size]? = some (.stringIter s pos) ∧ Below w.heap.size w wr ∧ l ++ sndGo (decide (0 < l.length)) la (codes s pos) = R)) (fun _ _ wr => s.size - wr.iterPos w.heap.size)
  case atStart => exact ⟨0, [], false, rfl, Lib.hid ⟨OwnB.nil _ _, World.iter_heap w s 0, (Below.refl _ _).alloc (Nat.le_refl _) _, HR.out⟩⟩
  case round =>
    clear HR
    obtain ⟨pos, l, la, rfl, HX⟩ := hrel
    obtain ⟨A, cp, hform, _⟩ := HX.out.1.form
    subst hform
    have hp0 := iterPos_of HX.out.2.1
    have HP0 := Lib.hid hp0
    clear hp0
    have hll : l.length + 1 ≤ 1000000 := by
      have h1 := congrArg List.length HX.out.2.2.2
      have h2 := HL.out
      simp at h1
      omega
    by_cases hlt : pos < s.size
    · obtain ⟨c, n, hn1, hcb, HC, hnx⟩ := at_sign s pos hlt w.heap.size wr HX.out.2.1
      have HE : Hid (R = l ++ nextV (decide (0 < l.length)) la c :: sndGo true (nextV (decide (0 < l.length)) la c) (codes s (pos + n))) := Lib.hid (by rw [← HX.out.2.2.2, HC.out]; rfl)
      obtain ⟨W1, hW1⟩ : ∃ W1, wr.iterAt w.heap.size s (pos + n) = W1 := ⟨_, rfl⟩
      have HX2 : Hid (OwnB W1 (w.heap.size + 1) (.slice A l.length cp) l ∧ W1.heap[w.heap.size]? = some (.stringIter s (pos + n)) ∧ Below w.heap.size w W1) := Lib.hid (by
        rw [← hW1]
        exact ⟨HX.out.1.iterAt (by omega) _, Lib.iterAt_heap wr _ s pos _ HX.out.2.1, Lib.below_iterAt HX.out.2.2.1 (Nat.le_refl _) s _⟩)
      rw [hW1] at hnx
      clear hW1 HC HX
      by_cases h0 : c = 97
      · have t0 : ((c : Int) == 97) = true := by rw [h0]; rfl
        have HV : Hid (nextV (decide (0 < l.length)) la c = true) := Lib.hid (by rw [h0]; rfl)
        obtain ⟨v', w', hrun, hown', hbel', hit'⟩ := push_it HX2.out.1 true HX2.out.2.1 HX2.out.2.2 hll
        have HRUN := Lib.hid hrun
        have HX3 : Hid (OwnB w' (w.heap.size + 1) v' (l ++ [true]) ∧ w'.heap[w.heap.size]? = some (.stringIter s (pos + n)) ∧ Below w.heap.size w w' ∧ (l ++ [true]) ++ sndGo (decide (0 < (l ++ [true]).length)) true (codes s (pos + n)) = R) :=
          Lib.hid ⟨hown', hit', hbel', by rw [HE.out, HV.out, show decide (0 < (l ++ [true]).length) = true from decide_eq_true (by simp), List.append_assoc]; rfl⟩
        have hp3 := iterPos_of hit'
        have HP3 := Lib.hid hp3
        clear hrun hown' hbel' hit' hp3 HE
        go_wp2_with (at_builtin; refine Lib.wpList_append_run _ rfl (.tmp 28) (.tmp 30) 26 26 rfl _ _ rfl rfl v' w' HRUN.out ?_)
        go_roundw
        case rel => exact ⟨pos + n, l ++ [true], true, val_bool (by first | rfl | (rw [HV.out])), HX3⟩
        case measure => rw [HP3.out, HP0.out]; omega
      · have t0 : ((c : Int) == 97) = false := by simp; omega
        by_cases h1 : c = 101
        · have t1 : ((c : Int) == 101) = true := by rw [h1]; rfl
          have HV : Hid (nextV (decide (0 < l.length)) la c = true) := Lib.hid (by rw [h1]; rfl)
          obtain ⟨v', w', hrun, hown', hbel', hit'⟩ := push_it HX2.out.1 true HX2.out.2.1 HX2.out.2.2 hll
          have HRUN := Lib.hid hrun
          have HX3 : Hid (OwnB w' (w.heap.size + 1) v' (l ++ [true]) ∧ w'.heap[w.heap.size]? = some (.stringIter s (pos + n)) ∧ Below w.heap.size w w' ∧ (l ++ [true]) ++ sndGo (decide (0 < (l ++ [true]).length)) true (codes s (pos + n)) = R) :=
            Lib.hid ⟨hown', hit', hbel', by rw [HE.out, HV.out, show decide (0 < (l ++ [true]).length) = true from decide_eq_true (by simp), List.append_assoc]; rfl⟩
          have hp3 := iterPos_of hit'
          have HP3 := Lib.hid hp3
          clear hrun hown' hbel' hit' hp3 HE
          go_wp2_with (at_builtin; refine Lib.wpList_append_run _ rfl (.tmp 28) (.tmp 30) 26 26 rfl _ _ rfl rfl v' w' HRUN.out ?_)
          go_roundw
          case rel => exact ⟨pos + n, l ++ [true], true, val_bool (by first | rfl | (rw [HV.out])), HX3⟩
          case measure => rw [HP3.out, HP0.out]; omega
        · have t1 : ((c : Int) == 101) = false := by simp; omega
          by_cases h2 : c = 105
          · have t2 : ((c : Int) == 105) = true := by rw [h2]; rfl
            have HV : Hid (nextV (decide (0 < l.length)) la c = true) := Lib.hid (by rw [h2]; rfl)
            obtain ⟨v', w', hrun, hown', hbel', hit'⟩ := push_it HX2.out.1 true HX2.out.2.1 HX2.out.2.2 hll
            have HRUN := Lib.hid hrun
            have HX3 : Hid (OwnB w' (w.heap.size + 1) v' (l ++ [true]) ∧ w'.heap[w.heap.size]? = some (.stringIter s (pos + n)) ∧ Below w.heap.size w w' ∧ (l ++ [true]) ++ sndGo (decide (0 < (l ++ [true]).length)) true (codes s (pos + n)) = R) :=
              Lib.hid ⟨hown', hit', hbel', by rw [HE.out, HV.out, show decide (0 < (l ++ [true]).length) = true from decide_eq_true (by simp), List.append_assoc]; rfl⟩
            have hp3 := iterPos_of hit'
            have HP3 := Lib.hid hp3
            clear hrun hown' hbel' hit' hp3 HE
            go_wp2_with (at_builtin; refine Lib.wpList_append_run _ rfl (.tmp 28) (.tmp 30) 26 26 rfl _ _ rfl rfl v' w' HRUN.out ?_)
            go_roundw
            case rel => exact ⟨pos + n, l ++ [true], true, val_bool (by first | rfl | (rw [HV.out])), HX3⟩
            case measure => rw [HP3.out, HP0.out]; omega
          · have t2 : ((c : Int) == 105) = false := by simp; omega
            by_cases h3 : c = 111
            · have t3 : ((c : Int) == 111) = true := by rw [h3]; rfl
              have HV : Hid (nextV (decide (0 < l.length)) la c = true) := Lib.hid (by rw [h3]; rfl)
              obtain ⟨v', w', hrun, hown', hbel', hit'⟩ := push_it HX2.out.1 true HX2.out.2.1 HX2.out.2.2 hll
              have HRUN := Lib.hid hrun
              have HX3 : Hid (OwnB w' (w.heap.size + 1) v' (l ++ [true]) ∧ w'.heap[w.heap.size]? = some (.stringIter s (pos + n)) ∧ Below w.heap.size w w' ∧ (l ++ [true]) ++ sndGo (decide (0 < (l ++ [true]).length)) true (codes s (pos + n)) = R) :=
                Lib.hid ⟨hown', hit', hbel', by rw [HE.out, HV.out, show decide (0 < (l ++ [true]).length) = true from decide_eq_true (by simp), List.append_assoc]; rfl⟩
              have hp3 := iterPos_of hit'
              have HP3 := Lib.hid hp3
              clear hrun hown' hbel' hit' hp3 HE
              go_wp2_with (at_builtin; refine Lib.wpList_append_run _ rfl (.tmp 28) (.tmp 30) 26 26 rfl _ _ rfl rfl v' w' HRUN.out ?_)
              go_roundw
              case rel => exact ⟨pos + n, l ++ [true], true, val_bool (by first | rfl | (rw [HV.out])), HX3⟩
              case measure => rw [HP3.out, HP0.out]; omega
            · have t3 : ((c : Int) == 111) = false := by simp; omega
              by_cases h4 : c = 117
              · have t4 : ((c : Int) == 117) = true := by rw [h4]; rfl
                have HV : Hid (nextV (decide (0 < l.length)) la c = true) := Lib.hid (by rw [h4]; rfl)
                obtain ⟨v', w', hrun, hown', hbel', hit'⟩ := push_it HX2.out.1 true HX2.out.2.1 HX2.out.2.2 hll
                have HRUN := Lib.hid hrun
                have HX3 : Hid (OwnB w' (w.heap.size + 1) v' (l ++ [true]) ∧ w'.heap[w.heap.size]? = some (.stringIter s (pos + n)) ∧ Below w.heap.size w w' ∧ (l ++ [true]) ++ sndGo (decide (0 < (l ++ [true]).length)) true (codes s (pos + n)) = R) :=
                  Lib.hid ⟨hown', hit', hbel', by rw [HE.out, HV.out, show decide (0 < (l ++ [true]).length) = true from decide_eq_true (by simp), List.append_assoc]; rfl⟩
                have hp3 := iterPos_of hit'
                have HP3 := Lib.hid hp3
                clear hrun hown' hbel' hit' hp3 HE
                go_wp2_with (at_builtin; refine Lib.wpList_append_run _ rfl (.tmp 28) (.tmp 30) 26 26 rfl _ _ rfl rfl v' w' HRUN.out ?_)
                go_roundw
                case rel => exact ⟨pos + n, l ++ [true], true, val_bool (by first | rfl | (rw [HV.out])), HX3⟩
                case measure => rw [HP3.out, HP0.out]; omega
              · have t4 : ((c : Int) == 117) = false := by simp; omega
                have hv : vow c = false := by unfold vow; exact decide_eq_false (by omega)
                by_cases h5 : c = 121
                · have t5 : ((c : Int) == 121) = true := by rw [h5]; rfl
                  by_cases hl0 : 0 < l.length
                  · have g0 : decide (0 < l.length) = true := decide_eq_true hl0
                    cases la with
                    | true =>
                      have HV : Hid (nextV (decide (0 < l.length)) true c = false) := Lib.hid (by unfold nextV; rw [hv, g0, h5]; rfl)
                      obtain ⟨v', w', hrun, hown', hbel', hit'⟩ := push_it HX2.out.1 false HX2.out.2.1 HX2.out.2.2 hll
                      have HRUN := Lib.hid hrun
                      have HX3 : Hid (OwnB w' (w.heap.size + 1) v' (l ++ [false]) ∧ w'.heap[w.heap.size]? = some (.stringIter s (pos + n)) ∧ Below w.heap.size w w' ∧ (l ++ [false]) ++ sndGo (decide (0 < (l ++ [false]).length)) false (codes s (pos + n)) = R) :=
                        Lib.hid ⟨hown', hit', hbel', by rw [HE.out, HV.out, show decide (0 < (l ++ [false]).length) = true from decide_eq_true (by simp), List.append_assoc]; rfl⟩
                      have hp3 := iterPos_of hit'
                      have HP3 := Lib.hid hp3
                      clear hrun hown' hbel' hit' hp3 HE
                      go_wp2_with (at_builtin; refine Lib.wpList_append_run _ rfl (.tmp 28) (.tmp 30) 26 26 rfl _ _ rfl rfl v' w' HRUN.out ?_)
                      go_roundw
                      case rel => exact ⟨pos + n, l ++ [false], false, val_bool (by first | rfl | (rw [HV.out])), HX3⟩
                      case measure => rw [HP3.out, HP0.out]; omega
                    | false =>
                      have HV : Hid (nextV (decide (0 < l.length)) false c = true) := Lib.hid (by unfold nextV; rw [hv, g0, h5]; rfl)
                      obtain ⟨v', w', hrun, hown', hbel', hit'⟩ := push_it HX2.out.1 true HX2.out.2.1 HX2.out.2.2 hll
                      have HRUN := Lib.hid hrun
                      have HX3 : Hid (OwnB w' (w.heap.size + 1) v' (l ++ [true]) ∧ w'.heap[w.heap.size]? = some (.stringIter s (pos + n)) ∧ Below w.heap.size w w' ∧ (l ++ [true]) ++ sndGo (decide (0 < (l ++ [true]).length)) true (codes s (pos + n)) = R) :=
                        Lib.hid ⟨hown', hit', hbel', by rw [HE.out, HV.out, show decide (0 < (l ++ [true]).length) = true from decide_eq_true (by simp), List.append_assoc]; rfl⟩
                      have hp3 := iterPos_of hit'
                      have HP3 := Lib.hid hp3
                      clear hrun hown' hbel' hit' hp3 HE
                      go_wp2_with (at_builtin; refine Lib.wpList_append_run _ rfl (.tmp 28) (.tmp 30) 26 26 rfl _ _ rfl rfl v' w' HRUN.out ?_)
                      go_roundw
                      case rel => exact ⟨pos + n, l ++ [true], true, val_bool (by first | rfl | (rw [HV.out])), HX3⟩
                      case measure => rw [HP3.out, HP0.out]; omega
                  · have g0 : decide (0 < l.length) = false := decide_eq_false hl0
                    have HV : Hid (nextV (decide (0 < l.length)) la c = false) := Lib.hid (by unfold nextV; rw [hv, g0, h5]; rfl)
                    obtain ⟨v', w', hrun, hown', hbel', hit'⟩ := push_it HX2.out.1 false HX2.out.2.1 HX2.out.2.2 hll
                    have HRUN := Lib.hid hrun
                    have HX3 : Hid (OwnB w' (w.heap.size + 1) v' (l ++ [false]) ∧ w'.heap[w.heap.size]? = some (.stringIter s (pos + n)) ∧ Below w.heap.size w w' ∧ (l ++ [false]) ++ sndGo (decide (0 < (l ++ [false]).length)) false (codes s (pos + n)) = R) :=
                      Lib.hid ⟨hown', hit', hbel', by rw [HE.out, HV.out, show decide (0 < (l ++ [false]).length) = true from decide_eq_true (by simp), List.append_assoc]; rfl⟩
                    have hp3 := iterPos_of hit'
                    have HP3 := Lib.hid hp3
                    clear hrun hown' hbel' hit' hp3 HE
                    go_wp2_with (at_builtin; refine Lib.wpList_append_run _ rfl (.tmp 28) (.tmp 30) 26 26 rfl _ _ rfl rfl v' w' HRUN.out ?_)
                    go_roundw
                    case rel => exact ⟨pos + n, l ++ [false], false, val_bool (by first | rfl | (rw [HV.out])), HX3⟩
                    case measure => rw [HP3.out, HP0.out]; omega
                · have t5 : ((c : Int) == 121) = false := by simp; omega
                  have HV : Hid (nextV (decide (0 < l.length)) la c = false) := Lib.hid (by unfold nextV; rw [hv, if_neg (by decide), if_neg h5])
                  obtain ⟨v', w', hrun, hown', hbel', hit'⟩ := push_it HX2.out.1 false HX2.out.2.1 HX2.out.2.2 hll
                  have HRUN := Lib.hid hrun
                  have HX3 : Hid (OwnB w' (w.heap.size + 1) v' (l ++ [false]) ∧ w'.heap[w.heap.size]? = some (.stringIter s (pos + n)) ∧ Below w.heap.size w w' ∧ (l ++ [false]) ++ sndGo (decide (0 < (l ++ [false]).length)) false (codes s (pos + n)) = R) :=
                    Lib.hid ⟨hown', hit', hbel', by rw [HE.out, HV.out, show decide (0 < (l ++ [false]).length) = true from decide_eq_true (by simp), List.append_assoc]; rfl⟩
                  have hp3 := iterPos_of hit'
                  have HP3 := Lib.hid hp3
                  clear hrun hown' hbel' hit' hp3 HE
                  go_wp2_with (at_builtin; refine Lib.wpList_append_run _ rfl (.tmp 28) (.tmp 30) 26 26 rfl _ _ rfl rfl v' w' HRUN.out ?_)
                  go_roundw
                  case rel => exact ⟨pos + n, l ++ [false], false, val_bool (by first | rfl | (rw [HV.out])), HX3⟩
                  case measure => rw [HP3.out, HP0.out]; omega
    · have hnx : ∀ ty, (Instr.next (.pointer (some ⟨w.heap.size, 0, none⟩)) true ty).run Tryd.prog wr = _ := fun ty => Lib.run_next_end_at wr w.heap.size s pos ty HX.out.2.1 hlt
      have hr : l = R := by
        have := HX.out.2.2.2
        rw [codes_end s pos hlt] at this
        simpa [sndGo] using this
      subst hr
      go_wp2
      go_ret
      exact ⟨_, rfl, HX.out.1, HX.out.2.2.1⟩
end Go.Proofs.YtcgfokeglgaffaaDoor
