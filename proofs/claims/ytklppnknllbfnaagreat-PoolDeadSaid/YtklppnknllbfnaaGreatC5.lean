/- Walks: load, did. Printed by mk_c5.py. -/
import Derived.Test.YtklppnknllbfnaaGreatC2
namespace Go.Proofs.YtklppnknllbfnaaGreat
open Go.RowKit Go.Maps
set_option maxRecDepth 8000
/-- How long an act's load is. -/
def lenOf (ln : Int) : Nat := if ln < 0 ∨ 5000 < ln then 20 else ln.toNat
theorem lenOf_le (ln : Int) : lenOf ln ≤ 5000 := by unfold lenOf; split <;> omega
set_option maxHeartbeats 4000000 in
theorem actload_any (k pg ln : Int) (B : Nat) (w : World) (hB : B < 256) :
    Calls Tryz.prog 32 #[.agg #[.int .i64 k, .int .i64 pg, .int .i64 ln, .int .u8 (B : Nat)]] w fun e w' => ∃ A c, e = .returned (.slice A (lenOf ln) c) ∧ Rd w' w'.heap.size A (List.replicate (lenOf ln) B) ∧ Below w.heap.size w w' := by
  have hle := lenOf_le ln
  have hbx : ∀ w1, w1 = w.alloc (.cells #[.int .i64 k, .int .i64 pg, .int .i64 ln, .int .u8 (B : Nat)] 39) → Below w.heap.size w w1 ∧ Blk w1 w.heap.size #[.int .i64 k, .int .i64 pg, .int .i64 ln, .int .u8 (B : Nat)] 39 := by
    rintro w1 rfl
    exact ⟨(Below.refl _ w).alloc (Nat.le_refl _) _, Blk.new _ _ _⟩
  have HBX := Lib.hid hbx
  clear hbx
  obtain ⟨n, hn⟩ : ∃ n, n = lenOf ln := ⟨_, rfl⟩
  rw [← hn] at hle ⊢
  obtain ⟨LL, hLL⟩ : ∃ LL, LL = List.replicate n B := ⟨_, rfl⟩
  rw [← hLL]
  have HLL := Lib.hid hLL
  clear hLL
  have hcase : (ln < 0 ∨ ¬ ln < 0 ∧ 5000 < ln) ∧ n = 20 ∨ ¬ ln < 0 ∧ ¬ 5000 < ln ∧ ln = n := by
    unfold lenOf at hn
    by_cases h : ln < 0 ∨ 5000 < ln
    · rw [if_pos h] at hn; left; exact ⟨by omega, hn⟩
    · rw [if_neg h] at hn; right; omega
  have HHB := Lib.hid hB
  have hn5 : (n : Int) ≤ 5000 := by omega
  clear hn hle hB
  obtain ⟨w1, hw1⟩ : ∃ w1, w1 = w.alloc (.cells #[.int .i64 k, .int .i64 pg, .int .i64 ln, .int .u8 (B : Nat)] 39) := ⟨_, rfl⟩
  obtain ⟨hb1, hz1⟩ := HBX.out w1 hw1
  obtain ⟨w2, hmk, ho, hg⟩ := run_makeN (w := w1) w1.heap.size n (Nat.le_refl _) (by omega)
  have HO := Lib.hid ho
  have hb2 := (Below.refl w1.heap.size w1).grown hg (Nat.le_refl _) (by simp)
  have HB := Lib.hid (And.intro (hb1.trans (hb2.mono hb1.size)) (hz1.grew hb2))
  have HG : Hid (w.heap.size < w1.heap.size) := Lib.hid hz1.lt
  have HZ1 := Lib.hid hz1
  have c2 := hz1.cell 2
  simp only [List.getElem?_toArray, List.getElem?_cons_succ, List.getElem?_cons_zero] at c2
  obtain ⟨G, hGE⟩ : ∃ G, G = w1.heap.size := ⟨_, rfl⟩
  obtain ⟨Z, hZE⟩ : ∃ Z, Z = w.heap.size := ⟨_, rfl⟩
  rw [← hGE] at hmk HO HG
  rw [← hZE] at HG HB c2
  have HZE := Lib.hid hZE
  have HGE := Lib.hid hGE
  have hwe : w.alloc (.cells #[.int .i64 k, .int .i64 pg, .int .i64 ln, .int .u8 (B : Nat)] 39) = w1 := hw1.symm
  have hze : w.heap.size = Z := hZE.symm
  clear ho hg hb1 hb2 hz1 hw1 hZE hGE HBX HZ1
  have fin : ∀ wr, Hid (Own wr G (.slice (some ⟨G, 0, none⟩) n n) (List.replicate n B)) → Hid (Below Z w wr ∧ Blk wr Z #[.int .i64 k, .int .i64 pg, .int .i64 ln, .int .u8 (B : Nat)] 39) → ∃ A c, Ending.returned (.slice (some ⟨G, 0, none⟩) n n) = .returned (.slice A n c) ∧ Rd wr wr.heap.size A LL ∧ Below Z w wr := by
    intro wr h1 h2
    obtain ⟨A, c, e, hr⟩ := h1.out.form
    injection e with e1 _ _
    subst e1
    exact ⟨_, _, rfl, by rw [HLL.out]; exact hr, h2.out.1⟩
  have FIN := Lib.hid fin
  clear fin
  rcases hcase with ⟨hc, rfl⟩ | ⟨hc1, hc2, rfl⟩
  · rw [show ((20 : Nat) : Int) = 20 from rfl] at hmk
    rcases hc with hc | ⟨hc, hc'⟩
    all_goals
      go_enter Tryz.func32, Tryz.ntmps32
      go_wp2_with fail
      go_loopw [5] (fun iv wr => ∃ j : Nat, j ≤ 20 ∧ iv = .int .i64 j ∧ Hid (Own wr G (.slice (some ⟨G, 0, none⟩) 20 20) (List.replicate j B ++ List.replicate (20 - j) 0)) ∧ Hid (Below Z w wr ∧ Blk wr Z #[.int .i64 k, .int .i64 pg, .int .i64 ln, .int .u8 (B : Nat)] 39)) (fun iv _ => 20 - (intOf iv).toNat)
      case atStart => exact ⟨0, Nat.zero_le _, rfl, by simpa using HO, HB⟩
      case round =>
        obtain ⟨j, hj, rfl, KO, KB⟩ := hrel
        by_cases hlt : j < 20
        · have hlt' : (j : Int) < 20 := by omega
          obtain ⟨hO3, hB3, hfr, u, hu⟩ := KO.out.storeAt j B HHB.out (by simp; omega)
          rw [rep_set B 20 j hlt] at hO3
          have H3 := Lib.hid hO3
          have c3 := KB.out.2.cell 3
          simp only [List.getElem?_toArray, List.getElem?_cons_succ, List.getElem?_cons_zero] at c3
          have B3 := Lib.hid (And.intro (KB.out.1.trans (hB3.mono (by have := HG.out; omega))) (KB.out.2.other (a := ⟨G, j, none⟩) (by show Z ≠ G; have := HG.out; omega) (.int .u8 (B : Nat))))
          clear hO3 hB3
          go_wp2
          go_roundw
          case rel => exact ⟨j + 1, by omega, by go_num, H3, B3⟩
          case measure => simp [intOf]; omega
        · have hkn : j = 20 := by omega
          subst hkn
          have hlt' : ¬ ((20 : Nat) : Int) < 20 := by omega
          have HE := KO.out
          rw [Nat.sub_self, List.replicate_zero, List.append_nil] at HE
          have HF := Lib.hid (FIN.out _ (Lib.hid HE) KB)
          clear HE
          go_wp2
          go_ret
          obtain ⟨A9, c9, e9, h9, b9⟩ := HF.out
          exact ⟨A9, ⟨c9, e9⟩, h9, b9⟩
  · go_enter Tryz.func32, Tryz.ntmps32
    go_wp2_with fail
    go_loopw [5] (fun iv wr => ∃ j : Nat, j ≤ n ∧ iv = .int .i64 j ∧ Hid (Own wr G (.slice (some ⟨G, 0, none⟩) n n) (List.replicate j B ++ List.replicate (n - j) 0)) ∧ Hid (Below Z w wr ∧ Blk wr Z #[.int .i64 k, .int .i64 pg, .int .i64 (n : Nat), .int .u8 (B : Nat)] 39)) (fun iv _ => n - (intOf iv).toNat)
    case atStart => exact ⟨0, Nat.zero_le _, rfl, by simpa using HO, HB⟩
    case round =>
      obtain ⟨j, hj, rfl, KO, KB⟩ := hrel
      by_cases hlt : j < n
      · have hlt' : (j : Int) < (n : Int) := by omega
        obtain ⟨hO3, hB3, hfr, u, hu⟩ := KO.out.storeAt j B HHB.out (by simp; omega)
        rw [rep_set B n j hlt] at hO3
        have H3 := Lib.hid hO3
        have c3 := KB.out.2.cell 3
        simp only [List.getElem?_toArray, List.getElem?_cons_succ, List.getElem?_cons_zero] at c3
        have B3 := Lib.hid (And.intro (KB.out.1.trans (hB3.mono (by have := HG.out; omega))) (KB.out.2.other (a := ⟨G, j, none⟩) (by show Z ≠ G; have := HG.out; omega) (.int .u8 (B : Nat))))
        clear hO3 hB3
        go_wp2
        go_roundw
        case rel => exact ⟨j + 1, by omega, by go_num, H3, B3⟩
        case measure => simp [intOf]; omega
      · have hkn : j = n := by omega
        subst hkn
        have hlt' : ¬ ((j : Nat) : Int) < (j : Int) := by omega
        have HE := KO.out
        rw [Nat.sub_self, List.replicate_zero, List.append_nil] at HE
        have HF := Lib.hid (FIN.out _ (Lib.hid HE) KB)
        clear HE
        go_wp2
        go_ret
        obtain ⟨A9, c9, e9, h9, b9⟩ := HF.out
        exact ⟨A9, ⟨c9, e9⟩, h9, b9⟩
theorem load_tup {f : FuncId} {args : Array Value} {v : World} {n : Nat} {l : List Nat} (h : Calls Tryz.prog f args v fun e w' => ∃ A c, e = .returned (.slice A n c) ∧ Rd w' w'.heap.size A l ∧ Below v.heap.size v w') :
    Calls Tryz.prog f args v fun e w' => ∃ u, e = .returned u ∧ ∃ A c, u = .slice A n c ∧ Rd w' w'.heap.size A l ∧ Below v.heap.size v w' :=
  h.mono fun _ _ ⟨A, c, h1, h2, h3⟩ => ⟨_, h1, A, c, rfl, h2, h3⟩
/-- An act's kind. -/
def kindOf (k : Int) : Nat := (k % 9).toNat
end Go.Proofs.YtklppnknllbfnaaGreat
