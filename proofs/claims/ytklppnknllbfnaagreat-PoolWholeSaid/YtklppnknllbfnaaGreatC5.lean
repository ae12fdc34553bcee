/- Walks: load, did. Printed by mk_c5.py. Walks: did. -/
import Derived.Test.YtklppnknllbfnaaGreatC2
namespace Go.Proofs.YtklppnknllbfnaaGreat
open Go.RowKit Go.Maps
set_option maxRecDepth 8000
/-- How long an act's load is. -/
def lenOf (ln : Int) : Nat := if ln < 0 ∨ 5000 < ln then 20 else ln.toNat
theorem lenOf_le (ln : Int) : lenOf ln ≤ 5000 := by unfold lenOf; split <;> omega
set_option maxHeartbeats 4000000 in
theorem actload_any (k pg ln : Int) (B : Nat) (w : World) (hB : B < 256) :
  Calls Tryz.prog 32 #[.agg #[.int .i64 k, .int .i64 pg, .int .i64 ln, .int .u8 (B : Nat)]] w fun e w' => ∃ A c, e = .returned (.slice A (lenOf ln) c) ∧ Rd w' w'.heap.size A (List.replicate (lenOf ln) B) ∧ Below w.heap.size w w' := by
 have hle := lenOf_le ln
 have hbx : ∀ w1, w1 = w.alloc (.cells #[.int .i64 k, .int .i64 pg, .int .i64 ln, .int .u8 (B : Nat)] 39) → Below w.heap.size w w1 ∧ Blk w1 w.heap.size #[.int .i64 k, .int .i64 pg, .int .i64 ln, .int .u8 (B : Nat)] 39 := by
  rintro w1 rfl
  exact ⟨(Below.refl _ w).alloc (Nat.le_refl _) _, Blk.new _ _ _⟩
 have HBX := Lib.hid hbx
 clear hbx
 obtain ⟨n, hn⟩ : ∃ n, n = lenOf ln := ⟨_, rfl⟩
 rw [← hn] at hle ⊢
 obtain ⟨LL, hLL⟩ : ∃ LL, LL = List.replicate n B := ⟨_, rfl⟩
 rw [← hLL]
 have HLL := Lib.hid hLL
 clear hLL
 have hcase : (ln < 0 ∨ ¬ ln < 0 ∧ 5000 < ln) ∧ n = 20 ∨ ¬ ln < 0 ∧ ¬ 5000 < ln ∧ ln = n := by
  unfold lenOf at hn
  by_cases h : ln < 0 ∨ 5000 < ln
  ·rw [if_pos h] at hn; left; exact ⟨by omega, hn⟩
  ·rw [if_neg h] at hn; right; omega
 have HHB := Lib.hid hB
 have hn5 : (n : Int) ≤ 5000 := by omega
 clear hn hle hB
 obtain ⟨w1, hw1⟩ : ∃ w1, w1 = w.alloc (.cells #[.int .i64 k, .int .i64 pg, .int .i64 ln, .int .u8 (B : Nat)] 39) := ⟨_, rfl⟩
 obtain ⟨hb1, hz1⟩ := HBX.out w1 hw1
 obtain ⟨w2, hmk, ho, hg⟩ := run_makeN (w := w1) w1.heap.size n (Nat.le_refl _) (by omega)
 have HO := Lib.hid ho
 have hb2 := (Below.refl w1.heap.size w1).grown hg (Nat.le_refl _) (by simp)
 have HB := Lib.hid (And.intro (hb1.trans (hb2.mono hb1.size)) (hz1.grew hb2))
 have HG : Hid (w.heap.size < w1.heap.size) := Lib.hid hz1.lt
 have HZ1 := Lib.hid hz1
 have c2 := hz1.cell 2
 simp only [List.getElem?_toArray, List.getElem?_cons_succ, List.getElem?_cons_zero] at c2
 obtain ⟨G, hGE⟩ : ∃ G, G = w1.heap.size := ⟨_, rfl⟩
 obtain ⟨Z, hZE⟩ : ∃ Z, Z = w.heap.size := ⟨_, rfl⟩
 rw [← hGE] at hmk HO HG
 rw [← hZE] at HG HB c2
 have HZE := Lib.hid hZE
 have HGE := Lib.hid hGE
 have hwe : w.alloc (.cells #[.int .i64 k, .int .i64 pg, .int .i64 ln, .int .u8 (B : Nat)] 39) = w1 := hw1.symm
 have hze : w.heap.size = Z := hZE.symm
 clear ho hg hb1 hb2 hz1 hw1 hZE hGE HBX HZ1
 have fin : ∀ wr, Hid (Own wr G (.slice (some ⟨G, 0, none⟩) n n) (List.replicate n B)) → Hid (Below Z w wr ∧ Blk wr Z #[.int .i64 k, .int .i64 pg, .int .i64 ln, .int .u8 (B : Nat)] 39) → ∃ A c, Ending.returned (.slice (some ⟨G, 0, none⟩) n n) = .returned (.slice A n c) ∧ Rd wr wr.heap.size A LL ∧ Below Z w wr := by
  intro wr h1 h2
  obtain ⟨A, c, e, hr⟩ := h1.out.form
  injection e with e1 _ _
  subst e1
  exact ⟨_, _, rfl, by rw [HLL.out]; exact hr, h2.out.1⟩
 have FIN := Lib.hid fin
 clear fin
 rcases hcase with ⟨hc, rfl⟩ | ⟨hc1, hc2, rfl⟩
 ·rw [show ((20 : Nat) : Int) = 20 from rfl] at hmk
  rcases hc with hc | ⟨hc, hc'⟩
  all_goals
   go_enter Tryz.func32, Tryz.ntmps32
   go_wp2_with fail
   go_loopw [5] (fun iv wr => ∃ j : Nat, j ≤ 20 ∧ iv = .int .i64 j ∧ Hid (Own wr G (.slice (some ⟨G, 0, none⟩) 20 20) (List.replicate j B ++ List.replicate (20 - j) 0)) ∧ Hid (Below Z w wr ∧ Blk wr Z #[.int .i64 k, .int .i64 pg, .int .i64 ln, .int .u8 (B : Nat)] 39)) (fun iv _ => 20 - (intOf iv).toNat)
   case atStart => exact ⟨0, Nat.zero_le _, rfl, by simpa using HO, HB⟩
   case round =>
    obtain ⟨j, hj, rfl, KO, KB⟩ := hrel
    by_cases hlt : j < 20
    ·have hlt' : (j : Int) < 20 := by omega
     obtain ⟨hO3, hB3, hfr, u, hu⟩ := KO.out.storeAt j B HHB.out (by simp; omega)
     rw [rep_set B 20 j hlt] at hO3
     have H3 := Lib.hid hO3
     have c3 := KB.out.2.cell 3
     simp only [List.getElem?_toArray, List.getElem?_cons_succ, List.getElem?_cons_zero] at c3
     have B3 := Lib.hid (And.intro (KB.out.1.trans (hB3.mono (by have := HG.out; omega))) (KB.out.2.other (a := ⟨G, j, none⟩) (by show Z ≠ G; have := HG.out; omega) (.int .u8 (B : Nat))))
     clear hO3 hB3
     go_wp2
     go_roundw
     case rel => exact ⟨j + 1, by omega, by go_num, H3, B3⟩
     case measure => simp [intOf]; omega
    ·have hkn : j = 20 := by omega
     subst hkn
     have hlt' : ¬ ((20 : Nat) : Int) < 20 := by omega
     have HE := KO.out
     rw [Nat.sub_self, List.replicate_zero, List.append_nil] at HE
     have HF := Lib.hid (FIN.out _ (Lib.hid HE) KB)
     clear HE
     go_wp2
     go_ret
     obtain ⟨A9, c9, e9, h9, b9⟩ := HF.out
     exact ⟨A9, ⟨c9, e9⟩, h9, b9⟩
 ·go_enter Tryz.func32, Tryz.ntmps32
  go_wp2_with fail
  go_loopw [5] (fun iv wr => ∃ j : Nat, j ≤ n ∧ iv = .int .i64 j ∧ Hid (Own wr G (.slice (some ⟨G, 0, none⟩) n n) (List.replicate j B ++ List.replicate (n - j) 0)) ∧ Hid (Below Z w wr ∧ Blk wr Z #[.int .i64 k, .int .i64 pg, .int .i64 (n : Nat), .int .u8 (B : Nat)] 39)) (fun iv _ => n - (intOf iv).toNat)
  case atStart => exact ⟨0, Nat.zero_le _, rfl, by simpa using HO, HB⟩
  case round =>
   obtain ⟨j, hj, rfl, KO, KB⟩ := hrel
   by_cases hlt : j < n
   ·have hlt' : (j : Int) < (n : Int) := by omega
    obtain ⟨hO3, hB3, hfr, u, hu⟩ := KO.out.storeAt j B HHB.out (by simp; omega)
    rw [rep_set B n j hlt] at hO3
    have H3 := Lib.hid hO3
    have c3 := KB.out.2.cell 3
    simp only [List.getElem?_toArray, List.getElem?_cons_succ, List.getElem?_cons_zero] at c3
    have B3 := Lib.hid (And.intro (KB.out.1.trans (hB3.mono (by have := HG.out; omega))) (KB.out.2.other (a := ⟨G, j, none⟩) (by show Z ≠ G; have := HG.out; omega) (.int .u8 (B : Nat))))
    clear hO3 hB3
    go_wp2
    go_roundw
    case rel => exact ⟨j + 1, by omega, by go_num, H3, B3⟩
    case measure => simp [intOf]; omega
   ·have hkn : j = n := by omega
    subst hkn
    have hlt' : ¬ ((j : Nat) : Int) < (j : Int) := by omega
    have HE := KO.out
    rw [Nat.sub_self, List.replicate_zero, List.append_nil] at HE
    have HF := Lib.hid (FIN.out _ (Lib.hid HE) KB)
    clear HE
    go_wp2
    go_ret
    obtain ⟨A9, c9, e9, h9, b9⟩ := HF.out
    exact ⟨A9, ⟨c9, e9⟩, h9, b9⟩
theorem load_tup {f : FuncId} {args : Array Value} {v : World} {n : Nat} {l : List Nat} (h : Calls Tryz.prog f args v fun e w' => ∃ A c, e = .returned (.slice A n c) ∧ Rd w' w'.heap.size A l ∧ Below v.heap.size v w') :
  Calls Tryz.prog f args v fun e w' => ∃ u, e = .returned u ∧ ∃ A c, u = .slice A n c ∧ Rd w' w'.heap.size A l ∧ Below v.heap.size v w' :=
 h.mono fun _ _ ⟨A, c, h1, h2, h3⟩ => ⟨_, h1, A, c, rfl, h2, h3⟩
/-- An act's kind. -/
def kindOf (k : Int) : Nat := (k % 9).toNat
end Go.Proofs.YtklppnknllbfnaaGreat
namespace Go.Proofs.YtklppnknllbfnaaGreat
open Go.RowKit Go.Maps
set_option maxRecDepth 8000
set_option maxHeartbeats 8000000 in
theorem did_any (k pg ln : Int) (B : Nat) (v : World) (P : Value) (T : List Nat) (hT : ∀ j ∈ T, j < v.heap.size) (hB : B < 256) (Q : Int → World → Prop)
  (H0 : kindOf k = 0 → ∀ v1, Below v.heap.size v v1 → Calls Tryz.prog 12 #[P] v1 fun e w' => ∃ a er, e = .returned (.tuple #[.int .i64 a, .int .i64 er]) ∧ Q er w')
  (H3 : kindOf k = 3 → ∀ v1, Below v.heap.size v v1 → Calls Tryz.prog 22 #[P, .int .i64 pg] v1 fun e w' => ∃ er, e = .returned (.int .i64 er) ∧ Q er w')
  (H4 : kindOf k = 4 → ∀ v1, Below v.heap.size v v1 → Calls Tryz.prog 24 #[P, .int .i64 pg, .int .i64 ln] v1 fun e w' => ∃ er, e = .returned (.int .i64 er) ∧ Q er w')
  (H5 : kindOf k = 5 → ∀ v1, Below v.heap.size v v1 → Calls Tryz.prog 26 #[P] v1 fun e w' => ∃ er, e = .returned (.int .i64 er) ∧ Q er w')
  (H6 : kindOf k = 6 → ∀ v1, Below v.heap.size v v1 → Calls Tryz.prog 28 #[P] v1 fun e w' => ∃ er, e = .returned (.int .i64 er) ∧ Q er w')
  (H7 : kindOf k = 7 ∨ kindOf k = 8 → ∀ v1, Below v.heap.size v v1 → Calls Tryz.prog 30 #[P] v1 fun e w' => ∃ er, e = .returned (.int .i64 er) ∧ Q er w')
  (HW : kindOf k = 1 ∨ kindOf k = 2 → ∀ v1 A c, Below v.heap.size v v1 → Rd v1 v1.heap.size A (List.replicate (lenOf ln) B) → Calls Tryz.prog 31 #[P, .int .i64 pg, .slice A (lenOf ln) c] v1 fun e w' => ∃ u, e = .returned u ∧ ∃ er, u = .int .i64 er ∧ Q er w' ∧ Turn T v1 w') :
  Calls Tryz.prog 17 #[P, .agg #[.int .i64 k, .int .i64 pg, .int .i64 ln, .int .u8 (B : Nat)]] v fun e w' => ∃ er, e = .returned (.int .i64 er) ∧ Q er w' := by
 have hkd : kindOf k ≤ 8 := by unfold kindOf; omega
 have e1 : IntKind.i64.wrap (k.tmod 9) = k.tmod 9 := by
  have t1 := Int.lt_tmod_of_pos k (show (0 : Int) < 9 by omega)
  have t2 := Int.tmod_lt_of_pos k (show (0 : Int) < 9 by omega)
  rw [IntKind.wrap_i64]; omega
 have e2 : IntKind.i64.wrap (k.tmod 9 + 9) = k.tmod 9 + 9 := by
  have t1 := Int.lt_tmod_of_pos k (show (0 : Int) < 9 by omega)
  have t2 := Int.tmod_lt_of_pos k (show (0 : Int) < 9 by omega)
  rw [IntKind.wrap_i64]; omega
 have e3 : IntKind.i64.wrap ((k.tmod 9 + 9).tmod 9) = (kindOf k : Int) := by
  have h := rem_mod k 9 (by omega)
  have h' : (k.tmod 9 + 9).tmod 9 = ((k % 9).toNat : Int) := h
  rw [h', IntKind.wrap_i64]; unfold kindOf at *; omega
 have HB1 := Lib.hid (fun w1 (e : w1 = v.alloc (.cells #[.int .i64 k, .int .i64 pg, .int .i64 ln, .int .u8 (B : Nat)] 39)) => (show Below v.heap.size v w1 ∧ Blk w1 v.heap.size #[.int .i64 k, .int .i64 pg, .int .i64 ln, .int .u8 (B : Nat)] 39 by rw [e]; exact ⟨(Below.refl _ v).alloc (Nat.le_refl _) _, Blk.new _ _ _⟩))
 obtain ⟨w1, hw1⟩ : ∃ w1, w1 = v.alloc (.cells #[.int .i64 k, .int .i64 pg, .int .i64 ln, .int .u8 (B : Nat)] 39) := ⟨_, rfl⟩
 obtain ⟨hb, hz⟩ := HB1.out w1 hw1
 have HB := Lib.hid hb
 have c0 := hz.cell 0
 have c1 := hz.cell 1
 have c2 := hz.cell 2
 simp only [List.getElem?_toArray, List.getElem?_cons_succ, List.getElem?_cons_zero] at c0 c1 c2
 have HT := Lib.hid hT
 obtain ⟨Z, hZ⟩ : ∃ Z, Z = v.heap.size := ⟨_, rfl⟩
 rw [← hZ] at hz c0 c1 c2
 have HZ := Lib.hid hz
 have HZE := Lib.hid hZ
 have hwe : v.alloc (.cells #[.int .i64 k, .int .i64 pg, .int .i64 ln, .int .u8 (B : Nat)] 39) = w1 := hw1.symm
 have hze : v.heap.size = Z := hZ.symm
 have HH0 := Lib.hid (fun h => H0 h w1 hb)
 have HH3 := Lib.hid (fun h => H3 h w1 hb)
 have HH4 := Lib.hid (fun h => H4 h w1 hb)
 have HH5 := Lib.hid (fun h => H5 h w1 hb)
 have HH6 := Lib.hid (fun h => H6 h w1 hb)
 have HH7 := Lib.hid (fun h => H7 h w1 hb)
 have HHW := Lib.hid HW
 have HBB := Lib.hid hB
 have e4 : (k.tmod 9 + 9).tmod 9 = (kindOf k : Int) := by
  have h := rem_mod k 9 (by omega)
  exact h
 clear H0 H3 H4 H5 H6 H7 HW hT hB hb hz hZ hw1 HB1 e3
 obtain ⟨kd, hkE⟩ : ∃ kd, kd = kindOf k := ⟨_, rfl⟩
 rw [← hkE] at hkd HH0 HH3 HH4 HH5 HH6 HH7 HHW e4
 clear hkE
 have hcs : kd = 0 ∨ kd = 1 ∨ kd = 2 ∨ kd = 3 ∨ kd = 4 ∨ kd = 5 ∨ kd = 6 ∨ kd = 7 ∨ kd = 8 := by omega
 clear hkd
 rcases hcs with rfl | rfl | rfl | rfl | rfl | rfl | rfl | rfl | rfl
 ·have e5 : (k.tmod 9 + 9).tmod 9 = 0 := by rw [e4]; rfl
  clear e4
  go_enter Tryz.func17, Tryz.ntmps17
  go_wp2_with fail
  refine (HH0.out (by simp)).mono ?_
  rintro e w2 ⟨a, er, rfl, hq⟩
  have HQ := Lib.hid hq
  clear hq
  go_wp2
  go_ret
  exact ⟨_, rfl, HQ.out⟩
 ·have e5 : (k.tmod 9 + 9).tmod 9 = 1 := by rw [e4]; rfl
  clear e4
  have HW := Lib.hid (HHW.out (by simp))
  clear HHW HH0 HH3 HH4 HH5 HH6 HH7
  go_enter Tryz.func17, Tryz.ntmps17
  go_wp2_with fail
  refine wp_region_H (fun v => Blk v Z #[.int .i64 k, .int .i64 pg, .int .i64 ln, .int .u8 (B : Nat)] 39) (by kernel_rfl) (fun v0 hv0 => ?_)
  have hS0 : (fun v => Blk v Z #[.int .i64 k, .int .i64 pg, .int .i64 ln, .int .u8 (B : Nat)] 39) v0 := by subst hv0; exact HZ.out.drew
  have HB0 : Hid (Below v.heap.size v v0) := Lib.hid (by subst hv0; exact HB.out.trans ((Below.refl _ _).drew.mono HB.out.size))
  clear hv0
  refine wpH_t 0 ?_ rfl rfl (by kernel_rfl) (fun _ _ _ h => h) rfl ?_ hS0 ?_
  rotate_left
  ·(intro w_ hw_; go_simp; try with_reducible rfl)
  simp only [sL]
  refine wpH_t 1 ?_ rfl rfl (by kernel_rfl) (fun _ _ _ h => h) rfl ?_ hS0 ?_
  rotate_left
  ·(intro w_ hw_; go_simp; try with_reducible rfl)
  simp only [sL]
  refine wpH_t 2 ?_ rfl rfl (by kernel_rfl) (fun _ _ _ h => h) rfl ?_ hS0 ?_
  rotate_left
  ·(intro w_ hw_; have q := hw_.four; go_simp; try with_reducible rfl)
  simp only [sL]
  refine wpH_t 3 ?_ rfl rfl (by kernel_rfl) (fun _ _ _ h => h) rfl ?_ hS0 ?_
  rotate_left
  ·(intro w_ hw_; have q := hw_.four; go_simp; try with_reducible rfl)
  simp only [sL]
  refine wpH_callv (i := 4) (by kernel_rfl) rfl rfl (by rfl) (load_tup (actload_any k pg ln B v0 HBB.out)) (by go_simp) ?_
  rintro _ v1 ⟨A, c, rfl, hrd, hb1⟩
  have hS1 : (fun v => Blk v Z #[.int .i64 k, .int .i64 pg, .int .i64 ln, .int .u8 (B : Nat)] 39) v1 := hS0.grew hb1
  clear hS0
  refine ⟨hS1, ?_⟩
  simp only [sL]
  have hb2 := HB0.out.trans (hb1.mono HB0.out.size)
  have hwr := HW.out v1 A c hb2 hrd
  have HZ1 := Lib.hid (id hS1)
  clear hrd hb1
  refine wpH_callv (i := 5) (by kernel_rfl) rfl rfl (by rfl) (hwr) (by go_simp) ?_
  rintro _ v2 ⟨er, rfl, hq, ht⟩
  have hS2 : (fun v => Blk v Z #[.int .i64 k, .int .i64 pg, .int .i64 ln, .int .u8 (B : Nat)] 39) v2 := Blk.turn HZ1.out ht (fun hm => by have := HT.out _ hm; omega)
  clear hS1
  refine ⟨hS2, ?_⟩
  simp only [sL]
  have HQ := Lib.hid hq
  clear hq ht hb2 hwr HZ1
  refine wpH_t 6 ?_ rfl rfl (by kernel_rfl) (fun _ _ _ h => h) rfl ?_ hS2 ?_
  rotate_left
  ·(intro w_ hw_; go_simp; try with_reducible rfl)
  simp only [sL]
  clear hS2
  refine wpAnyH_done (by kernel_rfl) ?_ _
  go_wp2
  go_ret
  exact ⟨er, rfl, HQ.out⟩
 ·have e5 : (k.tmod 9 + 9).tmod 9 = 2 := by rw [e4]; rfl
  clear e4
  have HW := Lib.hid (HHW.out (by simp))
  clear HHW HH0 HH3 HH4 HH5 HH6 HH7
  go_enter Tryz.func17, Tryz.ntmps17
  go_wp2_with fail
  refine wp_region_H (fun v => Blk v Z #[.int .i64 k, .int .i64 pg, .int .i64 ln, .int .u8 (B : Nat)] 39) (by kernel_rfl) (fun v0 hv0 => ?_)
  have hS0 : (fun v => Blk v Z #[.int .i64 k, .int .i64 pg, .int .i64 ln, .int .u8 (B : Nat)] 39) v0 := by subst hv0; exact HZ.out.drew
  have HB0 : Hid (Below v.heap.size v v0) := Lib.hid (by subst hv0; exact HB.out.trans ((Below.refl _ _).drew.mono HB.out.size))
  clear hv0
  refine wpH_t 0 ?_ rfl rfl (by kernel_rfl) (fun _ _ _ h => h) rfl ?_ hS0 ?_
  rotate_left
  ·(intro w_ hw_; go_simp; try with_reducible rfl)
  simp only [sL]
  refine wpH_t 1 ?_ rfl rfl (by kernel_rfl) (fun _ _ _ h => h) rfl ?_ hS0 ?_
  rotate_left
  ·(intro w_ hw_; go_simp; try with_reducible rfl)
  simp only [sL]
  refine wpH_t 2 ?_ rfl rfl (by kernel_rfl) (fun _ _ _ h => h) rfl ?_ hS0 ?_
  rotate_left
  ·(intro w_ hw_; have q := hw_.four; go_simp; try with_reducible rfl)
  simp only [sL]
  refine wpH_t 3 ?_ rfl rfl (by kernel_rfl) (fun _ _ _ h => h) rfl ?_ hS0 ?_
  rotate_left
  ·(intro w_ hw_; have q := hw_.four; go_simp; try with_reducible rfl)
  simp only [sL]
  refine wpH_callv (i := 4) (by kernel_rfl) rfl rfl (by rfl) (load_tup (actload_any k pg ln B v0 HBB.out)) (by go_simp) ?_
  rintro _ v1 ⟨A, c, rfl, hrd, hb1⟩
  have hS1 : (fun v => Blk v Z #[.int .i64 k, .int .i64 pg, .int .i64 ln, .int .u8 (B : Nat)] 39) v1 := hS0.grew hb1
  clear hS0
  refine ⟨hS1, ?_⟩
  simp only [sL]
  have hb2 := HB0.out.trans (hb1.mono HB0.out.size)
  have hwr := HW.out v1 A c hb2 hrd
  have HZ1 := Lib.hid (id hS1)
  clear hrd hb1
  refine wpH_callv (i := 5) (by kernel_rfl) rfl rfl (by rfl) (hwr) (by go_simp) ?_
  rintro _ v2 ⟨er, rfl, hq, ht⟩
  have hS2 : (fun v => Blk v Z #[.int .i64 k, .int .i64 pg, .int .i64 ln, .int .u8 (B : Nat)] 39) v2 := Blk.turn HZ1.out ht (fun hm => by have := HT.out _ hm; omega)
  clear hS1
  refine ⟨hS2, ?_⟩
  simp only [sL]
  have HQ := Lib.hid hq
  clear hq ht hb2 hwr HZ1
  refine wpH_t 6 ?_ rfl rfl (by kernel_rfl) (fun _ _ _ h => h) rfl ?_ hS2 ?_
  rotate_left
  ·(intro w_ hw_; go_simp; try with_reducible rfl)
  simp only [sL]
  clear hS2
  refine wpAnyH_done (by kernel_rfl) ?_ _
  go_wp2
  go_ret
  exact ⟨er, rfl, HQ.out⟩
 ·have e5 : (k.tmod 9 + 9).tmod 9 = 3 := by rw [e4]; rfl
  clear e4
  go_enter Tryz.func17, Tryz.ntmps17
  go_wp2_with fail
  refine (HH3.out (by simp)).mono ?_
  rintro e w2 ⟨er, rfl, hq⟩
  have HQ := Lib.hid hq
  clear hq
  go_wp2
  go_ret
  exact ⟨_, rfl, HQ.out⟩
 ·have e5 : (k.tmod 9 + 9).tmod 9 = 4 := by rw [e4]; rfl
  clear e4
  go_enter Tryz.func17, Tryz.ntmps17
  go_wp2_with fail
  refine (HH4.out (by simp)).mono ?_
  rintro e w2 ⟨er, rfl, hq⟩
  have HQ := Lib.hid hq
  clear hq
  go_wp2
  go_ret
  exact ⟨_, rfl, HQ.out⟩
 ·have e5 : (k.tmod 9 + 9).tmod 9 = 5 := by rw [e4]; rfl
  clear e4
  go_enter Tryz.func17, Tryz.ntmps17
  go_wp2_with fail
  refine (HH5.out (by simp)).mono ?_
  rintro e w2 ⟨er, rfl, hq⟩
  have HQ := Lib.hid hq
  clear hq
  go_wp2
  go_ret
  exact ⟨_, rfl, HQ.out⟩
 ·have e5 : (k.tmod 9 + 9).tmod 9 = 6 := by rw [e4]; rfl
  clear e4
  go_enter Tryz.func17, Tryz.ntmps17
  go_wp2_with fail
  refine (HH6.out (by simp)).mono ?_
  rintro e w2 ⟨er, rfl, hq⟩
  have HQ := Lib.hid hq
  clear hq
  go_wp2
  go_ret
  exact ⟨_, rfl, HQ.out⟩
 ·have e5 : (k.tmod 9 + 9).tmod 9 = 7 := by rw [e4]; rfl
  clear e4
  go_enter Tryz.func17, Tryz.ntmps17
  go_wp2_with fail
  refine (HH7.out (by simp)).mono ?_
  rintro e w2 ⟨er, rfl, hq⟩
  have HQ := Lib.hid hq
  clear hq
  go_wp2
  go_ret
  exact ⟨_, rfl, HQ.out⟩
 ·have e5 : (k.tmod 9 + 9).tmod 9 = 8 := by rw [e4]; rfl
  clear e4
  go_enter Tryz.func17, Tryz.ntmps17
  go_wp2_with fail
  refine (HH7.out (by simp)).mono ?_
  rintro e w2 ⟨er, rfl, hq⟩
  have HQ := Lib.hid hq
  clear hq
  go_wp2
  go_ret
  exact ⟨_, rfl, HQ.out⟩
end Go.Proofs.YtklppnknllbfnaaGreat
