/- Walk: DiskFast. -/
import Derived.Test.YtapllljbbldfkaaW11
namespace Go.Proofs.Ytapllljbbldfkaa
open Go.RowKit Go.Maps

theorem acted_sectors (D : Dsk) (x : ActV) : (D.acted x).sectors = D.sectors ∧ (D.acted x).size = D.size := by
  unfold Dsk.acted Dsk.did
  split
  · exact Dsk.flush_sectors
  · split
    · exact ⟨rfl, rfl⟩
    · split
      · exact ⟨rfl, rfl⟩
      · split
        · exact ⟨rfl, rfl⟩
        · exact Dsk.put_sectors _ _
theorem foldl_sectors {α : Type} (f : Dsk → α → Dsk) (hf : ∀ D x, (f D x).sectors = D.sectors ∧ (f D x).size = D.size) : ∀ (l : List α) (D : Dsk), (l.foldl f D).sectors = D.sectors ∧ (l.foldl f D).size = D.size
  | [], _ => ⟨rfl, rfl⟩
  | x :: l, D => by
    have h1 := foldl_sectors f hf l (f D x)
    have h2 := hf D x
    exact ⟨h1.1.trans h2.1, h1.2.trans h2.2⟩
def runs (D : Dsk) (l : List ActV) : Dsk := l.foldl Dsk.acted D
theorem runs_succ (D : Dsk) (l : List ActV) (k : Nat) (h : k < l.length) : runs D (l.take (k + 1)) = (runs D (l.take k)).acted l[k] := by
  unfold runs
  rw [List.take_add_one, List.getElem?_eq_getElem h, List.foldl_append]; rfl
theorem foldl_loose {α : Type} (f : Dsk → α → Dsk) (hf : ∀ D x, (f D x).loose.length ≤ D.loose.length + 1) : ∀ (l : List α) (D : Dsk), (l.foldl f D).loose.length ≤ D.loose.length + l.length
  | [], _ => Nat.le_refl _
  | x :: l, D => by
    have h1 := foldl_loose f hf l (f D x)
    have h2 := hf D x
    simp only [List.foldl_cons, List.length_cons]
    omega
theorem runs_loose (D : Dsk) (l : List ActV) : (runs D l).loose.length ≤ D.loose.length + l.length := foldl_loose _ acted_loose l D
theorem new_runs_loose (s z : Nat) (l : List ActV) (k : Nat) : (runs (Dsk.new s z) (l.take k)).loose.length ≤ k := by
  have := runs_loose (Dsk.new s z) (l.take k)
  rw [List.length_take] at this
  have e : (Dsk.new s z).loose.length = 0 := rfl
  omega
theorem runs_sectors (D : Dsk) (l : List ActV) : (runs D l).sectors = D.sectors ∧ (runs D l).size = D.size := foldl_sectors _ acted_sectors l D
/-- Acts elsewhere alone. -/
def skip (a : Int) (D : Dsk) (x : ActV) : Dsk := if x.at_ = a then D else D.acted x
def skips (a : Int) (D : Dsk) (l : List ActV) : Dsk := l.foldl (skip a) D
theorem skips_succ (a : Int) (D : Dsk) (l : List ActV) (k : Nat) (h : k < l.length) : skips a D (l.take (k + 1)) = skip a (skips a D (l.take k)) l[k] := by
  unfold skips
  rw [List.take_add_one, List.getElem?_eq_getElem h, List.foldl_append]; rfl
theorem skips_loose (a : Int) (D : Dsk) (l : List ActV) : (skips a D l).loose.length ≤ D.loose.length + l.length := by
  refine foldl_loose _ (fun D x => ?_) l D
  unfold skip
  split
  · omega
  · exact acted_loose D x

/-- What stands fast and loose of a sector is as it was. -/
def Stays (a : Int) (X : List Nat) (D : Dsk) : Prop := D.fast a = X ∧ ∀ e ∈ D.loose, e.1 ≠ a
theorem Stays.acted {a : Int} {X : List Nat} {D : Dsk} (h : Stays a X D) (x : ActV) (hx : x.at_ ≠ a) : Stays a X (D.acted x) := by
  have hact : Stays a X D.act := ⟨by rw [Dsk.act_fast]; exact h.1, by rw [Dsk.act_loose]; exact h.2⟩
  unfold Dsk.acted Dsk.did
  split
  · unfold Dsk.flush
    split
    · exact h
    · split
      · exact hact
      · exact ⟨by show settle D.fast D.loose a = X; rw [settle_other a _ _ h.2]; exact h.1, by simp⟩
  · split
    · exact h
    · split
      · exact h
      · split
        · exact ⟨by show crashed _ _ _ _ _ a = X; rw [crashed_other h.2]; exact h.1, by simp [Dsk.crash]⟩
        · unfold Dsk.put
          split
          · exact h
          · refine ⟨hact.1, fun e he => ?_⟩
            rcases List.mem_append.1 he with he | he
            · exact h.2 e he
            · simp at he; subst he; exact hx
theorem Stays.skips {a : Int} {X : List Nat} : ∀ (l : List ActV) (D : Dsk), Stays a X D → Stays a X (skips a D l)
  | [], _, h => h
  | x :: l, D, h => by
    refine Stays.skips l (skip a D x) ?_
    unfold skip
    split
    · exact h
    · rename_i hx; exact h.acted x hx
theorem Stays.crash {a : Int} {X : List Nat} {D : Dsk} (h : Stays a X D) (fs : List Int) : (D.crash fs).tells a = X := by
  show ((none : Option (List Nat)).getD (crashed _ _ _ _ _ a)) = X
  rw [crashed_other h.2]
  exact h.1
theorem flush_stays {D : Dsk} (h : D.flushErr = 0) (a : Int) : Stays a (D.flush.tells a) D.flush ∧ D.flush.down = false := by
  unfold Dsk.flushErr at h
  by_cases hc : D.down = true ∨ D.act.down = true
  · rw [if_pos hc] at h; cases h
  · have h1 : D.down = false := by simpa using fun h => hc (.inl h)
    have h2 : D.act.down = false := by simpa using fun h => hc (.inr h)
    unfold Dsk.flush
    rw [h1]
    simp only [Bool.false_eq_true, if_false]
    rw [h2]
    simp only [Bool.false_eq_true, if_false]
    exact ⟨⟨rfl, by simp⟩, trivial⟩
theorem flush_falls {D : Dsk} (h : D.flushErr ≠ 0) : D.flush.down = true ∧ D.flushErr = 4 := by
  unfold Dsk.flushErr at h ⊢
  by_cases hc : D.down = true ∨ D.act.down = true
  · rw [if_pos hc]
    refine ⟨?_, rfl⟩
    unfold Dsk.flush
    by_cases h1 : D.down = true
    · rw [if_pos h1]; exact h1
    · rw [if_neg h1]
      have h2 : D.act.down = true := by rcases hc with h | h; exact absurd h h1; exact h
      rw [if_pos h2]; exact h2
  · rw [if_neg hc] at h; exact absurd rfl h
theorem skips_sectors (a : Int) (D : Dsk) (l : List ActV) : (skips a D l).sectors = D.sectors ∧ (skips a D l).size = D.size := by
  refine foldl_sectors _ (fun D x => ?_) l D
  unfold skip
  split
  · exact ⟨rfl, rfl⟩
  · exact acted_sectors D x
theorem ready_ok {D : Dsk} {a : Int} (hd : D.down = false) (h0 : 0 ≤ a) (h1 : a < (D.sectors : Int)) : D.ready a = 0 := by
  unfold Dsk.ready
  rw [if_neg (by simp [hd]), if_neg (by omega)]

set_option maxRecDepth 10000 in
set_option maxHeartbeats 8000000 in
theorem Fast_any (A1 : Option Addr) (n1 c1 : Nat) (l1 : List ActV) (A2 : Option Addr) (n2 c2 : Nat) (l2 : List ActV) (at_ : Nat) (A3 : Option Addr) (n3 c3 : Nat) (fs : List Int) (w : World)
    (h1 : l1.length = n1) (r1 : Acts w w.heap.size A1 l1) (h2 : l2.length = n2) (r2 : Acts w w.heap.size A2 l2) (h3 : fs.length = n3) (hc3 : n3 ≤ c3) (r3 : IRd w A3 fs) (ra : fs ≠ [] → ∀ p, A3 = some p → p.block < w.heap.size) (hat : at_ < 256) :
    Calls Try.prog 3 #[.agg #[.slice A1 n1 c1, .slice A2 n2 c2, .int .u8 (at_ : Int), .slice A3 n3 c3]] w fun e w' => e = .returned (.bool true) ∧ Below w.heap.size w w' := by
  have H1 := Lib.hid h1
  have H2 := Lib.hid h2
  have H3 := Lib.hid (And.intro h3 hc3)
  have R1 := Lib.hid r1
  have R2 := Lib.hid r2
  have R3 := Lib.hid (And.intro r3 ra)
  obtain ⟨K, hK⟩ : ∃ K, K = w.heap.size := ⟨_, rfl⟩
  obtain ⟨w1, hw1⟩ : ∃ w1, w1 = w.alloc (.cells #[.slice A1 n1 c1, .slice A2 n2 c2, .int .u8 (at_ : Int), .slice A3 n3 c3] 25) := ⟨_, rfl⟩
  have HB := Lib.hid (show Below w.heap.size w w1 ∧ Blk w1 K #[.slice A1 n1 c1, .slice A2 n2 c2, .int .u8 (at_ : Int), .slice A3 n3 c3] 25 by subst hw1; exact ⟨(Below.refl _ w).alloc (Nat.le_refl _) _, Blk.new' _ _ _ hK⟩)
  have HW1 := Lib.hid hw1
  have HK0 := Lib.hid hK
  have HAT := Lib.hid hat
  clear h1 h2 h3 hc3 r1 r2 r3 ra hK hw1 hat
  go_enter Try.func3, Try.ntmps3
  go_wp2_with fail
  rw [← HW1.out, ← HK0.out]
  clear HW1 HK0
  refine wp_region_H (fun v => v.cell? ⟨K, 0, none⟩ = some (.slice A1 n1 c1) ∧ v.cell? ⟨K, 1, none⟩ = some (.slice A2 n2 c2) ∧ v.cell? ⟨K, 2, none⟩ = some (.int .u8 (at_ : Int)) ∧ v.cell? ⟨K, 3, none⟩ = some (.slice A3 n3 c3)) (by kernel_rfl) (fun v0 hv0 => ?_)
  have hS0 : (fun v => v.cell? ⟨K, 0, none⟩ = some (.slice A1 n1 c1) ∧ v.cell? ⟨K, 1, none⟩ = some (.slice A2 n2 c2) ∧ v.cell? ⟨K, 2, none⟩ = some (.int .u8 (at_ : Int)) ∧ v.cell? ⟨K, 3, none⟩ = some (.slice A3 n3 c3)) v0 := by subst hv0; exact ⟨HB.out.2.cell 0, HB.out.2.cell 1, HB.out.2.cell 2, HB.out.2.cell 3⟩
  have B0 : Below w.heap.size w v0 := by subst hv0; exact ⟨HB.out.1.os, HB.out.1.tape, HB.out.1.output, HB.out.1.size, HB.out.1.block⟩
  have HB0 := Lib.hid B0
  clear hv0 HB B0
  refine wpH_take (i := 0) (v := ?_) rfl rfl (by kernel_rfl) (by kernel_rfl) (by kernel_rfl) (fun _ _ _ h => h) (Or.inl ⟨by rfl, ?_⟩) hS0 ?_
  rotate_left
  · (intro w_ hw_; go_simp; try with_reducible rfl)
  simp only [List.setIfInBounds_toArray, List.set_cons_zero, List.set_cons_succ]
  refine wpH_take (i := 1) (v := ?_) rfl rfl (by kernel_rfl) (by kernel_rfl) (by kernel_rfl) (fun _ _ _ h => h) (Or.inl ⟨by rfl, ?_⟩) hS0 ?_
  rotate_left
  · (intro w_ hw_; obtain ⟨q0, q1, q2, q3⟩ := hw_; go_simp; try with_reducible rfl)
  simp only [List.setIfInBounds_toArray, List.set_cons_zero, List.set_cons_succ]
  refine wpH_take (i := 2) (v := ?_) rfl rfl (by kernel_rfl) (by kernel_rfl) (by kernel_rfl) (fun _ _ _ h => h) (Or.inl ⟨by rfl, ?_⟩) hS0 ?_
  rotate_left
  · (intro w_ hw_; go_simp; try with_reducible rfl)
  simp only [List.setIfInBounds_toArray, List.set_cons_zero, List.set_cons_succ]
  refine wpH_take (i := 3) (v := ?_) rfl rfl (by kernel_rfl) (by kernel_rfl) (by kernel_rfl) (fun _ _ _ h => h) (Or.inl ⟨by rfl, ?_⟩) hS0 ?_
  rotate_left
  · (intro w_ hw_; obtain ⟨q0, q1, q2, q3⟩ := hw_; go_simp; try with_reducible rfl)
  simp only [List.setIfInBounds_toArray, List.set_cons_zero, List.set_cons_succ]
  refine wpH_take (i := 4) (v := ?_) rfl rfl (by kernel_rfl) (by kernel_rfl) (by kernel_rfl) (fun _ _ _ h => h) (Or.inl ⟨by rfl, ?_⟩) hS0 ?_
  rotate_left
  · (intro w_ hw_; go_simp; try with_reducible rfl)
  simp only [List.setIfInBounds_toArray, List.set_cons_zero, List.set_cons_succ]
  refine wpH_take (i := 5) (v := ?_) rfl rfl (by kernel_rfl) (by kernel_rfl) (by kernel_rfl) (fun _ _ _ h => h) (Or.inl ⟨by rfl, ?_⟩) hS0 ?_
  rotate_left
  · (intro w_ hw_; obtain ⟨q0, q1, q2, q3⟩ := hw_; go_simp; try with_reducible rfl)
  simp only [List.setIfInBounds_toArray, List.set_cons_zero, List.set_cons_succ]
  refine wpH_take (i := 6) (v := ?_) rfl rfl (by kernel_rfl) (by kernel_rfl) (by kernel_rfl) (fun _ _ _ h => h) (Or.inl ⟨by rfl, ?_⟩) hS0 ?_
  rotate_left
  · (intro w_ hw_; go_simp; try with_reducible rfl)
  simp only [List.setIfInBounds_toArray, List.set_cons_zero, List.set_cons_succ]
  refine wpH_take (i := 7) (v := ?_) rfl rfl (by kernel_rfl) (by kernel_rfl) (by kernel_rfl) (fun _ _ _ h => h) (Or.inl ⟨by rfl, ?_⟩) hS0 ?_
  rotate_left
  · (intro w_ hw_; obtain ⟨q0, q1, q2, q3⟩ := hw_; go_simp; try with_reducible rfl)
  simp only [List.setIfInBounds_toArray, List.set_cons_zero, List.set_cons_succ]
  refine wpH_take (i := 8) (v := ?_) rfl rfl (by kernel_rfl) (by kernel_rfl) (by kernel_rfl) (fun _ _ _ h => h) (Or.inl ⟨by rfl, ?_⟩) hS0 ?_
  rotate_left
  · (intro w_ hw_; go_simp; try with_reducible rfl)
  simp only [List.setIfInBounds_toArray, List.set_cons_zero, List.set_cons_succ]
  refine wpH_take (i := 9) (v := ?_) rfl rfl (by kernel_rfl) (by kernel_rfl) (by kernel_rfl) (fun _ _ _ h => h) (Or.inl ⟨by rfl, ?_⟩) hS0 ?_
  rotate_left
  · (intro w_ hw_; go_simp; try with_reducible rfl)
  simp only [List.setIfInBounds_toArray, List.set_cons_zero, List.set_cons_succ]
  refine wpH_take (i := 10) (v := ?_) rfl rfl (by kernel_rfl) (by kernel_rfl) (by kernel_rfl) (fun _ _ _ h => h) (Or.inl ⟨by rfl, ?_⟩) hS0 ?_
  rotate_left
  · (intro w_ hw_; go_simp; try with_reducible rfl)
  simp only [List.setIfInBounds_toArray, List.set_cons_zero, List.set_cons_succ]
  refine wpH_take (i := 11) (v := ?_) rfl rfl (by kernel_rfl) (by kernel_rfl) (by kernel_rfl) (fun _ _ _ h => h) (Or.inl ⟨by rfl, ?_⟩) hS0 ?_
  rotate_left
  · (intro w_ hw_; go_simp; try with_reducible rfl)
  simp only [List.setIfInBounds_toArray, List.set_cons_zero, List.set_cons_succ]
  clear hS0
  refine wpAnyH_done (by kernel_rfl) ?_ _

  go_wp2_with fail
  refine (light_any A1 l1 n1 c1 _ v0 H1.out (R1.out.below HB0.out)).mono ?_
  rintro e w2 ⟨rfl, rfl⟩
  obtain ⟨b1, hb1⟩ : ∃ b, b = lightB l1 := ⟨_, rfl⟩
  rw [← hb1]
  have HL1 := Lib.hid hb1
  clear hb1
  cases b1 with
  | false =>
    go_wp2
    go_ret
    exact ⟨rfl, HB0.out⟩
  | true =>
  go_wp2_with fail
  refine (light_any A2 l2 n2 c2 _ w2 H2.out (R2.out.below HB0.out)).mono ?_
  rintro e w3 ⟨rfl, rfl⟩
  obtain ⟨b2, hb2⟩ : ∃ b, b = lightB l2 := ⟨_, rfl⟩
  rw [← hb2]
  have HL2 := Lib.hid hb2
  clear hb2
  cases b2 with
  | false =>
    go_wp2
    go_ret
    exact ⟨rfl, HB0.out⟩
  | true =>
  by_cases h60 : (60 : Int) < n3
  · go_wp2
    go_ret
    exact ⟨rfl, HB0.out⟩
  have HN1 := Lib.hid (show n1 ≤ 40 by have h := of_decide_eq_true HL1.out.symm; have := H1.out; omega)
  have HN2 := Lib.hid (show n2 ≤ 40 by have h := of_decide_eq_true HL2.out.symm; have := H2.out; omega)
  go_wp2_with fail
  refine (New_dk w 6 64 (fun _ _ => trivial) HB0.out (by decide) (by decide) (by decide) (by decide)).mono ?_
  rintro e w4 ⟨b, m, rfl, hk, -⟩
  have HK := Lib.hid (show ∃ vl, Dk w w4 b m vl (runs (Dsk.new 6 64) (l1.take 0)) from ⟨_, hk⟩)
  clear hk h60
  go_wp2
  go_loopw [8] (fun i wr => ∃ k : Nat, k ≤ n1 ∧ i = .int .i64 k ∧ Hid (∃ vl, Dk w wr b m vl (runs (Dsk.new 6 64) (l1.take k)))) (fun i _ => n1 - (intOf i).toNat)
  case atStart => exact ⟨0, by omega, rfl, HK⟩
  case round =>
    clear HK
    obtain ⟨k, hk, rfl, HKK⟩ := hrel
    by_cases hlt : k < n1
    · obtain ⟨vl, hk0⟩ := HKK.out
      have HK := Lib.hid hk0
      clear hk0 HKK
      have hkl : k < l1.length := by rw [H1.out]; exact hlt
      obtain ⟨p, e, _, hat, hB, FA, fc, h0, h1, h2, h3, h4, hfc, hfi, hfa⟩ := (R1.out.below HK.out.low).get hkl
      cases e
      obtain ⟨x, hx⟩ : ∃ x, x = l1[k] := ⟨_, rfl⟩
      rw [← hx] at hat hB h0 h1 h2 h3 h4 hfc hfi hfa
      have HX := Lib.hid hx
      clear hx
      have hdid := did_dk HK.out x hB hat FA fc x.fates.length rfl (by have := new_runs_loose 6 64 l1 k; have := HN1.out; omega) hfc hfi hfa
      have HDID := Lib.hid hdid
      obtain ⟨kind, xat, len, B, fates⟩ := x
      simp only at h0 h1 h2 h3 h4 HDID
      generalize fates.length = fn at h4 HDID
      clear hdid hat hB hfc hfi hfa

      go_wp2_with fail
      refine HDID.out.mono ?_
      rintro e w5 ⟨rfl, vl', hk5, -⟩
      have HK := Lib.hid (show ∃ vl, Dk w w5 b m vl (runs (Dsk.new 6 64) (l1.take (k + 1))) from ⟨vl', by rw [runs_succ _ _ _ hkl, ← HX.out]; exact hk5⟩)
      clear hk5 HX HDID h0 h1 h2 h3 h4
      have hkb : (k : Int) ≤ 40 := by have := HN1.out; omega
      go_wp2
      go_round
      case rel => exact ⟨k + 1, by omega, val_int (by simp), HK⟩
      case measure => simp only [intOf]; omega
    · have hke : k = n1 := by omega
      subst hke
      obtain ⟨vl, hk0⟩ := HKK.out
      obtain ⟨D, hD⟩ : ∃ D, D = runs (Dsk.new 6 64) (l1.take k) := ⟨_, rfl⟩
      rw [← hD] at hk0
      have HK := Lib.hid hk0
      have HS := Lib.hid (show D.sectors = 6 ∧ D.size = 64 by rw [hD]; exact runs_sectors _ _)
      have HDL := Lib.hid (show D.loose.length ≤ 40 by rw [hD]; have := new_runs_loose 6 64 l1 k; have := HN1.out; omega)
      obtain ⟨a, ha⟩ : ∃ a : Int, a = (at_ : Int) % 6 := ⟨_, rfl⟩
      have hrem : (wrap64 (at_ : Int)).tmod 6 = a := by rw [ha, show wrap64 (at_ : Int) = at_ by have := HAT.out; unfold wrap64; omega]; exact Int.tmod_eq_emod_of_nonneg (by omega)
      have HA := Lib.hid (show 0 ≤ a ∧ a < 6 by omega)
      clear hk0 HKK hk hlt hD ha
      go_wp2_with fail
      refine (Flush_dk HK.out (by have := HDL.out; omega)).mono ?_
      rintro e w5 ⟨rfl, vl5, hk5, -⟩
      obtain ⟨z, hz⟩ : ∃ z, z = D.flushErr := ⟨_, rfl⟩
      rw [← hz]
      have HK5 := Lib.hid hk5
      clear hk5 HK
      by_cases hz0 : z = 0
      · subst hz0
        have hfs := flush_stays hz.symm a
        have hfsec := Dsk.flush_sectors (d := D)
        obtain ⟨E, hE⟩ : ∃ E, E = D.flush := ⟨_, rfl⟩
        rw [← hE] at hfs hfsec
        have HK := Lib.hid (show Dk w w5 b m vl5 E by rw [hE]; exact HK5.out)
        have HST := Lib.hid hfs.1
        have HRD := Lib.hid (ready_ok hfs.2 HA.out.1 (show a < (E.sectors : Int) by have := HA.out; have := HS.out; omega))
        have HE := Lib.hid (show E.sectors = 6 ∧ E.size = 64 from ⟨hfsec.1.trans HS.out.1, hfsec.2.trans HS.out.2⟩)
        have HEL := Lib.hid (show E.loose.length ≤ 40 by rw [hE]; have := Dsk.flush_loose (d := D); have := HDL.out; omega)
        obtain ⟨X, hX⟩ : ∃ X, X = E.tells a := ⟨_, rfl⟩
        have HX := Lib.hid hX
        clear hfs hfsec hE hz HK5 hX
        go_wp2_with fail
        refine (Read_dk HK.out a (by have := HEL.out; omega) HRD.out).mono ?_
        rintro e w6 ⟨g, c, rfl, ho, hk6, -⟩
        rw [HE.out.2] at ho ⊢
        rw [← HX.out] at ho
        have HKK := Lib.hid (show ∃ vl, Dk w w6 b m vl (skips a E (l2.take 0)) ∧ Byt w6 (.slice (some ⟨g, 0, none⟩) 64 c) X from ⟨_, hk6, Byt.of_own' ho⟩)
        clear hk6 ho HK
        go_wp2
        go_loopw [12] (fun i wr => ∃ k : Nat, k ≤ n2 ∧ i = .int .i64 k ∧ Hid (∃ vl, Dk w wr b m vl (skips a E (l2.take k)) ∧ Byt wr (.slice (some ⟨g, 0, none⟩) 64 c) X)) (fun i _ => n2 - (intOf i).toNat)
        case atStart => exact ⟨0, by omega, rfl, HKK⟩
        case round =>
          clear HKK
          obtain ⟨k, hk, rfl, HKK⟩ := hrel
          by_cases hlt : k < n2
          · obtain ⟨vl, hk0, hby0⟩ := HKK.out
            have HK := Lib.hid hk0
            have HBY := Lib.hid hby0
            clear hk0 HKK hby0
            have HSK := Lib.hid (show (skips a E (l2.take k)).loose.length ≤ 1000000000 by have := skips_loose a E (l2.take k); rw [List.length_take] at this; have := HEL.out; have := HN2.out; omega)
            have hkl : k < l2.length := by rw [H2.out]; exact hlt
            obtain ⟨p, e, _, hat, hB, FA, fc, h0, h1, h2, h3, h4, hfc, hfi, hfa⟩ := (R2.out.below HK.out.low).get hkl
            cases e
            obtain ⟨x, hx⟩ : ∃ x, x = l2[k] := ⟨_, rfl⟩
            rw [← hx] at hat hB h0 h1 h2 h3 h4 hfc hfi hfa
            have HX2 := Lib.hid hx
            clear hx
            have hdid := did_dk HK.out x hB hat FA fc x.fates.length rfl (by exact HSK.out) hfc hfi hfa
            have HDID := Lib.hid hdid
            obtain ⟨kind, xat, len, B, fates⟩ := x
            simp only at h0 h1 h2 h3 h4 HDID
            generalize fates.length = fn at h4 HDID
            clear hdid hat hB hfc hfi hfa

            have hkb : (k : Int) ≤ 40 := by have := HN2.out; omega
            by_cases hxa : xat = a
            · have HKK := Lib.hid (show ∃ vl, Dk w wr b m vl (skips a E (l2.take (k + 1))) ∧ Byt wr (.slice (some ⟨g, 0, none⟩) 64 c) X from ⟨vl, by rw [skips_succ _ _ _ _ hkl, ← HX2.out]; unfold skip; rw [if_pos hxa]; exact HK.out, HBY.out⟩)
              clear HX2 HDID HK HBY
              go_wp2
              go_round
              case rel => exact ⟨k + 1, by omega, val_int (by simp), HKK⟩
              case measure => simp only [intOf]; omega
            · have hxn : (xat == a) = false := by simpa using hxa
              have HXA := Lib.hid hxa
              clear hxa
              go_wp2_with fail
              refine HDID.out.mono ?_
              rintro e w7 ⟨rfl, vl', hk7, hs7⟩
              have HKK := Lib.hid (show ∃ vl, Dk w w7 b m vl (skips a E (l2.take (k + 1))) ∧ Byt w7 (.slice (some ⟨g, 0, none⟩) 64 c) X from ⟨vl', by rw [skips_succ _ _ _ _ hkl, ← HX2.out]; unfold skip; rw [if_neg HXA.out]; exact hk7, hs7.byt HBY.out⟩)
              clear hk7 hs7 HX2 HDID h0 h1 h2 h3 h4 HK HBY
              go_wp2
              go_round
              case rel => exact ⟨k + 1, by omega, val_int (by simp), HKK⟩
              case measure => simp only [intOf]; omega
          · have hke : k = n2 := by omega
            subst hke
            obtain ⟨vl, hk0, hby0⟩ := HKK.out
            have HBY := Lib.hid hby0
            obtain ⟨G, hG⟩ : ∃ G, G = skips a E (l2.take k) := ⟨_, rfl⟩
            rw [← hG] at hk0
            have HK := Lib.hid hk0
            have HGT := Lib.hid (show (G.crash fs).tells a = X by rw [hG, HX.out]; exact (HST.out.skips _ _).crash fs)
            have HGS := Lib.hid (show G.sectors = 6 ∧ G.size = 64 by rw [hG]; exact ⟨(skips_sectors a E _).1.trans HE.out.1, (skips_sectors a E _).2.trans HE.out.2⟩)
            have HGL := Lib.hid (show G.loose.length ≤ 1000000000 by rw [hG]; have := skips_loose a E (l2.take k); rw [List.length_take] at this; have := HEL.out; have := HN2.out; omega)
            clear hk0 hby0 HKK hG hk hlt
            go_wp2_with fail
            refine (Crash_dk HK.out fs A3 c3 n3 H3.out.1 HGL.out H3.out.2 (R3.out.1.below HK.out.low R3.out.2) (fun hn p hp => ⟨Nat.lt_of_lt_of_le (R3.out.2 hn p hp) HK.out.low.size, fun hm => by have h1 := R3.out.2 hn p hp; have h2 := HK.out.lo _ hm; omega⟩)).mono ?_
            rintro e w8 ⟨rfl, vl8, hk8, hs8⟩
            have HK8 := Lib.hid hk8
            have HBY8 := Lib.hid (hs8.byt HBY.out)
            clear hk8 hs8 HK HBY
            go_wp2_with fail
            refine (Read_dk HK8.out a (by show (0 : Nat) ≤ _; omega) (ready_ok rfl HA.out.1 (by have := HA.out; have h := HGS.out.1; show a < ((G.sectors : Nat) : Int); omega))).mono ?_
            rintro e w9 ⟨g9, c9, rfl, ho9, hk9, hb9⟩
            rw [show (G.crash fs).size = 64 from HGS.out.2] at ho9 ⊢
            rw [HGT.out] at ho9
            have hs1 := (HBY8.out.grew hb9).strv
            have hs2 := (Byt.of_own' ho9).strv
            have HK9 := Lib.hid hk9
            clear ho9 hk9 hb9
            go_wp2_with fail
            refine (awake_any _).mono ?_
            rintro e w10 ⟨rfl, hb10⟩
            have HLast := Lib.hid (grow HK9.out.low hb10)
            clear hb10 hs1 hs2
            go_wp2
            go_ret
            exact ⟨rfl, HLast.out⟩
      · have hff := flush_falls (D := D) (by rw [← hz]; exact hz0)
        have hz4 : z = 4 := hz.trans hff.2
        subst hz4
        have HK := Lib.hid HK5.out
        have HFD := Lib.hid hff.1
        clear hff hz hz0 HK5
        go_wp2_with fail
        refine (Down_any HK.out.disk).mono ?_
        rintro e w6 ⟨rfl, hw⟩
        subst hw
        rw [HFD.out]
        go_wp2_with fail
        refine (awake_any _).mono ?_
        rintro e w10 ⟨rfl, hb10⟩
        have HLast := Lib.hid (grow HK.out.low hb10)
        clear hb10
        go_wp2
        go_ret
        exact ⟨rfl, HLast.out⟩
end Go.Proofs.Ytapllljbbldfkaa
