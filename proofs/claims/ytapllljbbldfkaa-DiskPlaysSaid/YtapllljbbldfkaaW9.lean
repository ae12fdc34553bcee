/- Walks: an act done. -/
import Derived.Test.YtapllljbbldfkaaW8
namespace Go.Proofs.Ytapllljbbldfkaa
open Go.RowKit Go.Maps
variable {ι : Type} [Bar ι]

theorem bytes_any (kind at_ len : Int) (B size : Nat) (A : Option Addr) (fn fc : Nat) (w : World) (hB : B < 256) (hn : (size : Int) ≤ 5000) :
    Calls Try.prog 23 #[.agg #[.int .i64 kind, .int .i64 at_, .int .i64 len, .int .u8 B, .slice A fn fc], .int .i64 size] w fun e w' => ∃ v, e = .returned v ∧
      ∃ g, v = .slice (some ⟨g, 0, none⟩) (actLen len size) (actLen len size) ∧ Own w' w.heap.size (.slice (some ⟨g, 0, none⟩) (actLen len size) (actLen len size)) (actBytes len B size) ∧ Below w.heap.size w w' ∧ w.heap.size ≤ g := by
  have hl : (actLen len size : Int) ≤ 5000 := by unfold actLen; split <;> omega
  refine (bytes_mid kind at_ len B (actLen len size) A fn fc size w hB hl ?_).mono ?_
  · unfold actLen
    by_cases h1 : len < 0
    · exact .inl ⟨h1, by rw [if_pos (.inl h1)]⟩
    · by_cases h2 : 5000 < len
      · exact .inr (.inl ⟨h1, h2, by rw [if_pos (.inr h2)]⟩)
      · exact .inr (.inr ⟨h1, h2, by rw [if_neg (by omega)]; omega⟩)
  · rintro e w' ⟨g, rfl, h⟩
    exact ⟨_, rfl, g, rfl, h⟩

theorem Byt.of_own' {w : World} {base : Nat} {p : Addr} {n c : Nat} {l : List Nat} (h : Own w base (.slice (some p) n c) l) : Byt w (.slice (some p) n c) l := by
  refine ⟨h.1, ?_⟩
  rcases h.2.2 with ⟨e, h0⟩ | ⟨g, cap, cur, e, hb, hg, hnc, _⟩
  · cases e
  · exact ⟨_, _, e, hnc, ⟨_, _, hg⟩, fun k hk => World.ownsRow.cells h.2 (g := g) (by rw [e]; rfl) k _ (cells_get hk)⟩

theorem Write_v {args : Array Value} {z : Value} {w : World} {R : World → Prop} (h : Calls Try.prog 24 args w fun e w' => e = .returned z ∧ R w') : Calls Try.prog 24 args w fun e w' => ∃ v, e = .returned v ∧ R w' := by
  refine h.mono ?_
  rintro e w' ⟨rfl, h⟩
  exact ⟨_, rfl, h⟩

def Dsk.did (D : Dsk) (k at_ len : Int) (B : Nat) (fs : List Int) : Dsk :=
  if k = 3 then D.flush else if k = 4 then D else if k = 5 then D.arm at_ else if k = 6 then D.crash fs else D.put at_ (actBytes len B D.size)

section
variable {b m : Nat} {vl : Value} {D : Dsk} {w : World}
set_option maxHeartbeats 8000000 in
theorem did_road (kind k at_ len : Int) (B : Nat) (fs : List Int) (A : Option Addr) (fc : Nat) (hk : (kind.tmod 7 + 7).tmod 7 = k) (hB : B < 256) (hat : -9223372036854775808 ≤ at_ ∧ at_ ≤ 9223372036854775807)
    (h : DiskAt w b m vl D) (hL : D.loose.length ≤ 1000000000) (hcf : fs.length ≤ fc) (hf : IRd w A fs) (ha : fs ≠ [] → ∀ p, A = some p → p.block < w.heap.size ∧ p.block ∉ own b m vl) :
    Calls Try.prog 9 #[.pointer (some ⟨b, 0, none⟩), .agg #[.int .i64 kind, .int .i64 at_, .int .i64 len, .int .u8 B, .slice A fs.length fc]] w fun e w' => e = .returned (.tuple #[]) ∧
      ∃ vl', DiskAt w' b m vl' (D.did k at_ len B fs) ∧ Turn (own b m vl) w w' ∧ ∀ g, vl'.ownBlock = some g → vl.ownBlock = some g ∨ w.heap.size ≤ g := by
  have t1 := Int.tmod_lt_of_pos kind (show (0 : Int) < 7 by omega)
  have t2 := Int.lt_tmod_of_pos kind (show (0 : Int) < 7 by omega)
  obtain ⟨D', hD'⟩ : ∃ D', D' = D.did k at_ len B fs := ⟨_, rfl⟩
  rw [← hD']
  unfold Dsk.did at hD'
  have HD' := Lib.hid hD'
  have HB' := Lib.hid hB
  have HBB := HB'
  have HL := Lib.hid hL
  have HZ := Lib.hid (show (D.size : Int) ≤ 4096 by have := h.ok.z2; omega)
  obtain ⟨K, hK⟩ : ∃ K, K = w.heap.size := ⟨_, rfl⟩
  obtain ⟨fn, hfn⟩ : ∃ fn, fn = fs.length := ⟨_, rfl⟩
  rw [← hfn] at hcf ⊢
  have hX : ∀ w1, w1 = w.alloc (.cells #[.int .i64 kind, .int .i64 at_, .int .i64 len, .int .u8 B, .slice A fn fc] 31) → DiskAt w1 b m vl D ∧ Blk w1 K #[.int .i64 kind, .int .i64 at_, .int .i64 len, .int .u8 B, .slice A fn fc] 31 ∧ Below w.heap.size w w1 ∧ IRd w1 A fs := by
    rintro w1 rfl
    have hg := (Below.refl w.heap.size w).alloc (Nat.le_refl _) (.cells #[.int .i64 kind, .int .i64 at_, .int .i64 len, .int .u8 B, .slice A fn fc] 31)
    exact ⟨h.grew hg, Blk.new' _ _ _ hK, hg, hf.grew hg⟩
  have HLOW := Lib.hid h.lt
  have HKL := Lib.hid (show w.heap.size ≤ K by omega)
  have HK0 := Lib.hid hK
  have HX := Lib.hid hX
  have HA := Lib.hid (And.intro hcf (And.intro ha hfn))
  have HAT := Lib.hid hat
  clear hX h hf ha hcf hB hD' hL hK hat hfn
  obtain ⟨w1, hw1⟩ : ∃ w1, w1 = w.alloc (.cells #[.int .i64 kind, .int .i64 at_, .int .i64 len, .int .u8 B, .slice A fn fc] 31) := ⟨_, rfl⟩
  obtain ⟨X1, X2, X3, X4⟩ := HX.out _ hw1
  have HW1 := Lib.hid hw1
  have HD := Lib.hid X1
  have HK := Lib.hid X2
  have HB := Lib.hid X3
  have HI := Lib.hid X4
  have c0 := X2.cell 0
  clear HX X1 X2 X3 X4 hw1
  by_cases h3 : k = 3
  · subst h3
    go_enter Try.func9, Try.ntmps9
    go_wp2_with fail
    rw [← HW1.out]
    refine (Flush_any b m vl D w1 HD.out HL.out).mono ?_
    rintro e w2 ⟨rfl, vl', hd, ht, hg⟩
    have HE := Lib.hid (show ∃ vl', DiskAt w2 b m vl' D' ∧ Turn (own b m vl) w w2 ∧ ∀ g, vl'.ownBlock = some g → vl.ownBlock = some g ∨ w.heap.size ≤ g from ⟨vl', by rw [HD'.out, if_pos trivial]; exact hd, (Turn.of_below HB.out _).trans ht (fun _ h _ => h), fun g h => .inl (hg g h)⟩)
    clear hd ht hg
    go_wp2
    go_end0
    exact ⟨rfl, HE.out⟩
  by_cases h4 : k = 4
  · subst h4
    go_enter Try.func9, Try.ntmps9
    go_wp2_with fail
    rw [← HW1.out]
    refine (Read_any at_ HD.out HL.out).mono ?_
    rintro e w2 ⟨v, rfl, _, hb⟩
    have HE := Lib.hid (show ∃ vl', DiskAt w2 b m vl' D' ∧ Turn (own b m vl) w w2 ∧ ∀ g, vl'.ownBlock = some g → vl.ownBlock = some g ∨ w.heap.size ≤ g from ⟨vl, by rw [HD'.out, if_neg (by decide), if_pos trivial]; exact HD.out.grew hb, Turn.of_below (grow HB.out hb) _, fun g h => .inl h⟩)
    clear hb
    go_wp2
    go_end0
    exact ⟨rfl, HE.out⟩
  by_cases h5 : k = 5
  · subst h5
    have c1 := HK.out.cell 1
    go_enter Try.func9, Try.ntmps9
    go_wp2_with fail
    rw [← HW1.out]
    refine (Arm_any at_ HAT.out.2 HD.out).mono ?_
    rintro e w2 ⟨rfl, hd, ht⟩
    have HE := Lib.hid (show ∃ vl', DiskAt w2 b m vl' D' ∧ Turn (own b m vl) w w2 ∧ ∀ g, vl'.ownBlock = some g → vl.ownBlock = some g ∨ w.heap.size ≤ g from ⟨vl, by rw [HD'.out, if_neg (by decide), if_neg (by decide), if_pos trivial]; exact hd, (Turn.of_below HB.out _).trans (ht.mono (fun k hk _ => mem_own.2 (.inl (by simpa using hk)))) (fun _ h _ => h), fun g h => .inl h⟩)
    clear hd ht
    go_wp2
    go_end0
    exact ⟨rfl, HE.out⟩
  by_cases h6 : k = 6
  · subst h6
    go_enter Try.func9, Try.ntmps9
    go_wp2_with fail
    rw [← HW1.out]
    rw [HA.out.2.2]
    refine (Crash_any b m vl D fs A fc w1 HD.out HL.out (by have := HA.out.1; have := HA.out.2.2; omega) HI.out (fun hn p hp => ⟨Nat.lt_of_lt_of_le (HA.out.2.1 hn p hp).1 HB.out.size, (HA.out.2.1 hn p hp).2⟩)).mono ?_
    rintro e w2 ⟨rfl, hd, ht⟩
    have HE := Lib.hid (show ∃ vl', DiskAt w2 b m vl' D' ∧ Turn (own b m vl) w w2 ∧ ∀ g, vl'.ownBlock = some g → vl.ownBlock = some g ∨ w.heap.size ≤ g from ⟨nilv, by rw [HD'.out, if_neg (by decide), if_neg (by decide), if_neg (by decide), if_pos trivial]; exact hd, (Turn.of_below HB.out _).trans ht (fun _ h _ => h), fun g h => by simp [nilv, Value.ownBlock] at h⟩)
    clear hd ht
    go_wp2
    go_end0
    exact ⟨rfl, HE.out⟩
  · have e3 : (k == 3) = false := by simpa using h3
    have e4 : (k == 4) = false := by simpa using h4
    have e5 : (k == 5) = false := by simpa using h5
    have e6 : (k == 6) = false := by simpa using h6
    have HN := Lib.hid (And.intro h3 (And.intro h4 (And.intro h5 h6)))
    clear h3 h4 h5 h6
    go_enter Try.func9, Try.ntmps9
    go_wp2_with fail
    rw [← HW1.out, ← HK0.out]
    clear HW1 c0
    refine wp_region_H (fun v => v.cell? ⟨K, 0, none⟩ = some (.int .i64 kind) ∧ v.cell? ⟨K, 1, none⟩ = some (.int .i64 at_) ∧ v.cell? ⟨K, 2, none⟩ = some (.int .i64 len) ∧ v.cell? ⟨K, 3, none⟩ = some (.int .u8 B) ∧ v.cell? ⟨K, 4, none⟩ = some (.slice A fn fc)) (by kernel_rfl) (fun v0 hv0 => ?_)
    have hS0 : (fun v => v.cell? ⟨K, 0, none⟩ = some (.int .i64 kind) ∧ v.cell? ⟨K, 1, none⟩ = some (.int .i64 at_) ∧ v.cell? ⟨K, 2, none⟩ = some (.int .i64 len) ∧ v.cell? ⟨K, 3, none⟩ = some (.int .u8 B) ∧ v.cell? ⟨K, 4, none⟩ = some (.slice A fn fc)) v0 := by subst hv0; exact ⟨HK.out.drew.cell 0, HK.out.drew.cell 1, HK.out.drew.cell 2, HK.out.drew.cell 3, HK.out.drew.cell 4⟩
    have Y0 : DiskAt v0 b m vl D ∧ Blk v0 K #[.int .i64 kind, .int .i64 at_, .int .i64 len, .int .u8 B, .slice A fn fc] 31 ∧ Below w.heap.size w v0 := by subst hv0; exact ⟨HD.out.drew, HK.out.drew, ⟨HB.out.os, HB.out.tape, HB.out.output, HB.out.size, HB.out.block⟩⟩
    clear hv0 HD HK HB
    refine wpH_take (i := 0) (v := ?_) rfl rfl (by kernel_rfl) (by kernel_rfl) (by kernel_rfl) (fun _ _ _ h => h) (Or.inl ⟨by rfl, ?_⟩) hS0 ?_
    rotate_left
    · (intro w_ hw_; go_simp; try with_reducible rfl)
    simp only [List.setIfInBounds_toArray, List.set_cons_zero, List.set_cons_succ]
    refine wpH_take (i := 1) (v := ?_) rfl rfl (by kernel_rfl) (by kernel_rfl) (by kernel_rfl) (fun _ _ _ h => h) (Or.inl ⟨by rfl, ?_⟩) hS0 ?_
    rotate_left
    · (intro w_ hw_; go_simp; try with_reducible rfl)
    simp only [List.setIfInBounds_toArray, List.set_cons_zero, List.set_cons_succ]
    refine wpH_take (i := 2) (v := ?_) rfl rfl (by kernel_rfl) (by kernel_rfl) (by kernel_rfl) (fun _ _ _ h => h) (Or.inl ⟨by rfl, ?_⟩) hS0 ?_
    rotate_left
    · (intro w_ hw_; obtain ⟨q0, q1, q2, q3, q4⟩ := hw_; go_simp; try with_reducible rfl)
    simp only [List.setIfInBounds_toArray, List.set_cons_zero, List.set_cons_succ]
    refine wpH_take (i := 3) (v := ?_) rfl rfl (by kernel_rfl) (by kernel_rfl) (by kernel_rfl) (fun _ _ _ h => h) (Or.inl ⟨by rfl, ?_⟩) hS0 ?_
    rotate_left
    · (intro w_ hw_; obtain ⟨q0, q1, q2, q3, q4⟩ := hw_; go_simp; try with_reducible rfl)
    simp only [List.setIfInBounds_toArray, List.set_cons_zero, List.set_cons_succ]
    refine wpH_take (i := 4) (v := ?_) rfl rfl (by kernel_rfl) (by kernel_rfl) (by kernel_rfl) (fun _ _ _ h => h) (Or.inl ⟨by rfl, ?_⟩) hS0 ?_
    rotate_left
    · (intro w_ hw_; go_simp; try with_reducible rfl)
    simp only [List.setIfInBounds_toArray, List.set_cons_zero, List.set_cons_succ]
    have hsz := Size_any Y0.1
    refine wpH_call (i := 5) (by kernel_rfl) rfl rfl (by rfl) (hsz) (by go_simp) (fun v1 hR => ?_)
    have hS1 : (fun v => v.cell? ⟨K, 0, none⟩ = some (.int .i64 kind) ∧ v.cell? ⟨K, 1, none⟩ = some (.int .i64 at_) ∧ v.cell? ⟨K, 2, none⟩ = some (.int .i64 len) ∧ v.cell? ⟨K, 3, none⟩ = some (.int .u8 B) ∧ v.cell? ⟨K, 4, none⟩ = some (.slice A fn fc)) v1 := ⟨(show Blk v1 K #[.int .i64 kind, .int .i64 at_, .int .i64 len, .int .u8 B, .slice A fn fc] 31 by rw [hR]; exact Y0.2.1).cell 0, (show Blk v1 K #[.int .i64 kind, .int .i64 at_, .int .i64 len, .int .u8 B, .slice A fn fc] 31 by rw [hR]; exact Y0.2.1).cell 1, (show Blk v1 K #[.int .i64 kind, .int .i64 at_, .int .i64 len, .int .u8 B, .slice A fn fc] 31 by rw [hR]; exact Y0.2.1).cell 2, (show Blk v1 K #[.int .i64 kind, .int .i64 at_, .int .i64 len, .int .u8 B, .slice A fn fc] 31 by rw [hR]; exact Y0.2.1).cell 3, (show Blk v1 K #[.int .i64 kind, .int .i64 at_, .int .i64 len, .int .u8 B, .slice A fn fc] 31 by rw [hR]; exact Y0.2.1).cell 4⟩
    clear hS0
    refine ⟨hS1, ?_⟩
    simp only [List.setIfInBounds_toArray, List.set_cons_zero, List.set_cons_succ]
    subst hR
    have hby := bytes_any kind at_ len B D.size A fn fc v1 HBB.out (by have := HZ.out; omega)
    refine wpH_callv (i := 6) (by kernel_rfl) rfl rfl (by rfl) (hby) (by go_simp) ?_
    rintro v6 v2 ⟨g, hve, ho, hb6, hg6⟩
    have hS2 : (fun v => v.cell? ⟨K, 0, none⟩ = some (.int .i64 kind) ∧ v.cell? ⟨K, 1, none⟩ = some (.int .i64 at_) ∧ v.cell? ⟨K, 2, none⟩ = some (.int .i64 len) ∧ v.cell? ⟨K, 3, none⟩ = some (.int .u8 B) ∧ v.cell? ⟨K, 4, none⟩ = some (.slice A fn fc)) v2 := by have Y1 := Y0.2.1.grew hb6; exact ⟨Y1.cell 0, Y1.cell 1, Y1.cell 2, Y1.cell 3, Y1.cell 4⟩
    clear hS1
    refine ⟨hS2, ?_⟩
    simp only [List.setIfInBounds_toArray, List.set_cons_zero, List.set_cons_succ]
    have Y2 : DiskAt v2 b m vl D ∧ Blk v2 K #[.int .i64 kind, .int .i64 at_, .int .i64 len, .int .u8 B, .slice A fn fc] 31 ∧ Below w.heap.size w v2 := ⟨Y0.1.grew hb6, Y0.2.1.grew hb6, grow Y0.2.2 hb6⟩
    subst hve
    have hbt := Byt.of_own' ho
    have hwr := Write_any at_ ⟨g, 0, none⟩ (actLen len D.size) (actLen len D.size) (actBytes len B D.size) b m vl D v2 Y2.1 hbt (actBytes_length _ _ _) HL.out
    clear hby hsz
    refine wpH_callv (i := 7) (by kernel_rfl) rfl rfl (by rfl) (Write_v hwr) (by go_simp) ?_
    rintro _ v3 ⟨vl', hd7, ht7, hg7⟩
    have hS3 : (fun v => v.cell? ⟨K, 0, none⟩ = some (.int .i64 kind) ∧ v.cell? ⟨K, 1, none⟩ = some (.int .i64 at_) ∧ v.cell? ⟨K, 2, none⟩ = some (.int .i64 len) ∧ v.cell? ⟨K, 3, none⟩ = some (.int .u8 B) ∧ v.cell? ⟨K, 4, none⟩ = some (.slice A fn fc)) v3 := by have Y3 := (ht7.block K Y2.2.1.lt (fun e => by have h1 := HLOW.out K e; have h2 := HKL.out; omega)).trans Y2.2.1; exact ⟨(show Blk v3 K #[.int .i64 kind, .int .i64 at_, .int .i64 len, .int .u8 B, .slice A fn fc] 31 from Y3).cell 0, (show Blk v3 K #[.int .i64 kind, .int .i64 at_, .int .i64 len, .int .u8 B, .slice A fn fc] 31 from Y3).cell 1, (show Blk v3 K #[.int .i64 kind, .int .i64 at_, .int .i64 len, .int .u8 B, .slice A fn fc] 31 from Y3).cell 2, (show Blk v3 K #[.int .i64 kind, .int .i64 at_, .int .i64 len, .int .u8 B, .slice A fn fc] 31 from Y3).cell 3, (show Blk v3 K #[.int .i64 kind, .int .i64 at_, .int .i64 len, .int .u8 B, .slice A fn fc] 31 from Y3).cell 4⟩
    clear hS2
    refine ⟨hS3, ?_⟩
    simp only [List.setIfInBounds_toArray, List.set_cons_zero, List.set_cons_succ]
    have HE := Lib.hid (show ∃ vl', DiskAt v3 b m vl' (D.put at_ (actBytes len B D.size)) ∧ Turn (own b m vl) w v3 ∧ ∀ g, vl'.ownBlock = some g → vl.ownBlock = some g ∨ w.heap.size ≤ g from ⟨vl', hd7, (Turn.of_below Y2.2.2 _).trans ht7 (fun _ h _ => h), fun g hg => (hg7 g hg).imp id (fun h => Nat.le_trans Y2.2.2.size h)⟩)
    clear hwr hd7 ht7 hg7 hbt ho hb6 hg6 Y0 Y2
    clear hS3
    refine wpAnyH_done (by kernel_rfl) ?_ _

    go_wp2
    go_end0
    refine ⟨rfl, ?_⟩
    rw [HD'.out, if_neg HN.out.1, if_neg HN.out.2.1, if_neg HN.out.2.2.1, if_neg HN.out.2.2.2]
    exact HE.out
end
end Go.Proofs.Ytapllljbbldfkaa
