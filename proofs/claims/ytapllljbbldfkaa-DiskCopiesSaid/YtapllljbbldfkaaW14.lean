/- Walks: Copy. -/
import Derived.Test.YtapllljbbldfkaaW10
import Derived.Shelf.SlMaps.Clone
namespace Go.Proofs.Ytapllljbbldfkaa
open Go.RowKit Go.Maps Go.Shelf
variable {ι : Type} [Bar ι]

set_option maxHeartbeats 2000000 in
theorem CloneM_any {w : World} {m s z : Nat} {f : Int → List Nat} (h : Fast w m s z f) :
    Calls Try.prog 37 #[.map (some m)] w fun e w' => ∃ v, e = .returned v ∧ ∃ m2, v = .map (some m2) ∧ Fast w' m2 s z f ∧ w.heap.size ≤ m2 ∧ Below w.heap.size w w' := by
  obtain ⟨es, clock, hb⟩ := h.kind
  have hq := fun w => run_eql_map_nil_sl (P := Try.prog) w 61 _ _ (some m) Try.underlying61
  have HF := Lib.hid h
  have HBl := Lib.hid hb
  clear h
  go_enter Try.func37, Try.ntmps37
  go_wp2
  rw [run_callFunc_extern Try.func40 (by kernel_rfl) (by kernel_rfl) (by kernel_rfl) (e := Extern.MapsClone.clone) (by kernel_rfl), run_maps_clone_sl w 61 hb]
  simp only [Result.andThen]
  rw [Oper.upon_value]
  go_wp2
  rw [run_typeAssert_map_sl _ 61 20 _ _ _ Try.underlying61]
  simp only [Result.andThen]
  rw [Oper.upon_value]
  go_wp2
  go_ret
  have hg : Below w.heap.size w (w.alloc (.map es clock)) := (Below.refl _ w).alloc (Nat.le_refl _) _
  refine ⟨_, rfl, _, rfl, ?_, Nat.le_refl _, hg⟩
  obtain ⟨n, E, ho, h1, h2, h3⟩ := HF.out
  obtain ⟨es', clock', hb', F, hs, rfl⟩ := ho
  rw [HBl.out] at hb'
  cases hb'
  refine ⟨n, _, ⟨es, clock, World.alloc_heap_new w _, F, hs, rfl⟩, h1, h2, fun x v hv => ?_⟩
  have := h3 x v hv
  split
  · rename_i hh; rw [if_pos hh] at this; exact this.grew hg
  · rename_i hh; rw [if_neg hh] at this; exact this

theorem wcells_one (vs : List (Int × Value)) (h : ∀ e ∈ vs, e.2.oneCell' = true) : ∀ u ∈ wcells vs, u.oneCell' = true := by
  intro u hu
  unfold wcells at hu
  obtain ⟨e, he, hu⟩ := List.mem_flatMap.1 hu
  simp at hu
  rcases hu with rfl | rfl
  · rfl
  · exact h e he

theorem wclone {w : World} {g n cap : Nat} {L : List (Int × List Nat)} (h : Loose w (.slice (some ⟨g, 0, none⟩) n cap) L) (hL : L.length ≤ 1000000000) :
    ∃ vl' w', (Builtin.append_ #[62, 62] 62 #[.slice (some ⟨w.heap.size, 0, none⟩) 0 0, .slice (some ⟨g, 0, none⟩) n cap]).run Try.prog (w.alloc (.cells #[] 68)) = .ok vl' w' ∧ Loose w' vl' L ∧ (∀ g, vl'.ownBlock = some g → w.heap.size ≤ g) ∧ Below w.heap.size w w' := by
  obtain ⟨i, hi, hz, hs, hby⟩ := info_parts write_row
  obtain ⟨vs, h1, ho, h2⟩ := id h
  have hn : n = L.length := by
    obtain ⟨A, c, e, _⟩ := h.form
    injection e with _ e _
  have hg : Below w.heap.size w (w.alloc (.cells #[] 68)) := (Below.refl _ w).alloc (Nat.le_refl _) _
  have hown : (w.alloc (.cells #[] 68)).ownsRow w.heap.size 68 2 (.slice (some ⟨w.heap.size, 0, none⟩) 0 0) 0 [] :=
    ⟨rfl, .inr ⟨w.heap.size, 0, #[], rfl, Nat.le_refl _, World.alloc_heap_new w _, Nat.le_refl _, by simp [maxLen], by simp, by simp⟩⟩
  have hcells : ∀ j u, (wcells vs)[j]? = some u → (w.alloc (.cells #[] 68)).cell? ((⟨g, 0, none⟩ : Addr).add j) = some u := fun j u hu => by
    have h3 := World.ownsRow.cells ho (g := g) rfl j u hu
    rw [← h3]
    exact hg.cell (p := (⟨g, 0, none⟩ : Addr).add j) (by rw [add_block]; exact World.block_lt_of_cell? w _ h3 |> fun k => by rwa [add_block] at k)
  have hone : ∀ u ∈ wcells vs, u.oneCell' = true := wcells_one vs (fun e he => by
    obtain ⟨j, hj, rfl⟩ := List.mem_iff_getElem.1 he
    obtain ⟨v, e2, hb⟩ := h2 j (by omega)
    rw [List.getElem?_eq_getElem hj] at e2
    obtain ⟨p, c, e3, _, _⟩ := hb.1.rd
    injection e2 with e2
    rw [e2]
    show v.oneCell' = true
    rw [e3]; rfl)
  obtain ⟨v', w', hrun, ho', hgr, hloc, _⟩ := run_append_own_at (P := Try.prog) (w.alloc (.cells #[] 68)) w.heap.size 62 62 68 i _ 2 32 Try.underlying62 hi hz hs hby rfl (by omega) _ 0 [] hown ⟨g, 0, none⟩ n cap (wcells vs)
    (by rw [wcells_length, h1, hn]) hcells hone (by simp only [maxLen]; omega) (by omega) (by simp)
  have hb := hg.trans ((Below.refl w.heap.size (w.alloc (.cells #[] 68))).grown hgr (by simp) (fun k e => by simp [Value.ownBlock] at e; omega))
  refine ⟨v', w', hrun, ⟨vs, h1, ?_, fun k hk => ?_⟩, fun g' e => (ho'.lt g' e).1, hb⟩
  · have hz : 0 + n = L.length := by omega
    rw [hz, List.nil_append] at ho'
    exact Own.base_ (Nat.zero_le _) ho'
  · obtain ⟨v, e, hbv⟩ := h2 k hk
    exact ⟨v, e, hbv.grew hb⟩

set_option maxHeartbeats 2000000 in
theorem CloneW_any {w : World} {vl : Value} {L : List (Int × List Nat)} (h : Loose w vl L) (hL : L.length ≤ 1000000000) :
    Calls Try.prog 38 #[vl] w fun e w' => ∃ vl', e = .returned vl' ∧ Loose w' vl' L ∧ (∀ g, vl'.ownBlock = some g → w.heap.size ≤ g) ∧ Below w.heap.size w w' := by
  have h' := h
  obtain ⟨vs, h1, ho, h2⟩ := h'
  rcases ho.2 with ⟨rfl, h0⟩ | ⟨g, cap, cur, rfl, _⟩
  · have hl : L = [] := List.eq_nil_of_length_eq_zero h0
    subst hl
    clear h h1 ho h2 hL h0
    have kn : ∀ w : World, (binOp .eql 62 (.slice none 0 0) (.slice none 0 0)).run Try.prog w = .ok (.bool true) w := fun w => by
      have := run_equal_slice_nil (P := Try.prog) (w := w) 62 68 none 0 0 Try.underlying62
      simp only [binOp, Sem.run_bind, this]; rfl
    go_enter Try.func38, Try.ntmps38
    go_wp2
    go_ret
    exact ⟨_, rfl, Loose.nil _, fun g hg => by simp [Value.ownBlock] at hg, Below.refl _ _⟩
  · obtain ⟨n, hn⟩ : ∃ n, n = L.length := ⟨_, rfl⟩
    rw [← hn] at h ⊢
    obtain ⟨v', w', hrun, r1, r2, r3⟩ := wclone h hL
    have RUN := Lib.hid hrun
    have HR := Lib.hid (And.intro r1 (And.intro r2 r3))
    have kn : ∀ w : World, (binOp .eql 62 (.slice (some ⟨g, 0, none⟩) n cap) (.slice none 0 0)).run Try.prog w = .ok (.bool false) w := fun w => by
      have := run_equal_slice_nil (P := Try.prog) (w := w) 62 68 (some ⟨g, 0, none⟩) n cap Try.underlying62
      simp only [binOp, Sem.run_bind, this]; rfl
    clear h h1 ho h2 hL hrun r1 r2 r3 hn
    go_enter Try.func38, Try.ntmps38
    go_wp2_with (at_builtin; refine Lib.wpList_append_run _ rfl (.tmp 5) (.tmp 6) 62 62 rfl _ _ rfl rfl _ w' RUN.out ?_)
    go_ret
    exact ⟨_, rfl, HR.out⟩

set_option maxHeartbeats 4000000 in
theorem Copy_any {b m : Nat} {vl : Value} {D : Dsk} {w : World} (h : DiskAt w b m vl D) (hL : D.loose.length ≤ 1000000000) :
    Calls Try.prog 27 #[.pointer (some ⟨b, 0, none⟩)] w fun e w' => ∃ b2 m2 vl2, e = .returned (.pointer (some ⟨b2, 0, none⟩)) ∧ DiskAt w' b2 m2 vl2 D ∧ Below w.heap.size w w' ∧ ∀ k ∈ own b2 m2 vl2, w.heap.size ≤ k := by
  obtain ⟨C, hC⟩ : ∃ C, C = w.heap.size := ⟨_, rfl⟩
  obtain ⟨A, c, rfl, _, _⟩ := h.loose.form
  obtain ⟨vl, hvl⟩ : ∃ vl : Value, vl = .slice A D.loose.length c := ⟨_, rfl⟩
  obtain ⟨w1, hw1⟩ : ∃ w1, w1 = w.alloc (.cells #[.int .i64 D.sectors, .int .i64 D.size, .map (some m), vl, .int .i64 D.armed, .bool D.down] 64) := ⟨_, rfl⟩
  have hg : Below w.heap.size w w1 := by subst hw1; exact (Below.refl _ w).alloc (Nat.le_refl _) _
  have HD := Lib.hid (show DiskAt w1 b m vl D by rw [hvl]; exact h.grew hg)
  have HC := Lib.hid (show Blk w1 C #[.int .i64 D.sectors, .int .i64 D.size, .map (some m), vl, .int .i64 D.armed, .bool D.down] 64 by subst hw1; exact Blk.new' _ _ _ hC)
  have HB := Lib.hid hg
  have HL := Lib.hid hL
  have HBC := Lib.hid (show b < C ∧ C = w.heap.size from ⟨by rw [hC]; exact h.blk.lt, hC⟩)
  have HOK := Lib.hid h.ok
  have HW1 := Lib.hid hw1
  have HVL := Lib.hid hvl
  obtain ⟨c0, c1, c2, c3, c4, c5, f3, f4, f5⟩ := h.six
  clear h hg hL hw1 f3 f4 f5 hC hvl
  go_enter Try.func27, Try.ntmps27
  go_wp2_with fail
  rw [← HVL.out, ← HW1.out, ← HBC.out.2]
  clear c0 c1 c2 c3 c4 c5 HW1
  refine wp_region_H (fun v => v.cell? ⟨b, 2, none⟩ = some (.map (some m)) ∧ v.cell? ⟨b, 3, none⟩ = some vl) (by kernel_rfl) (fun v0 hv0 => ?_)
  have hS0 : (fun v => v.cell? ⟨b, 2, none⟩ = some (.map (some m)) ∧ v.cell? ⟨b, 3, none⟩ = some vl) v0 := by subst hv0; exact ⟨HD.out.six.2.2.1, HD.out.six.2.2.2.1⟩
  have Y0 : DiskAt v0 b m vl D ∧ Blk v0 C #[.int .i64 D.sectors, .int .i64 D.size, .map (some m), vl, .int .i64 D.armed, .bool D.down] 64 ∧ Below w.heap.size w v0 := by subst hv0; exact ⟨HD.out.drew, HC.out.drew, ⟨HB.out.os, HB.out.tape, HB.out.output, HB.out.size, HB.out.block⟩⟩
  clear hv0 HD HC HB
  refine wpH_take (i := 0) (v := ?_) rfl rfl (by kernel_rfl) (by kernel_rfl) (by kernel_rfl) (fun _ _ _ h => h) (Or.inl ⟨by rfl, ?_⟩) hS0 ?_
  rotate_left
  · (intro w_ hw_; go_simp; try with_reducible rfl)
  simp only [List.setIfInBounds_toArray, List.set_cons_zero, List.set_cons_succ]
  refine wpH_take (i := 1) (v := ?_) rfl rfl (by kernel_rfl) (by kernel_rfl) (by kernel_rfl) (fun _ _ _ h => h) (Or.inl ⟨by rfl, ?_⟩) hS0 ?_
  rotate_left
  · (intro w_ hw_; obtain ⟨q0, q1⟩ := hw_; go_simp; try with_reducible rfl)
  simp only [List.setIfInBounds_toArray, List.set_cons_zero, List.set_cons_succ]
  refine wpH_take (i := 2) (v := ?_) rfl rfl (by kernel_rfl) (by kernel_rfl) (by kernel_rfl) (fun _ _ _ h => h) (Or.inl ⟨by rfl, ?_⟩) hS0 ?_
  rotate_left
  · (intro w_ hw_; go_simp; try with_reducible rfl)
  simp only [List.setIfInBounds_toArray, List.set_cons_zero, List.set_cons_succ]
  refine wpH_take (i := 3) (v := ?_) rfl rfl (by kernel_rfl) (by kernel_rfl) (by kernel_rfl) (fun _ _ _ h => h) (Or.inl ⟨by rfl, ?_⟩) hS0 ?_
  rotate_left
  · (intro w_ hw_; obtain ⟨q0, q1⟩ := hw_; go_simp; try with_reducible rfl)
  simp only [List.setIfInBounds_toArray, List.set_cons_zero, List.set_cons_succ]
  refine wpH_take (i := 5) (v := ?_) rfl rfl (by kernel_rfl) (by kernel_rfl) (by kernel_rfl) (fun _ _ _ h => h) (Or.inl ⟨by rfl, ?_⟩) hS0 ?_
  rotate_left
  · (intro w_ hw_; go_simp; try with_reducible rfl)
  simp only [List.setIfInBounds_toArray, List.set_cons_zero, List.set_cons_succ]
  refine wpH_take (i := 6) (v := ?_) rfl rfl (by kernel_rfl) (by kernel_rfl) (by kernel_rfl) (fun _ _ _ h => h) (Or.inl ⟨by rfl, ?_⟩) hS0 ?_
  rotate_left
  · (intro w_ hw_; obtain ⟨q0, q1⟩ := hw_; go_simp; try with_reducible rfl)
  simp only [List.setIfInBounds_toArray, List.set_cons_zero, List.set_cons_succ]
  refine wpH_take (i := 7) (v := ?_) rfl rfl (by kernel_rfl) (by kernel_rfl) (by kernel_rfl) (fun _ _ _ h => h) (Or.inl ⟨by rfl, ?_⟩) hS0 ?_
  rotate_left
  · (intro w_ hw_; go_simp; try with_reducible rfl)
  simp only [List.setIfInBounds_toArray, List.set_cons_zero, List.set_cons_succ]
  refine wpH_take (i := 8) (v := ?_) rfl rfl (by kernel_rfl) (by kernel_rfl) (by kernel_rfl) (fun _ _ _ h => h) (Or.inl ⟨by rfl, ?_⟩) hS0 ?_
  rotate_left
  · (intro w_ hw_; obtain ⟨q0, q1⟩ := hw_; go_simp; try with_reducible rfl)
  simp only [List.setIfInBounds_toArray, List.set_cons_zero, List.set_cons_succ]
  have h37 := CloneM_any Y0.1.fast
  refine wpH_callv (i := 4) (by kernel_rfl) rfl rfl (by rfl) (h37) (by go_simp) ?_
  rintro _ v1 ⟨m2, rfl, hf, hm2, hb⟩
  have hS1 : (fun v => v.cell? ⟨b, 2, none⟩ = some (.map (some m)) ∧ v.cell? ⟨b, 3, none⟩ = some vl) v1 := ⟨(Y0.1.grew hb).six.2.2.1, (Y0.1.grew hb).six.2.2.2.1⟩
  clear hS0
  refine ⟨hS1, ?_⟩
  simp only [List.setIfInBounds_toArray, List.set_cons_zero, List.set_cons_succ]
  have Y1 : DiskAt v1 b m vl D ∧ Blk v1 C #[.int .i64 D.sectors, .int .i64 D.size, .map (some m), vl, .int .i64 D.armed, .bool D.down] 64 ∧ Below w.heap.size w v1 ∧ Fast v1 m2 D.sectors D.size D.fast ∧ w.heap.size ≤ m2 := ⟨Y0.1.grew hb, Y0.2.1.grew hb, grow Y0.2.2 hb, hf, Nat.le_trans Y0.2.2.size hm2⟩
  clear h37 hf hm2 hb Y0
  have h38 := CloneW_any Y1.1.loose HL.out
  refine wpH_callv (i := 9) (by kernel_rfl) rfl rfl (by rfl) (h38) (by go_simp) ?_
  rintro vl2 v2 ⟨hl, hg, hb⟩
  have hS2 : (fun v => v.cell? ⟨b, 2, none⟩ = some (.map (some m)) ∧ v.cell? ⟨b, 3, none⟩ = some vl) v2 := ⟨(Y1.1.grew hb).six.2.2.1, (Y1.1.grew hb).six.2.2.2.1⟩
  clear hS1
  refine ⟨hS2, ?_⟩
  simp only [List.setIfInBounds_toArray, List.set_cons_zero, List.set_cons_succ]
  have Y2 : DiskAt v2 b m vl D ∧ Blk v2 C #[.int .i64 D.sectors, .int .i64 D.size, .map (some m), vl, .int .i64 D.armed, .bool D.down] 64 ∧ Below w.heap.size w v2 ∧ Fast v2 m2 D.sectors D.size D.fast ∧ w.heap.size ≤ m2 ∧ Loose v2 vl2 D.loose ∧ ∀ g, vl2.ownBlock = some g → w.heap.size ≤ g := ⟨Y1.1.grew hb, Y1.2.1.grew hb, grow Y1.2.2.1 hb, Y1.2.2.2.1.turn (Turn.of_below hb []) (by intro _ h; simp at h) (by simp), Y1.2.2.2.2, hl, fun g e => Nat.le_trans Y1.2.2.1.size (hg g e)⟩
  clear h38 hl hg hb Y1
  refine wpH_take (i := 10) (v := ?_) rfl rfl (by kernel_rfl) (by kernel_rfl) (by kernel_rfl) (fun _ _ _ h => h) (Or.inl ⟨by rfl, ?_⟩) hS2 ?_
  rotate_left
  · (intro w_ hw_; go_simp; try with_reducible rfl)
  simp only [List.setIfInBounds_toArray, List.set_cons_zero, List.set_cons_succ]
  obtain ⟨A2, c2, rfl, _, _⟩ := Y2.2.2.2.2.2.1.form
  have k2 : v2.cell? ⟨C, 2, none⟩ = some (.map (some m)) := Y2.2.1.cell 2
  have kf2 := Y2.2.1.free 2
  have hbC : b ≠ C := by have := HBC.out; omega
  have hS3 : (fun v => v.cell? ⟨b, 2, none⟩ = some (.map (some m)) ∧ v.cell? ⟨b, 3, none⟩ = some vl) (v2.setCell ⟨C, 2, none⟩ (.map (some m2))) := (by have hq := Y2.1.blk.other (a := ⟨C, 2, none⟩) hbC (.map (some m2)); exact ⟨hq.cell 2, hq.cell 3⟩)
  clear hS2
  refine wpH_store (i := 11) (w' := (v2.setCell ⟨C, 2, none⟩ (.map (some m2)))) (by kernel_rfl) rfl rfl (by rfl) (by go_simp) hS3 ?_
  refine wpH_take (i := 12) (v := ?_) rfl rfl (by kernel_rfl) (by kernel_rfl) (by kernel_rfl) (fun _ _ _ h => h) (Or.inl ⟨by rfl, ?_⟩) hS3 ?_
  rotate_left
  · (intro w_ hw_; go_simp; try with_reducible rfl)
  simp only [List.setIfInBounds_toArray, List.set_cons_zero, List.set_cons_succ]
  have B3 : Blk (v2.setCell ⟨C, 2, none⟩ (.map (some m2))) C #[.int .i64 D.sectors, .int .i64 D.size, .map (some m2), vl, .int .i64 D.armed, .bool D.down] 64 := by have := Y2.2.1.set 2 (.map (some m2)); simpa using this
  have k3 : (v2.setCell ⟨C, 2, none⟩ (.map (some m2))).cell? ⟨C, 3, none⟩ = some vl := B3.cell 3
  have kf3 := B3.free 3
  have hS4 : (fun v => v.cell? ⟨b, 2, none⟩ = some (.map (some m)) ∧ v.cell? ⟨b, 3, none⟩ = some vl) ((v2.setCell ⟨C, 2, none⟩ (.map (some m2))).setCell ⟨C, 3, none⟩ (.slice A2 D.loose.length c2)) := (by have hq := (Y2.1.blk.other (a := ⟨C, 2, none⟩) hbC (.map (some m2))).other (a := ⟨C, 3, none⟩) hbC (.slice A2 D.loose.length c2); exact ⟨hq.cell 2, hq.cell 3⟩)
  clear hS3
  refine wpH_store (i := 13) (w' := ((v2.setCell ⟨C, 2, none⟩ (.map (some m2))).setCell ⟨C, 3, none⟩ (.slice A2 D.loose.length c2))) (by kernel_rfl) rfl rfl (by rfl) (by go_simp) hS4 ?_
  have HE := Lib.hid (show DiskAt ((v2.setCell ⟨C, 2, none⟩ (.map (some m2))).setCell ⟨C, 3, none⟩ (.slice A2 D.loose.length c2)) C m2 (.slice A2 D.loose.length c2) D ∧ Below w.heap.size w ((v2.setCell ⟨C, 2, none⟩ (.map (some m2))).setCell ⟨C, 3, none⟩ (.slice A2 D.loose.length c2)) ∧ ∀ k ∈ own C m2 (.slice A2 D.loose.length c2), w.heap.size ≤ k by
    have B4 : Blk ((v2.setCell ⟨C, 2, none⟩ (.map (some m2))).setCell ⟨C, 3, none⟩ (.slice A2 D.loose.length c2)) C #[.int .i64 D.sectors, .int .i64 D.size, .map (some m2), (.slice A2 D.loose.length c2), .int .i64 D.armed, .bool D.down] 64 := by have := B3.set 3 (.slice A2 D.loose.length c2); simpa using this
    have ht : Turn [C] v2 ((v2.setCell ⟨C, 2, none⟩ (.map (some m2))).setCell ⟨C, 3, none⟩ (.slice A2 D.loose.length c2)) := ((Turn.refl [C] v2).set (a := ⟨C, 2, none⟩) (.inl (by simp)) _).set (a := ⟨C, 3, none⟩) (.inl (by simp)) _
    have nb : NoBytes v2 [C] := by
      intro k hk cs fz e
      simp at hk; subst hk
      have h64 := Y2.2.1
      unfold Blk at h64
      rw [h64] at e; cases e
    have hCm : C ≠ m2 := by
      intro e
      obtain ⟨es, clock, hm⟩ := Y2.2.2.2.1.kind
      have h64 := Y2.2.1
      unfold Blk at h64
      rw [← e, h64] at hm; cases hm
    refine ⟨⟨HOK.out, B4, Y2.2.2.2.1.turn ht nb (by simp; exact Ne.symm hCm), Y2.2.2.2.2.2.1.turn ht nb (fun g hg => ?_), fun j hj => Y2.1.bar j (by simpa using hj)⟩, Y2.2.2.1.trans (ht.below Y2.2.2.1.size (by intro j hj; simp at hj; have := HBC.out; omega)), fun k hk => ?_⟩
    · simp
      intro e
      obtain ⟨cs, hcs⟩ := Y2.2.2.2.2.2.1.kind hg
      have h64 := Y2.2.1
      unfold Blk at h64
      rw [e, h64] at hcs; cases hcs
    · rcases mem_own.1 hk with e | e | e
      · have := HBC.out; omega
      · rw [e]; exact Y2.2.2.2.2.1
      · exact Y2.2.2.2.2.2.2 k e)
  clear B3 k3 kf3 k2 kf2 Y2
  clear hS4
  refine wpAnyH_done (by kernel_rfl) ?_ _

  go_wp2
  go_ret
  exact ⟨C, m2, _, rfl, HE.out⟩
end Go.Proofs.Ytapllljbbldfkaa
