/- The disk below a pool; a page's sector is written: lay. Printed by mk_p9.py. A page's load off its place: place. Printed by mk_p10.py. A page's load: load, Read. Printed by mk_p11.py. What a pool keeps to; Read. Walks: Write. Printed by mk_p13.py. Walks: a number behind the free pages; Give. Printed by mk_p14.py. A map's entry, and a store into it. -/
import Derived.Test.YtfmdmfiljplkoaaGreatPA
import Derived.Deep.OwnRows
import Derived.Maps.AppendAt
import Derived.WideKeyEntry
namespace Go.Proofs.YtfmdmfiljplkoaaGreat
open Go.RowKit Go.Maps
set_option maxRecDepth 8000
variable {ι : Type} [Bar ι]
theorem Mem.perm_vl (M : Mem) (v : Value) : ({M with vl := v} : Mem).own.Perm (v.ownBlock.toList ++ (M.p :: M.ml :: M.mn :: M.ms :: (M.G.toList ++ M.vf.ownBlock.toList ++ M.vw.ownBlock.toList ++ [M.b, M.m]))) := by
  rw [List.perm_iff_count]
  intro a
  simp only [Mem.own, YtfmdmfiljplkoaaGreat.own, List.count_cons, List.count_append, List.count_nil]
  omega
theorem Mem.nodup_vl {M : Mem} (h : M.own.Nodup) {v : Value} (hv : ∀ g, v.ownBlock = some g → M.vl.ownBlock = some g ∨ g ∉ M.own) : ({M with vl := v} : Mem).own.Nodup := by
  refine (Mem.perm_vl M v).nodup_iff.2 (swap_nodup (o := M.vl.ownBlock) ((Mem.perm_vl M M.vl).nodup_iff.1 h) fun g hg => (hv g hg).imp id fun hn hm => hn ?_)
  exact (Mem.perm_vl M M.vl).mem_iff.2 (List.mem_append.2 (.inr hm))
section
variable {w w' : World} {M : Mem} {S : Pl} {D D' : Dsk}
/-- The disk below a pool has had an act. -/
theorem PoolAt.disked (h : PoolAt w M S D) {vl' : Value} (hd : DiskAt w' M.b M.m vl' D') (hs : D'.sectors = D.sectors) (ht : Turn (own M.b M.m M.vl) w w') (hg : ∀ g, vl'.ownBlock = some g → M.vl.ownBlock = some g ∨ w.heap.size ≤ g) :
    PoolAt w' { M with vl := vl' } S D' ∧ PWent w w' M { M with vl := vl' } := by
  have hn : NoBytes w (own M.b M.m M.vl) := fun j hj => h.nobytes j (mem_mem.2 (by simp [hj]))
  have hap := h.apart
  have hv : ∀ g, vl'.ownBlock = some g → M.vl.ownBlock = some g ∨ g ∉ M.own := fun g e => (hg g e).imp id fun hl hm => by have := h.lt g hm; omega
  have hm : ∀ j, (j = M.p ∨ j = M.ml ∨ j = M.mn ∨ j = M.ms ∨ M.G = some j ∨ M.vf.ownBlock = some j ∨ M.vw.ownBlock = some j) → j ∉ own M.b M.m M.vl := by
    intro j hj hk
    have hap2 : ((M.p :: M.ml :: M.mn :: M.ms :: (M.G.toList ++ M.vf.ownBlock.toList ++ M.vw.ownBlock.toList)) ++ own M.b M.m M.vl).Nodup := by simpa [Mem.own] using hap
    refine (List.nodup_append.1 hap2).2.2 j ?_ j hk rfl
    simp [Option.mem_toList]
    exact hj
  refine ⟨⟨h.blk.turn ht (hm _ (by simp)), hd, h.log.turn ht (fun g e => hm g (by simp [e])), h.free.turn ht (fun g e => hm g (by simp [e])), h.wfree.turn ht (fun g e => hm g (by simp [e])),
    by rw [hs]; exact h.last.turn ht hn (hm _ (by simp)), by rw [hs]; exact h.pend.turn ht hn (hm _ (by simp)), by rw [hs]; exact h.seen.turn ht hn (hm _ (by simp)), Mem.nodup_vl hap hv⟩, ht.mono (fun j hj _ => mem_mem.2 (by simp [hj])), fun g hgm => ?_, rfl⟩
  have := (Mem.perm_vl M vl').mem_iff.1 hgm
  rcases List.mem_append.1 this with h1 | h1
  · rw [Option.mem_toList] at h1
    rcases hg g (by simpa using h1) with h2 | h2
    · exact .inl (mem_mem.2 (by simp [own, h2]))
    · exact .inr h2
  · exact .inl ((Mem.perm_vl M M.vl).mem_iff.2 (List.mem_append.2 (.inr h1)))
theorem build_rd {base : Nat} {v : Value} {l : List Nat} {m : Nat} (z : Nat) (h : Own w base v l) (h1 : 64 ≤ z) (h2 : z ≤ 4096) (h3 : (1 : Int) ≤ m) (h4 : (m : Int) ≤ 4611686018427387904) (hl : l.length + 36 ≤ z) :
    Calls Tryz.prog 113 #[.int .i64 z, .int .i64 m, v] w fun e w' => ∃ u, e = .returned u ∧ ∃ p c, u = .tuple #[.slice (some p) z c, .int .i64 0] ∧ Byt w' (.slice (some p) z c) (sector z m l) ∧ Below w.heap.size w w' := by
  obtain ⟨A, c, rfl, hr⟩ := h.form
  refine (Build_ok z m A l c w hr (by omega) (by omega) h3 h4 (by omega)).mono ?_
  rintro e w' ⟨v', rfl, ho, hb⟩
  have hlen : (sector z m l).length = z := sector_length (by omega)
  have hby := Byt.of_own ho (by intro e; rw [e] at hlen; simp at hlen; omega)
  obtain ⟨p, c', rfl, _, _⟩ := hby.rd
  rw [hlen] at hby ⊢
  exact ⟨_, rfl, p, c', rfl, hby, hb⟩
/-- A page's sector. -/
def sectL (D : Dsk) (page : Nat) (l : List Nat) : List Nat := sector D.size (page + 1) (widen D.rm l)
theorem rm_fit {D : Dsk} (h : D.Ok) : D.rm + 36 ≤ D.size := by
  have h1 := h.z1
  have h2 := h.z2
  have h3 := lroom_rm D
  have hk : okSize D.size = true := by simp [okSize]; omega
  unfold lroom room at h3
  rw [if_pos hk] at h3
  by_cases h4 : D.size < 45
  · omega
  · omega
theorem sectL_length {D : Dsk} (h : D.Ok) {page : Nat} {l : List Nat} (hl : l.length ≤ D.rm) : (sectL D page l).length = D.size := by
  have := rm_fit h
  exact sector_length (by rw [widen_length hl]; omega)
set_option maxHeartbeats 4000000 in
theorem lay_any (h : PoolAt w M S D) (hf : S.first ≤ 1048576) (hL : D.loose.length ≤ 1000000000) (page : Nat) (hp : (page : Int) ≤ 2147483647) {A : Option Addr} {n c : Nat} {l : List Nat} (hn : l.length = n) (hr : Rd w w.heap.size A l) (hl : n ≤ D.rm) :
    Calls Tryz.prog 58 #[.pointer (some ⟨M.p, 0, none⟩), .int .i64 page, .slice A n c] w fun e w' => e = .returned (.int .i64 (D.putErr ((S.first : Int) + page) (sectL D page l))) ∧
      ∃ vl', PoolAt w' { M with vl := vl' } S (D.put ((S.first : Int) + page) (sectL D page l)) ∧ PWent w w' M { M with vl := vl' } := by
  have hfit := rm_fit h.disk.ok
  have HZ := Lib.hid (And.intro h.disk.ok.z1 h.disk.ok.z2)
  have HW := Lib.hid (wide_any (c := c) h hn hr hl)
  have HS := Lib.hid (Size_any h.disk)
  have HSL := Lib.hid (sectL_length (page := page) h.disk.ok (by omega : l.length ≤ D.rm))
  have HWL := Lib.hid (widen_length (by omega : l.length ≤ D.rm))
  have H := Lib.hid h
  have HLO := Lib.hid hL
  have hc := h.c_disk
  have e1 : IntKind.i64.wrap ((page : Int) + 1) = ((page + 1 : Nat) : Int) := by rw [IntKind.wrap_i64]; omega
  have e2 : IntKind.i64.wrap ((S.first : Int) + page) = (S.first : Int) + page := by rw [IntKind.wrap_i64]; omega
  clear h hr hL
  go_enter Tryz.func58, Tryz.ntmps58
  go_wp2_with fail
  refine HS.out.mono ?_
  rintro r w ⟨rfl, rfl⟩
  go_wp2_with fail
  refine HW.out.mono ?_
  rintro r w1 ⟨v1, rfl, ho1, hb1⟩
  have HB := Lib.hid (build_rd (m := page + 1) D.size ho1 HZ.out.1 HZ.out.2 (by omega) (by omega) (by rw [HWL.out]; omega))
  have HB1 := Lib.hid hb1
  clear ho1 hb1 HW HS
  go_wp2_with fail
  refine HB.out.mono ?_
  rintro r w2 ⟨u2, rfl, p9, c9, rfl, hby, hb2⟩
  have HBY : Hid (Byt w2 (.slice (some p9) D.size c9) (sectL D page l)) := Lib.hid hby
  have HB2 := Lib.hid (HB1.out.trans (hb2.mono HB1.out.size))
  have HP2 := Lib.hid (H.out.grew HB2.out)
  clear hby hb2 HB hc HB1
  go_wp2_with fail
  refine wp_region_H (fun v => v.cell? ⟨M.p, 20, none⟩ = some (.pointer (some ⟨M.b, 0, none⟩)) ∧ v.cell? ⟨M.p, 24, none⟩ = some (.int .i64 S.first)) (by kernel_rfl) (fun v0 hv0 => ?_)
  have hS0 : (fun v => v.cell? ⟨M.p, 20, none⟩ = some (.pointer (some ⟨M.b, 0, none⟩)) ∧ v.cell? ⟨M.p, 24, none⟩ = some (.int .i64 S.first)) v0 := by subst hv0; exact ⟨(HP2.out.drew).c_disk, (HP2.out.drew).c_first⟩
  have HV0 : Hid (PoolAt v0 M S D ∧ Byt v0 (.slice (some p9) D.size c9) (sectL D page l) ∧ Below w.heap.size w v0) := Lib.hid (by subst hv0; exact ⟨HP2.out.drew, HBY.out.drew, HB2.out.trans ((Below.refl _ _).drew.mono HB2.out.size)⟩)
  clear hv0 HP2 HBY HB2
  refine wpH_take (i := 0) (v := ?_) rfl rfl (by kernel_rfl) (by kernel_rfl) (by kernel_rfl) (fun _ _ _ h => h) (Or.inl ⟨by rfl, ?_⟩) hS0 ?_
  rotate_left
  · (intro w_ hw_; go_simp; try with_reducible rfl)
  simp only [List.setIfInBounds_toArray, List.set_cons_zero, List.set_cons_succ]
  refine wpH_take (i := 1) (v := ?_) rfl rfl (by kernel_rfl) (by kernel_rfl) (by kernel_rfl) (fun _ _ _ h => h) (Or.inl ⟨by rfl, ?_⟩) hS0 ?_
  rotate_left
  · (intro w_ hw_; obtain ⟨q1, q2⟩ := hw_; go_simp; try with_reducible rfl)
  simp only [List.setIfInBounds_toArray, List.set_cons_zero, List.set_cons_succ]
  refine wpH_take (i := 2) (v := ?_) rfl rfl (by kernel_rfl) (by kernel_rfl) (by kernel_rfl) (fun _ _ _ h => h) (Or.inl ⟨by rfl, ?_⟩) hS0 ?_
  rotate_left
  · (intro w_ hw_; go_simp; try with_reducible rfl)
  simp only [List.setIfInBounds_toArray, List.set_cons_zero, List.set_cons_succ]
  refine wpH_take (i := 3) (v := ?_) rfl rfl (by kernel_rfl) (by kernel_rfl) (by kernel_rfl) (fun _ _ _ h => h) (Or.inl ⟨by rfl, ?_⟩) hS0 ?_
  rotate_left
  · (intro w_ hw_; obtain ⟨q1, q2⟩ := hw_; go_simp; try with_reducible rfl)
  simp only [List.setIfInBounds_toArray, List.set_cons_zero, List.set_cons_succ]
  refine wpH_take (i := 4) (v := ?_) rfl rfl (by kernel_rfl) (by kernel_rfl) (by kernel_rfl) (fun _ _ _ h => h) (Or.inl ⟨by rfl, ?_⟩) hS0 ?_
  rotate_left
  · (intro w_ hw_; go_simp; try with_reducible rfl)
  simp only [List.setIfInBounds_toArray, List.set_cons_zero, List.set_cons_succ]
  refine wpH_take (i := 5) (v := ?_) rfl rfl (by kernel_rfl) (by kernel_rfl) (by kernel_rfl) (fun _ _ _ h => h) (Or.inl ⟨by rfl, ?_⟩) hS0 ?_
  rotate_left
  · (intro w_ hw_; obtain ⟨q1, q2⟩ := hw_; go_simp; try with_reducible rfl)
  simp only [List.setIfInBounds_toArray, List.set_cons_zero, List.set_cons_succ]
  refine wpH_take (i := 6) (v := ?_) rfl rfl (by kernel_rfl) (by kernel_rfl) (by kernel_rfl) (fun _ _ _ h => h) (Or.inl ⟨by rfl, ?_⟩) hS0 ?_
  rotate_left
  · (intro w_ hw_; go_simp; try with_reducible rfl)
  simp only [List.setIfInBounds_toArray, List.set_cons_zero, List.set_cons_succ]
  refine wpH_take (i := 7) (v := ?_) rfl rfl (by kernel_rfl) (by kernel_rfl) (by kernel_rfl) (fun _ _ _ h => h) (Or.inl ⟨by rfl, ?_⟩) hS0 ?_
  rotate_left
  · (intro w_ hw_; obtain ⟨q1, q2⟩ := hw_; go_simp; try with_reducible rfl)
  simp only [List.setIfInBounds_toArray, List.set_cons_zero, List.set_cons_succ]
  refine wpH_take (i := 8) (v := ?_) rfl rfl (by kernel_rfl) (by kernel_rfl) (by kernel_rfl) (fun _ _ _ h => h) (Or.inl ⟨by rfl, ?_⟩) hS0 ?_
  rotate_left
  · (intro w_ hw_; go_simp; try with_reducible rfl)
  simp only [List.setIfInBounds_toArray, List.set_cons_zero, List.set_cons_succ]
  refine wpH_take (i := 9) (v := (.int .i64 ((S.first : Int) + page))) rfl rfl (by kernel_rfl) (by kernel_rfl) (by kernel_rfl) (fun _ _ _ h => h) (Or.inl ⟨by rfl, ?_⟩) hS0 ?_
  · (intro w_ hw_; go_simp)
  simp only [List.setIfInBounds_toArray, List.set_cons_zero, List.set_cons_succ]
  refine wpH_take (i := 10) (v := ?_) rfl rfl (by kernel_rfl) (by kernel_rfl) (by kernel_rfl) (fun _ _ _ h => h) (Or.inl ⟨by rfl, ?_⟩) hS0 ?_
  rotate_left
  · (intro w_ hw_; go_simp; try with_reducible rfl)
  simp only [List.setIfInBounds_toArray, List.set_cons_zero, List.set_cons_succ]
  refine wpH_call (i := 11) (by kernel_rfl) rfl rfl (by rfl) ((Write_any ((S.first : Int) + page) p9 c9 D.size _ M.b M.m M.vl D _ HV0.out.1.disk HV0.out.2.1 HSL.out HLO.out)) (by go_simp) (fun w9 hR => ?_)
  have hS1 : (fun v => v.cell? ⟨M.p, 20, none⟩ = some (.pointer (some ⟨M.b, 0, none⟩)) ∧ v.cell? ⟨M.p, 24, none⟩ = some (.int .i64 S.first)) w9 := (by obtain ⟨vl', hd9, ht9, hg9⟩ := hR; exact ⟨(HV0.out.1.disked hd9 (Dsk.put_sectors _ _).1 ht9 hg9).1.c_disk, (HV0.out.1.disked hd9 (Dsk.put_sectors _ _).1 ht9 hg9).1.c_first⟩)
  clear hS0
  refine ⟨hS1, ?_⟩
  simp only [List.setIfInBounds_toArray, List.set_cons_zero, List.set_cons_succ]
  refine wpH_take (i := 12) (v := ?_) rfl rfl (by kernel_rfl) (by kernel_rfl) (by kernel_rfl) (fun _ _ _ h => h) (Or.inl ⟨by rfl, ?_⟩) hS1 ?_
  rotate_left
  · (intro w_ hw_; go_simp; try with_reducible rfl)
  simp only [List.setIfInBounds_toArray, List.set_cons_zero, List.set_cons_succ]
  clear hS1
  refine wpAnyH_done (by kernel_rfl) ?_ _
  go_wp2
  go_ret
  obtain ⟨vl', hd9, ht9, hg9⟩ := hR
  have hk := HV0.out.1.disked hd9 (Dsk.put_sectors _ _).1 ht9 hg9
  exact ⟨rfl, vl', hk.1, (PWent.of_below HV0.out.2.2).trans hk.2⟩
end
end Go.Proofs.YtfmdmfiljplkoaaGreat
namespace Go.Proofs.YtfmdmfiljplkoaaGreat
open Go.RowKit Go.Maps
set_option maxRecDepth 8000
variable {ι : Type} [Bar ι]
section
variable {w w' : World} {M : Mem} {S : Pl} {D D' : Dsk}
theorem Read_tup {b m : Nat} {vl : Value} (a : Int) (h : DiskAt w b m vl D) (hL : D.loose.length ≤ 1000000000) :
    Calls Tryz.prog 161 #[.pointer (some ⟨b, 0, none⟩), .int .i64 a] w fun e w' => ∃ u, e = .returned u ∧ ∃ v, u = .tuple #[v, .int .i64 (D.ready a)] ∧ (if D.ready a = 0 then Own w' w.heap.size v (D.tells a) else v = nilv) ∧ Below w.heap.size w w' := by
  refine (Read_any a h hL).mono ?_
  rintro e w' ⟨v, rfl, h1, h2⟩
  exact ⟨_, rfl, v, rfl, h1, h2⟩
/-- What a page's place tells. -/
def placeL (D : Dsk) (first page : Nat) : List Nat :=
  let s := D.tells ((first : Int) + page)
  if readErr s = 0 ∧ readMark s = ((page + 1 : Nat) : Int) then (readLoad s).take D.rm else List.replicate D.rm 0
theorem Byt.take_ {v : World} {p : Addr} {n c k : Nat} {l : List Nat} (h : Byt v (.slice (some p) n c) l) (hk : k ≤ n) : Byt v (.slice (some p) k c) (l.take k) := by
  obtain ⟨h1, p', c', e, hc, hb, hv⟩ := h
  injection e with e1 e2 e3
  injection e1 with e1
  subst e1 e2 e3
  have hl : (l.take k).length = k := by simp; omega
  exact ⟨fun b hb => h1 b (List.mem_of_mem_take hb), p, c, by rw [hl], by omega, hb, fun j hj => by rw [hv j (by omega), List.getElem_take]⟩
theorem run_mk (w : World) (n : Nat) (h1 : 1 ≤ n) (h2 : n ≤ 5000) : ∃ w', (Instr.makeSlice 108 (.int .i64 (n : Int)) (.int .i64 (n : Int))).run Tryz.prog w = .ok (.slice (some ⟨w.heap.size, 0, none⟩) n n) w' ∧ Byt w' (.slice (some ⟨w.heap.size, 0, none⟩) n n) (List.replicate n 0) ∧ Below w.heap.size w w' := by
  obtain ⟨i, hi, hz, hs, hby⟩ := info_parts u8_row
  refine ⟨_, run_make_row 108 5 i _ Tryz.underlying108 hi hz hs rfl .i64 .i64 n (by rw [hby]; omega) (by omega) w, ⟨by simp, ⟨w.heap.size, 0, none⟩, n, by simp, by simp, ⟨_, _, Blk.new w _ _⟩, fun k hk => ?_⟩, (Below.refl _ w).alloc (Nat.le_refl _) _⟩
  have hk' : k < n := by simpa using hk
  rw [addr_add, (Blk.new w _ _).cell]
  simp [madeCells, hk', Nat.mod_one]
theorem readLoad_len {s : List Nat} (h : readErr s = 0) (h1 : 64 ≤ s.length) : (readLoad s).length = s.length - 36 := by
  have hk : readOk s = true := by
    unfold readErr at h
    cases hc : readOk s with
    | true => rfl
    | false => rw [hc] at h; simp at h
  unfold readLoad
  rw [if_pos hk]
  simp
  omega
set_option maxHeartbeats 4000000 in
theorem place_yes (h : PoolAt w M S D) (h1 : 1 ≤ D.rm) (hf : S.first ≤ 1048576) (hL : D.loose.length ≤ 1000000000) (page : Nat) (hp : (page : Int) ≤ 2147483647) (hr : D.ready ((S.first : Int) + page) = 0) :
    Calls Tryz.prog 160 #[.pointer (some ⟨M.p, 0, none⟩), .int .i64 page] w fun e w' => ∃ u, e = .returned u ∧ ∃ v, u = .tuple #[v, .int .i64 0] ∧ Byt w' v (placeL D S.first page) ∧ Below w.heap.size w w' := by
  have hlen : (D.tells ((S.first : Int) + page)).length = D.size := (Dsk.tells_ok h.disk.ok _).1
  have hrm5 := rm_le D
  have HLEN := Lib.hid hlen
  have H := Lib.hid h
  have HLO := Lib.hid hL
  have HRM := Lib.hid (And.intro h.disk.ok.z1 h.disk.ok.z2)
  have HFIT := Lib.hid (rm_fit h.disk.ok)
  have HRO := Lib.hid (fun w' (k : Below w.heap.size w w') => Room_any' (h.grew k))
  have e1 : IntKind.i64.wrap ((page : Int) + 1) = ((page + 1 : Nat) : Int) := by rw [IntKind.wrap_i64]; omega
  have e2 : IntKind.i64.wrap ((S.first : Int) + page) = (S.first : Int) + page := by rw [IntKind.wrap_i64]; omega
  rw [lroom_rm] at HRO
  have hpl : (readErr (D.tells ((S.first : Int) + page)) = 0 ∧ readMark (D.tells ((S.first : Int) + page)) = ((page + 1 : Nat) : Int) → placeL D S.first page = (readLoad (D.tells ((S.first : Int) + page))).take D.rm) ∧ (¬ (readErr (D.tells ((S.first : Int) + page)) = 0 ∧ readMark (D.tells ((S.first : Int) + page)) = ((page + 1 : Nat) : Int)) → placeL D S.first page = List.replicate D.rm 0) :=
    ⟨fun h => by unfold placeL; rw [if_pos h], fun h => by unfold placeL; rw [if_neg h]⟩
  have HPL := Lib.hid hpl
  generalize placeL D S.first page = PL at *
  clear h hL hlen hpl
  go_enter Tryz.func160, Tryz.ntmps160
  go_wp2_with fail
  refine wp_region_H (fun v => v.cell? ⟨M.p, 20, none⟩ = some (.pointer (some ⟨M.b, 0, none⟩)) ∧ v.cell? ⟨M.p, 24, none⟩ = some (.int .i64 S.first)) (by kernel_rfl) (fun v0 hv0 => ?_)
  have hS0 : (fun v => v.cell? ⟨M.p, 20, none⟩ = some (.pointer (some ⟨M.b, 0, none⟩)) ∧ v.cell? ⟨M.p, 24, none⟩ = some (.int .i64 S.first)) v0 := by subst hv0; exact ⟨(H.out.drew).c_disk, (H.out.drew).c_first⟩
  have HV0 : Hid (PoolAt v0 M S D ∧ Below w.heap.size w v0) := Lib.hid (by subst hv0; exact ⟨H.out.drew, (Below.refl _ _).drew⟩)
  clear hv0
  refine wpH_take (i := 0) (v := ?_) rfl rfl (by kernel_rfl) (by kernel_rfl) (by kernel_rfl) (fun _ _ _ h => h) (Or.inl ⟨by rfl, ?_⟩) hS0 ?_
  rotate_left
  · (intro w_ hw_; go_simp; try with_reducible rfl)
  simp only [List.setIfInBounds_toArray, List.set_cons_zero, List.set_cons_succ]
  refine wpH_take (i := 1) (v := ?_) rfl rfl (by kernel_rfl) (by kernel_rfl) (by kernel_rfl) (fun _ _ _ h => h) (Or.inl ⟨by rfl, ?_⟩) hS0 ?_
  rotate_left
  · (intro w_ hw_; obtain ⟨q1, q2⟩ := hw_; go_simp; try with_reducible rfl)
  simp only [List.setIfInBounds_toArray, List.set_cons_zero, List.set_cons_succ]
  refine wpH_take (i := 2) (v := ?_) rfl rfl (by kernel_rfl) (by kernel_rfl) (by kernel_rfl) (fun _ _ _ h => h) (Or.inl ⟨by rfl, ?_⟩) hS0 ?_
  rotate_left
  · (intro w_ hw_; go_simp; try with_reducible rfl)
  simp only [List.setIfInBounds_toArray, List.set_cons_zero, List.set_cons_succ]
  refine wpH_take (i := 3) (v := ?_) rfl rfl (by kernel_rfl) (by kernel_rfl) (by kernel_rfl) (fun _ _ _ h => h) (Or.inl ⟨by rfl, ?_⟩) hS0 ?_
  rotate_left
  · (intro w_ hw_; obtain ⟨q1, q2⟩ := hw_; go_simp; try with_reducible rfl)
  simp only [List.setIfInBounds_toArray, List.set_cons_zero, List.set_cons_succ]
  refine wpH_take (i := 4) (v := ?_) rfl rfl (by kernel_rfl) (by kernel_rfl) (by kernel_rfl) (fun _ _ _ h => h) (Or.inl ⟨by rfl, ?_⟩) hS0 ?_
  rotate_left
  · (intro w_ hw_; go_simp; try with_reducible rfl)
  simp only [List.setIfInBounds_toArray, List.set_cons_zero, List.set_cons_succ]
  refine wpH_take (i := 5) (v := ?_) rfl rfl (by kernel_rfl) (by kernel_rfl) (by kernel_rfl) (fun _ _ _ h => h) (Or.inl ⟨by rfl, ?_⟩) hS0 ?_
  rotate_left
  · (intro w_ hw_; obtain ⟨q1, q2⟩ := hw_; go_simp; try with_reducible rfl)
  simp only [List.setIfInBounds_toArray, List.set_cons_zero, List.set_cons_succ]
  refine wpH_take (i := 6) (v := ?_) rfl rfl (by kernel_rfl) (by kernel_rfl) (by kernel_rfl) (fun _ _ _ h => h) (Or.inl ⟨by rfl, ?_⟩) hS0 ?_
  rotate_left
  · (intro w_ hw_; go_simp; try with_reducible rfl)
  simp only [List.setIfInBounds_toArray, List.set_cons_zero, List.set_cons_succ]
  refine wpH_take (i := 7) (v := ?_) rfl rfl (by kernel_rfl) (by kernel_rfl) (by kernel_rfl) (fun _ _ _ h => h) (Or.inl ⟨by rfl, ?_⟩) hS0 ?_
  rotate_left
  · (intro w_ hw_; obtain ⟨q1, q2⟩ := hw_; go_simp; try with_reducible rfl)
  simp only [List.setIfInBounds_toArray, List.set_cons_zero, List.set_cons_succ]
  refine wpH_take (i := 8) (v := ?_) rfl rfl (by kernel_rfl) (by kernel_rfl) (by kernel_rfl) (fun _ _ _ h => h) (Or.inl ⟨by rfl, ?_⟩) hS0 ?_
  rotate_left
  · (intro w_ hw_; go_simp; try with_reducible rfl)
  simp only [List.setIfInBounds_toArray, List.set_cons_zero, List.set_cons_succ]
  refine wpH_take (i := 9) (v := (.int .i64 ((S.first : Int) + page))) rfl rfl (by kernel_rfl) (by kernel_rfl) (by kernel_rfl) (fun _ _ _ h => h) (Or.inl ⟨by rfl, ?_⟩) hS0 ?_
  · (intro w_ hw_; go_simp)
  simp only [List.setIfInBounds_toArray, List.set_cons_zero, List.set_cons_succ]
  refine wpH_callv (i := 10) (by kernel_rfl) rfl rfl (by rfl) ((Read_tup ((S.first : Int) + page) HV0.out.1.disk HLO.out)) (by go_simp) ?_
  rintro _ w1 ⟨v, rfl, hv1, hb1⟩
  have hS1 : (fun v => v.cell? ⟨M.p, 20, none⟩ = some (.pointer (some ⟨M.b, 0, none⟩)) ∧ v.cell? ⟨M.p, 24, none⟩ = some (.int .i64 S.first)) w1 := ⟨(HV0.out.1.grew hb1).c_disk, (HV0.out.1.grew hb1).c_first⟩
  clear hS0
  refine ⟨hS1, ?_⟩
  simp only [List.setIfInBounds_toArray, List.set_cons_zero, List.set_cons_succ]
  refine wpH_take (i := 11) (v := ?_) rfl rfl (by kernel_rfl) (by kernel_rfl) (by kernel_rfl) (fun _ _ _ h => h) (Or.inl ⟨by rfl, ?_⟩) hS1 ?_
  rotate_left
  · (intro w_ hw_; go_simp; try with_reducible rfl)
  simp only [List.setIfInBounds_toArray, List.set_cons_zero, List.set_cons_succ]
  refine wpH_take (i := 12) (v := ?_) rfl rfl (by kernel_rfl) (by kernel_rfl) (by kernel_rfl) (fun _ _ _ h => h) (Or.inl ⟨by rfl, ?_⟩) hS1 ?_
  rotate_left
  · (intro w_ hw_; go_simp; try with_reducible rfl)
  simp only [List.setIfInBounds_toArray, List.set_cons_zero, List.set_cons_succ]
  refine wpH_take (i := 13) (v := ?_) rfl rfl (by kernel_rfl) (by kernel_rfl) (by kernel_rfl) (fun _ _ _ h => h) (Or.inl ⟨by rfl, ?_⟩) hS1 ?_
  rotate_left
  · (intro w_ hw_; go_simp; try with_reducible rfl)
  simp only [List.setIfInBounds_toArray, List.set_cons_zero, List.set_cons_succ]
  refine wpH_take (i := 14) (v := ?_) rfl rfl (by kernel_rfl) (by kernel_rfl) (by kernel_rfl) (fun _ _ _ h => h) (Or.inl ⟨by rfl, ?_⟩) hS1 ?_
  rotate_left
  · (intro w_ hw_; go_simp; try with_reducible rfl)
  simp only [List.setIfInBounds_toArray, List.set_cons_zero, List.set_cons_succ]
  refine wpH_take (i := 15) (v := ?_) rfl rfl (by kernel_rfl) (by kernel_rfl) (by kernel_rfl) (fun _ _ _ h => h) (Or.inl ⟨by rfl, ?_⟩) hS1 ?_
  rotate_left
  · (intro w_ hw_; go_simp; try with_reducible rfl)
  simp only [List.setIfInBounds_toArray, List.set_cons_zero, List.set_cons_succ]
  have HV1 := Lib.hid hv1
  have HB1 := Lib.hid (HV0.out.2.trans (hb1.mono HV0.out.2.size))
  have HP1 := Lib.hid (HV0.out.1.grew hb1)
  clear hv1 hb1 HV0
  clear hS1
  refine wpAnyH_done (by kernel_rfl) ?_ _
  have ho := HV1.out
  rw [if_pos hr] at ho
  rw [hr]
  have hby := Byt.of_own ho (by intro e; have := HLEN.out; rw [e] at this; have := HRM.out; simp at *; omega)
  obtain ⟨p, c, rfl, hc, hrd⟩ := hby.rd
  have HF := Lib.hid (FRead_any p _ c w1 hrd (by have := HLEN.out; have := HRM.out; omega) (by have := HLEN.out; have := HRM.out; omega) (by omega))
  rw [HLEN.out] at HF ⊢
  generalize hs : D.tells ((S.first : Int) + page) = s at *
  clear ho hby HV1 hrd
  go_wp2_with fail
  refine HF.out.mono ?_
  rintro r w2 ⟨v2, rfl, ho2, hb2⟩
  by_cases hg : readErr s = 0 ∧ readMark s = ((page + 1 : Nat) : Int)
  · have hlL : (readLoad s).length = D.size - 36 := by rw [readLoad_len hg.1 (by rw [HLEN.out]; exact HRM.out.1), HLEN.out]
    have hby2 := Byt.of_own ho2 (by intro e; rw [e] at hlL; have := HFIT.out; simp at hlL; omega)
    obtain ⟨p2, c2, rfl, hc2, hrd2⟩ := hby2.rd
    have hro := HRO.out w2 (HB1.out.trans (hb2.mono HB1.out.size))
    rw [hlL] at hc2 ⊢
    have hk : (D.rm : Int) ≤ c2 := by have := HFIT.out; omega
    rw [hg.1, hg.2]
    go_wp2_with fail
    refine hro.mono ?_
    rintro r w3 ⟨rfl, rfl⟩
    go_wp2
    go_ret2
    refine ⟨_, rfl, _, rfl, ?_, HB1.out.trans (hb2.mono HB1.out.size)⟩
    rw [HPL.out.1 hg]
    rw [hlL] at hby2
    exact hby2.take_ (by have := HFIT.out; omega)
  · have hro := HRO.out w2 (HB1.out.trans (hb2.mono HB1.out.size))
    by_cases hg1 : readErr s = 0
    · rw [hg1]
      have hg2 : readMark s ≠ ((page + 1 : Nat) : Int) := fun e => hg ⟨hg1, e⟩
      generalize readMark s = mk at *
      go_wp2_with fail
      refine hro.mono ?_
      rintro r W3 ⟨rfl, rfl⟩
      have HB3 := Lib.hid (HB1.out.trans (hb2.mono HB1.out.size))
      clear hro HF hb2 ho2
      obtain ⟨w4, hrun, hby4, hb4⟩ := run_mk W3 D.rm h1 (by omega)
      have HRUN := Lib.hid hrun
      have HBY4 := Lib.hid hby4
      have HB4 := Lib.hid (HB3.out.trans (hb4.mono HB3.out.size))
      have hro4 := HRO.out w4 HB4.out
      clear hrun hby4 hb4
      generalize hg5 : W3.heap.size = g5 at *
      go_wp2_with (at_make; refine wpList_make_run rfl _ _ 108 rfl _ _ _ w4 rfl rfl HRUN.out ?_)
      refine hro4.mono ?_
      rintro r w5 ⟨rfl, rfl⟩
      go_wp2
      go_ret2
      refine ⟨_, rfl, _, rfl, ?_, HB4.out⟩
      rw [HPL.out.2 hg]
      exact HBY4.out
    · generalize readErr s = er at *
      generalize readMark s = mk at *
      go_wp2_with fail
      refine hro.mono ?_
      rintro r W3 ⟨rfl, rfl⟩
      have HB3 := Lib.hid (HB1.out.trans (hb2.mono HB1.out.size))
      clear hro HF hb2 ho2
      obtain ⟨w4, hrun, hby4, hb4⟩ := run_mk W3 D.rm h1 (by omega)
      have HRUN := Lib.hid hrun
      have HBY4 := Lib.hid hby4
      have HB4 := Lib.hid (HB3.out.trans (hb4.mono HB3.out.size))
      have hro4 := HRO.out w4 HB4.out
      clear hrun hby4 hb4
      generalize hg5 : W3.heap.size = g5 at *
      go_wp2_with (at_make; refine wpList_make_run rfl _ _ 108 rfl _ _ _ w4 rfl rfl HRUN.out ?_)
      refine hro4.mono ?_
      rintro r w5 ⟨rfl, rfl⟩
      go_wp2
      go_ret2
      refine ⟨_, rfl, _, rfl, ?_, HB4.out⟩
      rw [HPL.out.2 hg]
      exact HBY4.out
end
end Go.Proofs.YtfmdmfiljplkoaaGreat
namespace Go.Proofs.YtfmdmfiljplkoaaGreat
open Go.RowKit Go.Maps
set_option maxRecDepth 8000
variable {ι : Type} [Bar ι]
section
variable {w w' : World} {M : Mem} {S : Pl} {D D' : Dsk}
theorem PoolAt.set_pend (h : PoolAt w M S D) {g : Pgs} (hm : PgMap w' M.mn D.sectors g) (ht : Turn [M.mn] w w') :
    PoolAt w' M { S with pend := g } D ∧ PWent w w' M M := by
  have hn : NoBytes w [M.mn] := fun j hj => h.nobytes j (mem_mem.2 (by simp at hj; simp [hj]))
  have hap := h.apart
  have hm' : ∀ j, (j = M.p ∨ j = M.ml ∨ j = M.ms ∨ M.G = some j ∨ M.vf.ownBlock = some j ∨ M.vw.ownBlock = some j ∨ j ∈ own M.b M.m M.vl) → j ∉ [M.mn] := by
    intro j hj e
    simp only [List.mem_singleton] at e
    subst e
    have hap2 : (M.mn :: M.p :: M.ml :: M.ms :: (M.G.toList ++ M.vf.ownBlock.toList ++ M.vw.ownBlock.toList ++ YtfmdmfiljplkoaaGreat.own M.b M.m M.vl)).Nodup := by
      refine (List.Perm.nodup_iff ?_).1 hap
      rw [List.perm_iff_count]
      intro a
      simp only [Mem.own, List.count_cons]
      omega
    refine (List.nodup_cons.1 hap2).1 ?_
    simp [Option.mem_toList]
    exact hj
  refine ⟨⟨h.blk.turn ht (hm' _ (by simp)), h.disk.turn ht hn (fun j hj => hm' j (by simp [hj])), h.log.turn ht (fun g e => hm' g (by simp [e])), h.free.turn ht (fun g e => hm' g (by simp [e])), h.wfree.turn ht (fun g e => hm' g (by simp [e])),
    h.last.turn ht hn (hm' _ (by simp)), hm, h.seen.turn ht hn (hm' _ (by simp)), hap⟩, PWent.of_turn ht (by intro j hj; simp at hj; subst hj; exact mem_mem.2 (by simp))⟩
theorem PoolAt.set_seen (h : PoolAt w M S D) {g : Pgs} (hm : PgMap w' M.ms D.sectors g) (ht : Turn [M.ms] w w') :
    PoolAt w' M { S with seen := g } D ∧ PWent w w' M M := by
  have hn : NoBytes w [M.ms] := fun j hj => h.nobytes j (mem_mem.2 (by simp at hj; simp [hj]))
  have hap := h.apart
  have hm' : ∀ j, (j = M.p ∨ j = M.ml ∨ j = M.mn ∨ M.G = some j ∨ M.vf.ownBlock = some j ∨ M.vw.ownBlock = some j ∨ j ∈ own M.b M.m M.vl) → j ∉ [M.ms] := by
    intro j hj e
    simp only [List.mem_singleton] at e
    subst e
    have hap2 : (M.ms :: M.p :: M.ml :: M.mn :: (M.G.toList ++ M.vf.ownBlock.toList ++ M.vw.ownBlock.toList ++ YtfmdmfiljplkoaaGreat.own M.b M.m M.vl)).Nodup := by
      refine (List.Perm.nodup_iff ?_).1 hap
      rw [List.perm_iff_count]
      intro a
      simp only [Mem.own, List.count_cons]
      omega
    refine (List.nodup_cons.1 hap2).1 ?_
    simp [Option.mem_toList]
    exact hj
  refine ⟨⟨h.blk.turn ht (hm' _ (by simp)), h.disk.turn ht hn (fun j hj => hm' j (by simp [hj])), h.log.turn ht (fun g e => hm' g (by simp [e])), h.free.turn ht (fun g e => hm' g (by simp [e])), h.wfree.turn ht (fun g e => hm' g (by simp [e])),
    h.last.turn ht hn (hm' _ (by simp)), h.pend.turn ht hn (hm' _ (by simp)), hm, hap⟩, PWent.of_turn ht (by intro j hj; simp at hj; subst hj; exact mem_mem.2 (by simp))⟩
theorem ixm0 (a b c : Option Nat) (w : World) : (Instr.index 233 (.agg #[.map a, .map b, .map c]) (.int .i64 0)).run Tryz.prog w = .ok (.map a) w := by kernel_rfl
theorem ixm1 (a b c : Option Nat) (w : World) : (Instr.index 233 (.agg #[.map a, .map b, .map c]) (.int .i64 1)).run Tryz.prog w = .ok (.map b) w := by kernel_rfl
theorem ixm2 (a b c : Option Nat) (w : World) : (Instr.index 233 (.agg #[.map a, .map b, .map c]) (.int .i64 2)).run Tryz.prog w = .ok (.map c) w := by kernel_rfl
theorem placeL_len (h : D.Ok) {first page : Nat} : (placeL D first page).length = D.rm := by
  have h1 := rm_fit h
  have h2 := h.z1
  have h3 := (Dsk.tells_ok h ((first : Int) + page)).1
  unfold placeL
  by_cases hc : readErr (D.tells ((first : Int) + page)) = 0 ∧ readMark (D.tells ((first : Int) + page)) = ((page + 1 : Nat) : Int)
  · simp only [hc, and_self, if_true]
    rw [List.length_take, readLoad_len hc.1 (by omega)]
    omega
  · simp only [hc, if_false]
    simp
/-- A page as it is known. -/
def Pl.known (S : Pl) (page : Nat) : Option (List Nat) := ((S.pend page).or (S.last page)).or (S.seen page)
/-- What is seen behind a reading of a page's place. -/
def Pl.see (S : Pl) (N page : Nat) (l : List Nat) : Pl := { S with seen := (if 64 ≤ (S.seen.keys N).length then Pgs.none_ else S.seen).put page l }
set_option maxHeartbeats 4000000 in
/-- A page that is known. -/
theorem load_known (h : PoolAt w M S D) (page : Nat) (hp : (page : Int) ≤ 2147483647) (l : List Nat) (hk : S.known page = some l) (hl : l ≠ []) (hl2 : l.length ≤ 5000) :
    Calls Tryz.prog 106 #[.pointer (some ⟨M.p, 0, none⟩), .int .i64 page] w fun e w' => ∃ u, e = .returned u ∧ ∃ v, u = .tuple #[v, .int .i64 0] ∧ Byt w' v l ∧ Below w.heap.size w w' := by
  have hc1 := h.c_pend
  have hc2 := h.c_last
  have hc3 := h.c_seen
  have X0 := ixm0 (some M.mn) (some M.ml) (some M.ms)
  have X1 := ixm1 (some M.mn) (some M.ml) (some M.ms)
  have X2 := ixm2 (some M.mn) (some M.ml) (some M.ms)
  have H := Lib.hid h
  have HK := Lib.hid hk
  have HL := Lib.hid (And.intro hl hl2)
  clear h hk hl hl2
  go_enter Tryz.func106, Tryz.ntmps106
  go_wp2_with fail
  go_quiet (fail)
  obtain ⟨w1, hw1⟩ : ∃ w1, w1 = w.drewN nq := ⟨_, rfl⟩
  have HB1 : Hid (Below w.heap.size w w1) := Lib.hid (by rw [hw1]; exact below_drewN w nq)
  have HP1 := Lib.hid (H.out.grew HB1.out)
  rw [← hw1]
  clear hw1 hc1 hc2 hc3
  go_wp2_with fail
  go_loop [25] (fun i => ∃ k : Nat, k ≤ 3 ∧ i = .int .i64 k ∧ (0 < k → S.pend page = none) ∧ (1 < k → S.last page = none) ∧ (2 < k → S.seen page = none)) (fun i => 3 - (intOf i).toNat)
  case atStart => exact ⟨0, by omega, rfl, by omega, by omega, by omega⟩
  case round =>
    obtain ⟨k, hk, rfl, N0, N1, N2⟩ := hrel
    have hcs : k = 0 ∨ k = 1 ∨ k = 2 ∨ k = 3 := by omega
    rcases hcs with rfl | rfl | rfl | rfl
    · cases hm : S.pend page with
      | some l' =>
        have hl' : l' = l := by have := HK.out; unfold Pl.known at this; simp [hm] at this; exact this
        subst hl'
        obtain ⟨v, hrun, hby⟩ := HP1.out.pend.look_some hm
        obtain ⟨p, c, rfl, hc, hrd⟩ := hby.rd
        have HCL := Lib.hid (BClone_any (c := c) rfl hrd (by have := HL.out; omega))
        clear hby hrd
        go_wp2_with fail
        refine HCL.out.mono ?_
        rintro e w2 ⟨v2, rfl, ho2, hb2⟩
        have HO2 := Lib.hid (Byt.of_own ho2 HL.out.1)
        have HB2 := Lib.hid (HB1.out.trans (hb2.mono HB1.out.size))
        clear ho2 hb2 HCL
        go_wp2
        go_ret2
        exact ⟨_, rfl, _, rfl, HO2.out, HB2.out⟩
      | none =>
        obtain ⟨v, hrun⟩ := HP1.out.pend.look_none (by omega) hm
        go_wp2
        go_round
        case rel => exact ⟨1, by omega, rfl, by first | assumption | (intro hx; first | trivial | assumption | omega), by first | assumption | (intro hx; first | trivial | assumption | omega), by first | assumption | (intro hx; first | trivial | assumption | omega)⟩
        case measure => simp [intOf]
    · have n0 := N0 (by omega)
      cases hm : S.last page with
      | some l' =>
        have hl' : l' = l := by have := HK.out; unfold Pl.known at this; simp [hm, n0] at this; exact this
        subst hl'
        obtain ⟨v, hrun, hby⟩ := HP1.out.last.look_some hm
        obtain ⟨p, c, rfl, hc, hrd⟩ := hby.rd
        have HCL := Lib.hid (BClone_any (c := c) rfl hrd (by have := HL.out; omega))
        clear hby hrd
        go_wp2_with fail
        refine HCL.out.mono ?_
        rintro e w2 ⟨v2, rfl, ho2, hb2⟩
        have HO2 := Lib.hid (Byt.of_own ho2 HL.out.1)
        have HB2 := Lib.hid (HB1.out.trans (hb2.mono HB1.out.size))
        clear ho2 hb2 HCL
        go_wp2
        go_ret2
        exact ⟨_, rfl, _, rfl, HO2.out, HB2.out⟩
      | none =>
        obtain ⟨v, hrun⟩ := HP1.out.last.look_none (by omega) hm
        go_wp2
        go_round
        case rel => exact ⟨2, by omega, rfl, by first | assumption | (intro hx; first | trivial | assumption | omega), by first | assumption | (intro hx; first | trivial | assumption | omega), by first | assumption | (intro hx; first | trivial | assumption | omega)⟩
        case measure => simp [intOf]
    · have n0 := N0 (by omega)
      have n1 := N1 (by omega)
      cases hm : S.seen page with
      | some l' =>
        have hl' : l' = l := by have := HK.out; unfold Pl.known at this; simp [hm, n0, n1] at this; exact this
        subst hl'
        obtain ⟨v, hrun, hby⟩ := HP1.out.seen.look_some hm
        obtain ⟨p, c, rfl, hc, hrd⟩ := hby.rd
        have HCL := Lib.hid (BClone_any (c := c) rfl hrd (by have := HL.out; omega))
        clear hby hrd
        go_wp2_with fail
        refine HCL.out.mono ?_
        rintro e w2 ⟨v2, rfl, ho2, hb2⟩
        have HO2 := Lib.hid (Byt.of_own ho2 HL.out.1)
        have HB2 := Lib.hid (HB1.out.trans (hb2.mono HB1.out.size))
        clear ho2 hb2 HCL
        go_wp2
        go_ret2
        exact ⟨_, rfl, _, rfl, HO2.out, HB2.out⟩
      | none =>
        obtain ⟨v, hrun⟩ := HP1.out.seen.look_none (by omega) hm
        go_wp2
        go_round
        case rel => exact ⟨3, by omega, rfl, by first | assumption | (intro hx; first | trivial | assumption | omega), by first | assumption | (intro hx; first | trivial | assumption | omega), by first | assumption | (intro hx; first | trivial | assumption | omega)⟩
        case measure => simp [intOf]
    · exfalso
      have := HK.out
      unfold Pl.known at this
      rw [N0 (by omega), N1 (by omega), N2 (by omega)] at this
      cases this
set_option maxHeartbeats 8000000 in
/-- A page that is not known: its place is read, and kept. -/
theorem load_new (h : PoolAt w M S D) (h1 : 1 ≤ D.rm) (hf : S.first ≤ 1048576) (hL : D.loose.length ≤ 1000000000) (page : Nat) (hp : (page : Int) ≤ 2147483647) (hpg : page < D.sectors) (hr : D.ready ((S.first : Int) + page) = 0) (hk : S.known page = none) :
    Calls Tryz.prog 106 #[.pointer (some ⟨M.p, 0, none⟩), .int .i64 page] w fun e w' => ∃ u, e = .returned u ∧ ∃ v, u = .tuple #[v, .int .i64 0] ∧ Byt w' v (placeL D S.first page) ∧ PoolAt w' M (S.see D.sectors page (placeL D S.first page)) D ∧ PWent w w' M M := by
  have hc1 := h.c_pend
  have hc2 := h.c_last
  have hc3 := h.c_seen
  have X0 := ixm0 (some M.mn) (some M.ml) (some M.ms)
  have X1 := ixm1 (some M.mn) (some M.ml) (some M.ms)
  have X2 := ixm2 (some M.mn) (some M.ml) (some M.ms)
  have H := Lib.hid h
  have HPG := Lib.hid hpg
  obtain ⟨n0, n1, n2⟩ : S.pend page = none ∧ S.last page = none ∧ S.seen page = none := by
    unfold Pl.known at hk
    rw [Option.or_eq_none_iff, Option.or_eq_none_iff] at hk
    exact ⟨hk.1.1, hk.1.2, hk.2⟩
  have hPL : (placeL D S.first page).length = D.rm := placeL_len h.disk.ok
  have HCP := Lib.hid (fun w' (k : Below w.heap.size w w') => place_yes (h.grew k) h1 hf hL page hp hr)
  have hrm := rm_le D
  generalize placeL D S.first page = PL at *
  have HSEE : Hid ((64 ≤ (S.seen.keys D.sectors).length → S.see D.sectors page PL = { S with seen := Pgs.none_.put page PL }) ∧ (¬ 64 ≤ (S.seen.keys D.sectors).length → S.see D.sectors page PL = { S with seen := S.seen.put page PL })) :=
    Lib.hid ⟨fun h => by unfold Pl.see; rw [if_pos h], fun h => by unfold Pl.see; rw [if_neg h]⟩
  generalize S.see D.sectors page PL = SE at *
  have HNE : Hid (PL ≠ []) := Lib.hid (by intro e; rw [e] at hPL; simp at hPL; omega)
  have HPLL := Lib.hid hPL
  clear h hk hPL hr hL
  go_enter Tryz.func106, Tryz.ntmps106
  go_wp2_with fail
  go_quiet (fail)
  obtain ⟨w1, hw1⟩ : ∃ w1, w1 = w.drewN nq := ⟨_, rfl⟩
  have HB1 : Hid (Below w.heap.size w w1) := Lib.hid (by rw [hw1]; exact below_drewN w nq)
  have HP1 := Lib.hid (H.out.grew HB1.out)
  rw [← hw1]
  clear hw1 hc1 hc2 hc3
  obtain ⟨v0, hrun0⟩ := HP1.out.pend.look_none (by omega) n0
  obtain ⟨v1, hrun1⟩ := HP1.out.last.look_none (by omega) n1
  obtain ⟨v2, hrun2⟩ := HP1.out.seen.look_none (by omega) n2
  go_wp2_with fail
  go_loop [25] (fun i => ∃ k : Nat, k ≤ 3 ∧ i = .int .i64 k) (fun i => 3 - (intOf i).toNat)
  case atStart => exact ⟨0, by omega, rfl⟩
  case round =>
    obtain ⟨k, hk, rfl⟩ := hrel
    have hcs : k = 0 ∨ k = 1 ∨ k = 2 ∨ k = 3 := by omega
    rcases hcs with rfl | rfl | rfl | rfl
    · go_wp2
      go_round
      case rel => exact ⟨1, by omega, rfl⟩
      case measure => simp [intOf]
    · go_wp2
      go_round
      case rel => exact ⟨2, by omega, rfl⟩
      case measure => simp [intOf]
    · go_wp2
      go_round
      case rel => exact ⟨3, by omega, rfl⟩
      case measure => simp [intOf]
    · clear hrun0 hrun1 hrun2 X0 X1 X2
      have HCP1 := Lib.hid (HCP.out _ HB1.out)
      clear HCP
      go_wp2_with fail
      refine HCP1.out.mono ?_
      rintro e w2 ⟨u, rfl, x, rfl, hbx, hb2⟩
      obtain ⟨p, c, e, hc, hrd⟩ := hbx.rd
      subst e
      rw [HPLL.out] at hbx ⊢
      have HP2 := Lib.hid (And.intro (HP1.out.grew hb2) hbx)
      have HW2 : Hid (PWent w w2 M M) := Lib.hid (PWent.of_below (HB1.out.trans (hb2.mono HB1.out.size)))
      generalize hn : D.rm = n at *
      have hcs2 := HP2.out.1.c_seen
      have hlen := HP2.out.1.seen.len 3
      have hkn : (S.seen.keys D.sectors).length ≤ 1048576 := Nat.le_trans keys_lenle (HP2.out.1.seen.n)
      clear hbx hrd hc hb2 HCP1
      by_cases h64 : 64 ≤ (S.seen.keys D.sectors).length
      · obtain ⟨w3, hrun3, hm3, ht3⟩ := HP2.out.1.seen.clear 0
        have hs3 := HP2.out.1.set_seen hm3 ht3
        obtain ⟨S2, hS2⟩ : ∃ S2 : Pl, S2 = { S with seen := Pgs.none_ } := ⟨_, rfl⟩
        have HP : Hid (PoolAt w3 M S2 D ∧ Byt w3 (.slice (some p) n c) PL) := Lib.hid ⟨by rw [hS2]; exact hs3.1, HP2.out.2.turn ht3 (map_nobytes HP2.out.1.seen)⟩
        have HWE : Hid (PWent w w3 M M) := Lib.hid (HW2.out.trans hs3.2)
        have hcs3 := HP.out.1.c_seen
        have HR3 := Lib.hid hrun3
        clear hm3 ht3 hs3
        obtain ⟨K, hK⟩ : ∃ K, K = (S.seen.keys D.sectors).length := ⟨_, rfl⟩
        rw [← hK] at hlen hkn h64
        have HK := Lib.hid (And.intro hK h64)
        have h64' : (64 : Int) ≤ K := by omega
        clear hK
        go_wp2_with fail
        refine wp_region_H (fun v => v.cell? ⟨M.p, 27, none⟩ = some (.map (some M.ms))) (by kernel_rfl) (fun v0 hv0 => ?_)
        have hS0 : (fun v => v.cell? ⟨M.p, 27, none⟩ = some (.map (some M.ms))) v0 := by subst hv0; exact (HP.out.1.drew).c_seen
        have HV0 : Hid (PoolAt v0 M S2 D ∧ Byt v0 (.slice (some p) n c) PL) := Lib.hid (by subst hv0; exact ⟨HP.out.1.drew, HP.out.2.drew⟩)
        have HW0 : Hid (PWent w v0 M M) := Lib.hid (by subst hv0; exact HWE.out.tail (Below.refl _ _).drew)
        clear hv0 HP HWE
        refine wpH_take (i := 0) (v := ?_) rfl rfl (by kernel_rfl) (by kernel_rfl) (by kernel_rfl) (fun _ _ _ h => h) (Or.inl ⟨by rfl, ?_⟩) hS0 ?_
        rotate_left
        · (intro w_ hw_; go_simp; try with_reducible rfl)
        simp only [List.setIfInBounds_toArray, List.set_cons_zero, List.set_cons_succ]
        refine wpH_take (i := 1) (v := ?_) rfl rfl (by kernel_rfl) (by kernel_rfl) (by kernel_rfl) (fun _ _ _ h => h) (Or.inl ⟨by rfl, ?_⟩) hS0 ?_
        rotate_left
        · (intro w_ hw_; have q1 := hw_; go_simp; try with_reducible rfl)
        simp only [List.setIfInBounds_toArray, List.set_cons_zero, List.set_cons_succ]
        refine wpH_take (i := 2) (v := ?_) rfl rfl (by kernel_rfl) (by kernel_rfl) (by kernel_rfl) (fun _ _ _ h => h) (Or.inl ⟨by rfl, ?_⟩) hS0 ?_
        rotate_left
        · (intro w_ hw_; go_simp; try with_reducible rfl)
        simp only [List.setIfInBounds_toArray, List.set_cons_zero, List.set_cons_succ]
        refine wpH_take (i := 3) (v := ?_) rfl rfl (by kernel_rfl) (by kernel_rfl) (by kernel_rfl) (fun _ _ _ h => h) (Or.inl ⟨by rfl, ?_⟩) hS0 ?_
        rotate_left
        · (intro w_ hw_; have q1 := hw_; go_simp; try with_reducible rfl)
        simp only [List.setIfInBounds_toArray, List.set_cons_zero, List.set_cons_succ]
        refine wpH_take (i := 4) (v := ?_) rfl rfl (by kernel_rfl) (by kernel_rfl) (by kernel_rfl) (fun _ _ _ h => h) (Or.inl ⟨by rfl, ?_⟩) hS0 ?_
        rotate_left
        · (intro w_ hw_; go_simp; try with_reducible rfl)
        simp only [List.setIfInBounds_toArray, List.set_cons_zero, List.set_cons_succ]
        refine wpH_take (i := 5) (v := ?_) rfl rfl (by kernel_rfl) (by kernel_rfl) (by kernel_rfl) (fun _ _ _ h => h) (Or.inl ⟨by rfl, ?_⟩) hS0 ?_
        rotate_left
        · (intro w_ hw_; go_simp; try with_reducible rfl)
        simp only [List.setIfInBounds_toArray, List.set_cons_zero, List.set_cons_succ]
        refine wpH_callv (i := 6) (by kernel_rfl) rfl rfl (by rfl) ((BClone_any (c := c) HV0.out.2.len_val HV0.out.2.rdv (by omega))) (by go_simp) ?_
        rintro x1 v1 ⟨ho1, hb1⟩
        have hS1 : (fun v => v.cell? ⟨M.p, 27, none⟩ = some (.map (some M.ms))) v1 := (HV0.out.1.grew hb1).c_seen
        clear hS0
        refine ⟨hS1, ?_⟩
        simp only [List.setIfInBounds_toArray, List.set_cons_zero, List.set_cons_succ]
        have hx1 := Byt.of_own ho1 HNE.out
        have HV1 : Hid (PoolAt v1 M S2 D ∧ Byt v1 (.slice (some p) n c) PL) := Lib.hid ⟨HV0.out.1.grew hb1, HV0.out.2.grew hb1⟩
        have HW1 : Hid (PWent w v1 M M) := Lib.hid (HW0.out.tail hb1)
        obtain ⟨v2, hrun, hm2, ht2⟩ := HV1.out.1.seen.store (k := page) HPG.out hx1
        have hs2 := HV1.out.1.set_seen hm2 ht2
        have HV2 : Hid (PoolAt v2 M { S2 with seen := S2.seen.put page PL } D ∧ Byt v2 (.slice (some p) n c) PL) := Lib.hid ⟨hs2.1, HV1.out.2.turn ht2 (map_nobytes HV1.out.1.seen)⟩
        have HW2 : Hid (PWent w v2 M M) := Lib.hid (HW1.out.trans hs2.2)
        clear hm2 ht2 hs2 hx1 ho1 hb1
        have hS2 : (fun v => v.cell? ⟨M.p, 27, none⟩ = some (.map (some M.ms))) v2 := HV2.out.1.c_seen
        clear hS1
        refine wpH_store (i := 7) (w' := v2) (by kernel_rfl) rfl rfl (by rfl) (by exact exec_mapUpdate _ (.tmp 60) (.tmp 61) (.tmp 63) rfl rfl rfl rfl hrun) hS2 ?_
        clear hS2
        refine wpAnyH_done (by kernel_rfl) ?_ _
        go_wp2
        go_ret2
        refine ⟨_, rfl, _, rfl, HV2.out.2, ?_, HW2.out⟩
        have := HV2.out.1
        rw [hS2] at this
        rw [HSEE.out.1 (by rw [← HK.out.1]; exact HK.out.2)]
        exact this
      · obtain ⟨S2, hS2⟩ : ∃ S2 : Pl, S2 = S := ⟨_, rfl⟩
        have HP : Hid (PoolAt w2 M S2 D ∧ Byt w2 (.slice (some p) n c) PL) := Lib.hid ⟨by rw [hS2]; exact HP2.out.1, HP2.out.2⟩
        have HWE : Hid (PWent w w2 M M) := HW2
        obtain ⟨K, hK⟩ : ∃ K, K = (S.seen.keys D.sectors).length := ⟨_, rfl⟩
        rw [← hK] at hlen hkn h64
        have HK := Lib.hid (And.intro hK h64)
        have h64' : ¬ (64 : Int) ≤ K := by omega
        clear hK
        go_wp2_with fail
        refine wp_region_H (fun v => v.cell? ⟨M.p, 27, none⟩ = some (.map (some M.ms))) (by kernel_rfl) (fun v0 hv0 => ?_)
        have hS0 : (fun v => v.cell? ⟨M.p, 27, none⟩ = some (.map (some M.ms))) v0 := by subst hv0; exact (HP.out.1.drew).c_seen
        have HV0 : Hid (PoolAt v0 M S2 D ∧ Byt v0 (.slice (some p) n c) PL) := Lib.hid (by subst hv0; exact ⟨HP.out.1.drew, HP.out.2.drew⟩)
        have HW0 : Hid (PWent w v0 M M) := Lib.hid (by subst hv0; exact HWE.out.tail (Below.refl _ _).drew)
        clear hv0 HP HWE
        refine wpH_take (i := 0) (v := ?_) rfl rfl (by kernel_rfl) (by kernel_rfl) (by kernel_rfl) (fun _ _ _ h => h) (Or.inl ⟨by rfl, ?_⟩) hS0 ?_
        rotate_left
        · (intro w_ hw_; go_simp; try with_reducible rfl)
        simp only [List.setIfInBounds_toArray, List.set_cons_zero, List.set_cons_succ]
        refine wpH_take (i := 1) (v := ?_) rfl rfl (by kernel_rfl) (by kernel_rfl) (by kernel_rfl) (fun _ _ _ h => h) (Or.inl ⟨by rfl, ?_⟩) hS0 ?_
        rotate_left
        · (intro w_ hw_; have q1 := hw_; go_simp; try with_reducible rfl)
        simp only [List.setIfInBounds_toArray, List.set_cons_zero, List.set_cons_succ]
        refine wpH_take (i := 2) (v := ?_) rfl rfl (by kernel_rfl) (by kernel_rfl) (by kernel_rfl) (fun _ _ _ h => h) (Or.inl ⟨by rfl, ?_⟩) hS0 ?_
        rotate_left
        · (intro w_ hw_; go_simp; try with_reducible rfl)
        simp only [List.setIfInBounds_toArray, List.set_cons_zero, List.set_cons_succ]
        refine wpH_take (i := 3) (v := ?_) rfl rfl (by kernel_rfl) (by kernel_rfl) (by kernel_rfl) (fun _ _ _ h => h) (Or.inl ⟨by rfl, ?_⟩) hS0 ?_
        rotate_left
        · (intro w_ hw_; have q1 := hw_; go_simp; try with_reducible rfl)
        simp only [List.setIfInBounds_toArray, List.set_cons_zero, List.set_cons_succ]
        refine wpH_take (i := 4) (v := ?_) rfl rfl (by kernel_rfl) (by kernel_rfl) (by kernel_rfl) (fun _ _ _ h => h) (Or.inl ⟨by rfl, ?_⟩) hS0 ?_
        rotate_left
        · (intro w_ hw_; go_simp; try with_reducible rfl)
        simp only [List.setIfInBounds_toArray, List.set_cons_zero, List.set_cons_succ]
        refine wpH_take (i := 5) (v := ?_) rfl rfl (by kernel_rfl) (by kernel_rfl) (by kernel_rfl) (fun _ _ _ h => h) (Or.inl ⟨by rfl, ?_⟩) hS0 ?_
        rotate_left
        · (intro w_ hw_; go_simp; try with_reducible rfl)
        simp only [List.setIfInBounds_toArray, List.set_cons_zero, List.set_cons_succ]
        refine wpH_callv (i := 6) (by kernel_rfl) rfl rfl (by rfl) ((BClone_any (c := c) HV0.out.2.len_val HV0.out.2.rdv (by omega))) (by go_simp) ?_
        rintro x1 v1 ⟨ho1, hb1⟩
        have hS1 : (fun v => v.cell? ⟨M.p, 27, none⟩ = some (.map (some M.ms))) v1 := (HV0.out.1.grew hb1).c_seen
        clear hS0
        refine ⟨hS1, ?_⟩
        simp only [List.setIfInBounds_toArray, List.set_cons_zero, List.set_cons_succ]
        have hx1 := Byt.of_own ho1 HNE.out
        have HV1 : Hid (PoolAt v1 M S2 D ∧ Byt v1 (.slice (some p) n c) PL) := Lib.hid ⟨HV0.out.1.grew hb1, HV0.out.2.grew hb1⟩
        have HW1 : Hid (PWent w v1 M M) := Lib.hid (HW0.out.tail hb1)
        obtain ⟨v2, hrun, hm2, ht2⟩ := HV1.out.1.seen.store (k := page) HPG.out hx1
        have hs2 := HV1.out.1.set_seen hm2 ht2
        have HV2 : Hid (PoolAt v2 M { S2 with seen := S2.seen.put page PL } D ∧ Byt v2 (.slice (some p) n c) PL) := Lib.hid ⟨hs2.1, HV1.out.2.turn ht2 (map_nobytes HV1.out.1.seen)⟩
        have HW2 : Hid (PWent w v2 M M) := Lib.hid (HW1.out.trans hs2.2)
        clear hm2 ht2 hs2 hx1 ho1 hb1
        have hS2 : (fun v => v.cell? ⟨M.p, 27, none⟩ = some (.map (some M.ms))) v2 := HV2.out.1.c_seen
        clear hS1
        refine wpH_store (i := 7) (w' := v2) (by kernel_rfl) rfl rfl (by rfl) (by exact exec_mapUpdate _ (.tmp 60) (.tmp 61) (.tmp 63) rfl rfl rfl rfl hrun) hS2 ?_
        clear hS2
        refine wpAnyH_done (by kernel_rfl) ?_ _
        go_wp2
        go_ret2
        refine ⟨_, rfl, _, rfl, HV2.out.2, ?_, HW2.out⟩
        have := HV2.out.1
        rw [hS2] at this
        rw [HSEE.out.2 (by rw [← HK.out.1]; exact HK.out.2)]
        exact this
end
end Go.Proofs.YtfmdmfiljplkoaaGreat
namespace Go.Proofs.YtfmdmfiljplkoaaGreat
open Go.RowKit Go.Maps
set_option maxRecDepth 8000
variable {ι : Type} [Bar ι]
theorem nodup_len : ∀ (n : Nat) (l : List Nat), l.Nodup → (∀ k ∈ l, k < n) → l.length ≤ n
  | 0, l, _, h => by
    cases l with
    | nil => simp
    | cons a r => have := h a (by simp); omega
  | n + 1, l, hd, h => by
    have h1 := nodup_len n (l.erase n) (hd.erase n) fun k hk => by
      have := (hd.mem_erase_iff).1 hk
      have := h k this.2
      omega
    rw [List.length_erase] at h1
    split at h1 <;> omega
/-- What a state keeps to, with P pages. -/
structure Sta.Ok (s : Sta) (P : Nat) : Prop where
  n1 : 1 ≤ s.next
  n2 : s.next ≤ P
  nd : s.free.Nodup
  fb : ∀ k ∈ s.free, 1 ≤ k ∧ k < s.next
  rt : ∀ k, 0 ≤ s.roots.get k ∧ s.roots.get k ≤ 2147483647
def Pgs.Ok (f : Pgs) (P r : Nat) : Prop := ∀ k l, f k = some l → k < P ∧ l.length = r
def Pl.pages (S : Pl) (D : Dsk) : Nat := D.sectors - S.first
structure Pl.Ok (S : Pl) (D : Dsk) : Prop where
  z : 512 ≤ D.size
  s : 24 ≤ D.sectors
  s2 : D.sectors ≤ 1048576
  slots : S.slots = (D.sectors - 2) / 4
  first : S.first = 2 + S.slots
  now : S.now.Ok (S.pages D)
  was : S.was.Ok (S.pages D)
  last : S.last.Ok (S.pages D) D.rm
  pend : S.pend.Ok (S.pages D) D.rm
  seen : S.seen.Ok (S.pages D) D.rm
section
variable {w w' : World} {M : Mem} {S : Pl} {D D' : Dsk} {s : Sta} {P : Nat}
theorem Sta.Ok.len (h : s.Ok P) : s.free.length + 1 ≤ s.next := by
  have h1 := nodup_len (s.next - 1) (s.free.map (· - 1)) (by
    refine List.pairwise_map.2 (h.nd.imp_of_mem fun {a b} ha hb hab => ?_)
    have := h.fb a ha; have := h.fb b hb
    omega) (fun k hk => by
      obtain ⟨j, hj, rfl⟩ := List.mem_map.1 hk
      have := h.fb j hj
      omega)
  have := h.n1
  simp at h1
  omega
theorem Pl.Ok.rm1 (h : S.Ok D) (hd : D.Ok) : 460 ≤ D.rm := by
  have h1 := h.z
  have h2 := hd.z2
  have h3 := lroom_rm D
  have hk : okSize D.size = true := by simp [okSize]; omega
  unfold lroom room at h3
  rw [if_pos hk] at h3
  omega
theorem Pl.Ok.fst (h : S.Ok D) : S.first ≤ D.sectors := by
  have := h.first; have := h.slots; have := h.s
  omega
theorem Pl.Ok.free_le (h : S.Ok D) : S.now.free.length ≤ 1048576 := by
  have := h.now.len; have := h.now.n2; have := h.s2
  unfold Pl.pages at *
  omega
theorem taken_bounds (h : S.Ok D) {page : Int} (ht : S.now.taken page = true) : ∃ k : Nat, page = k ∧ 1 ≤ k ∧ k < S.now.next ∧ S.first + k < D.sectors ∧ k < S.pages D ∧ k ∉ S.now.free := by
  unfold Sta.taken at ht
  simp only [Bool.and_eq_true, decide_eq_true_eq, Bool.not_eq_true'] at ht
  obtain ⟨⟨h1, h2⟩, h3⟩ := ht
  have h4 := h.now.n2
  refine ⟨page.toNat, by omega, by omega, by omega, ?_, by omega, fun hm => ?_⟩
  · unfold Pl.pages at h4; omega
  · have : ((S.now.free.map fun n : Nat => (n : Int)).contains page) = true := by
      rw [List.contains_iff_mem]
      exact List.mem_map.2 ⟨page.toNat, hm, by omega⟩
    rw [this] at h3
    cases h3
theorem ready_calm (hd : D.down = false) {a : Int} (h0 : 0 ≤ a) (h1 : a < D.sectors) : D.ready a = 0 := by
  unfold Dsk.ready
  rw [hd]
  simp
  omega
theorem Pl.Ok.known (h : S.Ok D) {k : Nat} {l : List Nat} (hk : S.known k = some l) : l.length = D.rm ∧ k < S.pages D := by
  unfold Pl.known at hk
  cases h1 : S.pend k with
  | some x => rw [h1] at hk; simp at hk; subst hk; exact ⟨(h.pend k x h1).2, (h.pend k x h1).1⟩
  | none =>
    rw [h1] at hk
    cases h2 : S.last k with
    | some x => rw [h2] at hk; simp at hk; subst hk; exact ⟨(h.last k x h2).2, (h.last k x h2).1⟩
    | none =>
      rw [h2] at hk
      simp at hk
      exact ⟨(h.seen k l hk).2, (h.seen k l hk).1⟩
theorem Pgs.Ok.put {f : Pgs} {P r k : Nat} {l : List Nat} (h : f.Ok P r) (hk : k < P) (hl : l.length = r) : (f.put k l).Ok P r := by
  intro j u hj
  unfold Pgs.put at hj
  split at hj
  · rename_i e; cases hj; subst e; exact ⟨hk, hl⟩
  · exact h j u hj
theorem Pgs.Ok.none_ {P r : Nat} : Pgs.none_.Ok P r := fun k l h => by simp [Pgs.none_] at h
/-- What a page holds. -/
def Pl.page (S : Pl) (D : Dsk) (k : Nat) : List Nat := (S.known k).getD (placeL D S.first k)
/-- Behind a load. -/
def Pl.loaded (S : Pl) (D : Dsk) (k : Nat) : Pl := if (S.known k).isSome then S else S.see D.sectors k (placeL D S.first k)
theorem Pl.Ok.page_len (h : S.Ok D) (hd : D.Ok) (k : Nat) : (S.page D k).length = D.rm := by
  unfold Pl.page
  cases hk : S.known k with
  | some l => exact (h.known hk).1
  | none => exact placeL_len hd
/-- A page's load, on a calm disk. -/
theorem load_any (h : PoolAt w M S D) (ok : S.Ok D) (hL : D.loose.length ≤ 1000000000) (hd : D.down = false) (page : Nat) (hp : page < S.pages D) :
    Calls Tryz.prog 106 #[.pointer (some ⟨M.p, 0, none⟩), .int .i64 page] w fun e w' => ∃ u, e = .returned u ∧ ∃ v, u = .tuple #[v, .int .i64 0] ∧ Byt w' v (S.page D page) ∧ PoolAt w' M (S.loaded D page) D ∧ PWent w w' M M := by
  have hs2 := ok.s2
  have hrm := ok.rm1 h.disk.ok
  have hrl := rm_le D
  have hfs := ok.fst
  have hpp : page < D.sectors - S.first := hp
  cases hk : S.known page with
  | some l =>
    have hl := (ok.known hk).1
    have e1 : S.page D page = l := by unfold Pl.page; rw [hk]; rfl
    have e2 : S.loaded D page = S := by unfold Pl.loaded; rw [hk]; rfl
    rw [e1, e2]
    refine (load_known h page (by omega) l hk (by intro e; rw [e] at hl; simp at hl; omega) (by omega)).mono ?_
    rintro e w' ⟨u, rfl, v, rfl, hb, hg⟩
    exact ⟨_, rfl, v, rfl, hb, h.grew hg, PWent.of_below hg⟩
  | none =>
    have e1 : S.page D page = placeL D S.first page := by unfold Pl.page; rw [hk]; rfl
    have e2 : S.loaded D page = S.see D.sectors page (placeL D S.first page) := by unfold Pl.loaded; rw [hk]; rfl
    rw [e1, e2]
    exact load_new h (by omega) (by omega) hL page (by omega) (by omega) (ready_calm hd (by omega) (by omega)) hk
theorem PRead_no (h : PoolAt w M S D) (ok : S.Ok D) (page : Int) (ht : S.now.taken page = false) :
    Calls Tryz.prog 53 #[.pointer (some ⟨M.p, 0, none⟩), .int .i64 page] w fun e w' => e = .returned (.tuple #[nilv, .int .i64 7]) ∧ w' = w := by
  have HT := taken_any h ok.free_le page
  rw [ht] at HT
  have HT := Lib.hid HT
  clear h
  unfold nilv
  go_enter Tryz.func53, Tryz.ntmps53
  go_wp2_with fail
  refine HT.out.mono ?_
  rintro r w ⟨rfl, rfl⟩
  go_wp2
  go_ret2
  exact ⟨rfl, rfl⟩
theorem PRead_any (h : PoolAt w M S D) (ok : S.Ok D) (hL : D.loose.length ≤ 1000000000) (hd : D.down = false) (page : Nat) (ht : S.now.taken page = true) :
    Calls Tryz.prog 53 #[.pointer (some ⟨M.p, 0, none⟩), .int .i64 page] w fun e w' => ∃ u, e = .returned u ∧ ∃ v, u = .tuple #[v, .int .i64 0] ∧ Byt w' v (S.page D page) ∧ PoolAt w' M (S.loaded D page) D ∧ PWent w w' M M := by
  have HT := taken_any h ok.free_le page
  rw [ht] at HT
  have HT := Lib.hid HT
  obtain ⟨k, e, hk⟩ := taken_bounds ok ht
  have hpp : page < S.pages D := by omega
  have HL := Lib.hid (load_any h ok hL hd page hpp)
  clear h hk e
  go_enter Tryz.func53, Tryz.ntmps53
  go_wp2_with fail
  refine HT.out.mono ?_
  rintro r w ⟨rfl, rfl⟩
  go_wp2_with fail
  refine HL.out.mono ?_
  rintro r w2 ⟨u, rfl, v, rfl, hb⟩
  have HB := Lib.hid hb
  clear hb
  go_wp2
  go_ret2
  exact ⟨_, rfl, v, rfl, HB.out⟩
end
end Go.Proofs.YtfmdmfiljplkoaaGreat
namespace Go.Proofs.YtfmdmfiljplkoaaGreat
open Go.RowKit Go.Maps
set_option maxRecDepth 8000
variable {ι : Type} [Bar ι]
def Pl.write (S : Pl) (D : Dsk) (page : Int) (l : List Nat) : Int × Pl :=
  if S.dead then (21, S) else if S.now.taken page = false then (7, S) else if D.rm < l.length then (3, S)
  else (0, { S with pend := S.pend.put page.toNat (widen D.rm l) })
section
variable {w w' : World} {M : Mem} {S : Pl} {D D' : Dsk}
theorem PWrite_no (h : PoolAt w M S D) (ok : S.Ok D) (hd : S.dead = false) (page : Int) (v : Value) (ht : S.now.taken page = false) : Calls Tryz.prog 152 #[.pointer (some ⟨M.p, 0, none⟩), .int .i64 page, v] w fun e w' => e = .returned (.int .i64 7) ∧ w' = w := by
  have HR := ready_pool h
  rw [hd] at HR
  have HR := Lib.hid HR
  have HT := taken_any h ok.free_le page
  rw [ht] at HT
  have HT := Lib.hid HT
  clear h hd ht ok
  go_enter Tryz.func152, Tryz.ntmps152
  go_wp2_with fail
  refine HR.out.mono ?_
  rintro r w ⟨rfl, rfl⟩
  go_wp2_with fail
  refine HT.out.mono ?_
  rintro r w ⟨rfl, rfl⟩
  go_wp2
  go_ret
  exact ⟨rfl, rfl⟩
theorem PWrite_big (h : PoolAt w M S D) (ok : S.Ok D) (hd : S.dead = false) (page : Int) {A : Option Addr} {n c : Nat} (hn : D.rm < n) (ht : S.now.taken page = true) : Calls Tryz.prog 152 #[.pointer (some ⟨M.p, 0, none⟩), .int .i64 page, .slice A n c] w fun e w' => e = .returned (.int .i64 3) ∧ w' = w := by
  have HR := ready_pool h
  rw [hd] at HR
  have HR := Lib.hid HR
  have HT := taken_any h ok.free_le page
  rw [ht] at HT
  have HT := Lib.hid HT
  have HO := Room_any' h
  rw [lroom_rm] at HO
  have HO := Lib.hid HO
  have h1 : (D.rm : Int) < n := by omega
  clear h hd ht ok
  go_enter Tryz.func152, Tryz.ntmps152
  go_wp2_with fail
  refine HR.out.mono ?_
  rintro r w ⟨rfl, rfl⟩
  go_wp2_with fail
  refine HT.out.mono ?_
  rintro r w ⟨rfl, rfl⟩
  go_wp2_with fail
  refine HO.out.mono ?_
  rintro r w ⟨rfl, rfl⟩
  go_wp2
  go_ret
  exact ⟨rfl, rfl⟩
set_option maxHeartbeats 4000000 in
theorem PWrite_ok (h : PoolAt w M S D) (ok : S.Ok D) (hd : S.dead = false) (page : Nat) {A : Option Addr} {n c : Nat} {l : List Nat} (hln : l.length = n) (hr : Rd w w.heap.size A l) (hn : n ≤ D.rm) (ht : S.now.taken page = true) :
    Calls Tryz.prog 152 #[.pointer (some ⟨M.p, 0, none⟩), .int .i64 page, .slice A n c] w fun e w' => e = .returned (.int .i64 0) ∧ PoolAt w' M { S with pend := S.pend.put page (widen D.rm l) } D ∧ PWent w w' M M := by
  have HR := ready_pool h
  rw [hd] at HR
  have HR := Lib.hid HR
  have HT := taken_any h ok.free_le page
  rw [ht] at HT
  have HT := Lib.hid HT
  have HO := Room_any' h
  rw [lroom_rm] at HO
  have HO := Lib.hid HO
  have h1 : ¬ (D.rm : Int) < n := by omega
  have hw : (widen D.rm l).length = D.rm := widen_length (by omega)
  have hrm := ok.rm1 h.disk.ok
  have HNE : Hid (widen D.rm l ≠ []) := Lib.hid (by intro e; rw [e] at hw; simp at hw; omega)
  obtain ⟨k, e, _, _, hk, _, _⟩ := taken_bounds ok ht
  have HPG : Hid (page < D.sectors) := Lib.hid (by omega)
  have HRD := Lib.hid hr
  have HLN := Lib.hid hln
  have HLE := Lib.hid hn
  have H := Lib.hid h
  clear h hd ht ok hw hrm hk e hr hln hn
  go_enter Tryz.func152, Tryz.ntmps152
  go_wp2_with fail
  refine HR.out.mono ?_
  rintro r w ⟨rfl, rfl⟩
  go_wp2_with fail
  refine HT.out.mono ?_
  rintro r w ⟨rfl, rfl⟩
  go_wp2_with fail
  refine HO.out.mono ?_
  rintro r w ⟨rfl, rfl⟩
  go_wp2_with fail
  refine wp_region_H (fun v => v.cell? ⟨M.p, 26, none⟩ = some (.map (some M.mn))) (by kernel_rfl) (fun v0 hv0 => ?_)
  have hS0 : (fun v => v.cell? ⟨M.p, 26, none⟩ = some (.map (some M.mn))) v0 := by subst hv0; exact (H.out.drew).c_pend
  have HV0 : Hid (PoolAt v0 M S D ∧ Rd v0 v0.heap.size A l) := Lib.hid (by subst hv0; exact ⟨H.out.drew, HRD.out⟩)
  have HW0 : Hid (PWent w v0 M M) := Lib.hid (by subst hv0; exact PWent.of_below (Below.refl _ _).drew)
  clear hv0
  refine wpH_take (i := 0) (v := ?_) rfl rfl (by kernel_rfl) (by kernel_rfl) (by kernel_rfl) (fun _ _ _ h => h) (Or.inl ⟨by rfl, ?_⟩) hS0 ?_
  rotate_left
  · (intro w_ hw_; go_simp; try with_reducible rfl)
  simp only [List.setIfInBounds_toArray, List.set_cons_zero, List.set_cons_succ]
  refine wpH_take (i := 1) (v := ?_) rfl rfl (by kernel_rfl) (by kernel_rfl) (by kernel_rfl) (fun _ _ _ h => h) (Or.inl ⟨by rfl, ?_⟩) hS0 ?_
  rotate_left
  · (intro w_ hw_; have q1 := hw_; go_simp; try with_reducible rfl)
  simp only [List.setIfInBounds_toArray, List.set_cons_zero, List.set_cons_succ]
  refine wpH_take (i := 2) (v := ?_) rfl rfl (by kernel_rfl) (by kernel_rfl) (by kernel_rfl) (fun _ _ _ h => h) (Or.inl ⟨by rfl, ?_⟩) hS0 ?_
  rotate_left
  · (intro w_ hw_; go_simp; try with_reducible rfl)
  simp only [List.setIfInBounds_toArray, List.set_cons_zero, List.set_cons_succ]
  refine wpH_take (i := 3) (v := ?_) rfl rfl (by kernel_rfl) (by kernel_rfl) (by kernel_rfl) (fun _ _ _ h => h) (Or.inl ⟨by rfl, ?_⟩) hS0 ?_
  rotate_left
  · (intro w_ hw_; have q1 := hw_; go_simp; try with_reducible rfl)
  simp only [List.setIfInBounds_toArray, List.set_cons_zero, List.set_cons_succ]
  refine wpH_take (i := 4) (v := ?_) rfl rfl (by kernel_rfl) (by kernel_rfl) (by kernel_rfl) (fun _ _ _ h => h) (Or.inl ⟨by rfl, ?_⟩) hS0 ?_
  rotate_left
  · (intro w_ hw_; go_simp; try with_reducible rfl)
  simp only [List.setIfInBounds_toArray, List.set_cons_zero, List.set_cons_succ]
  refine wpH_take (i := 5) (v := ?_) rfl rfl (by kernel_rfl) (by kernel_rfl) (by kernel_rfl) (fun _ _ _ h => h) (Or.inl ⟨by rfl, ?_⟩) hS0 ?_
  rotate_left
  · (intro w_ hw_; go_simp; try with_reducible rfl)
  simp only [List.setIfInBounds_toArray, List.set_cons_zero, List.set_cons_succ]
  refine wpH_take (i := 6) (v := ?_) rfl rfl (by kernel_rfl) (by kernel_rfl) (by kernel_rfl) (fun _ _ _ h => h) (Or.inl ⟨by rfl, ?_⟩) hS0 ?_
  rotate_left
  · (intro w_ hw_; go_simp; try with_reducible rfl)
  simp only [List.setIfInBounds_toArray, List.set_cons_zero, List.set_cons_succ]
  refine wpH_callv (i := 7) (by kernel_rfl) rfl rfl (by rfl) ((wide_any (c := c) HV0.out.1 HLN.out HV0.out.2 HLE.out)) (by go_simp) ?_
  rintro x1 v1 ⟨ho1, hb1⟩
  have hS1 : (fun v => v.cell? ⟨M.p, 26, none⟩ = some (.map (some M.mn))) v1 := (HV0.out.1.grew hb1).c_pend
  clear hS0
  refine ⟨hS1, ?_⟩
  simp only [List.setIfInBounds_toArray, List.set_cons_zero, List.set_cons_succ]
  have hx1 := Byt.of_own ho1 HNE.out
  have HV1 : Hid (PoolAt v1 M S D) := Lib.hid (HV0.out.1.grew hb1)
  have HW1 : Hid (PWent w v1 M M) := Lib.hid (HW0.out.tail hb1)
  obtain ⟨v2, hrun, hm2, ht2⟩ := HV1.out.pend.store (k := page) HPG.out hx1
  have hs2 := HV1.out.set_pend hm2 ht2
  have HV2 : Hid (PoolAt v2 M { S with pend := S.pend.put page (widen D.rm l) } D) := Lib.hid hs2.1
  have HW2 : Hid (PWent w v2 M M) := Lib.hid (HW1.out.trans hs2.2)
  clear hm2 ht2 hs2 hx1 ho1 hb1
  have hS2 : (fun v => v.cell? ⟨M.p, 26, none⟩ = some (.map (some M.mn))) v2 := HV2.out.c_pend
  clear hS1
  refine wpH_store (i := 8) (w' := v2) (by kernel_rfl) rfl rfl (by rfl) (by exact exec_mapUpdate _ (.tmp 27) (.tmp 28) (.tmp 31) rfl rfl rfl rfl hrun) hS2 ?_
  clear hS2
  refine wpAnyH_done (by kernel_rfl) ?_ _
  go_wp2
  go_ret
  exact ⟨rfl, HV2.out, HW2.out⟩
end
end Go.Proofs.YtfmdmfiljplkoaaGreat
namespace Go.Proofs.YtfmdmfiljplkoaaGreat
open Go.RowKit Go.Maps
set_option maxRecDepth 8000
variable {ι : Type} [Bar ι]
section
variable {w w' : World} {M : Mem} {S : Pl} {D D' : Dsk}
/-- Behind a Give that is right. -/
def Pl.gave (S : Pl) (D : Dsk) (page : Nat) : Pl :=
  { S with now := { S.now with free := S.now.free ++ [page] }, pend := S.pend.put page (widen D.rm (lebZ (S.now.top : Nat) 4)), seen := S.seen.del page, moved := true }
def Pl.give (S : Pl) (D : Dsk) (page : Int) : Int × Pl :=
  if S.dead then (21, S) else if S.now.taken page = false then (7, S) else (0, S.gave D page.toNat)
end
end Go.Proofs.YtfmdmfiljplkoaaGreat
namespace Go.Proofs.YtfmdmfiljplkoaaGreat
open Go.RowKit Go.Maps
open Go.ChangeMaps (setBlock modify_eq_set)
set_option maxRecDepth 8000
variable {ι : Type} [Bar ι]
section
variable {w w' : World} {m N : Nat} {f : Pgs}
/-- An entry is asked for, then written: as one store. -/
theorem entry_two {es : Array MapEntry} {clock : Nat} (hb : w.heap[m]? = some (.map es clock)) (hf : Go.WideElems.Fit (H := Value) Tryz.prog 3 R0 es clock) {x v : Value} {kx : Lit} (hx : keyOf Tryz.prog 3 x = some kx) :
    ∃ (v0 : Value) (st : Nat) (o1 o2 : Obj), (Instr.mapEntry 111 (.map (some m)) x).run Tryz.prog w = .ok (.tuple #[v0, goInt st]) (setBlock w m o1) ∧
      (Instr.entryStore 111 (.map (some m)) (goInt st) v).run Tryz.prog (setBlock w m o1) = .ok () (setBlock w m o2) ∧ (Instr.mapUpdate 111 (.map (some m)) x v).run Tryz.prog w = .ok () (setBlock w m o2) := by
  have hlt := lt_of_block hb
  have hz := fun u : World => zero35 u
  have hone : ∀ o o' : Obj, setBlock (setBlock w m o) m o' = setBlock w m o' := fun o o' => by simp [setBlock]
  have hat : ∀ o : Obj, (setBlock w m o).heap[m]? = some o := fun o => by simp [setBlock, hlt]
  obtain ⟨q1, q2, _⟩ := hf.stamped
  rcases law3.find w hx es.toList hf.keys with ⟨r1, r2⟩ | ⟨k, e0, r1, r2, r3⟩
  · have hi : (es.push ⟨x, nilv, clock⟩).findIdx? (fun e => ((e.born : Nat) : Int) == ((clock : Nat) : Int)) = some es.size := by
      rw [WideElems.findIdx_arr]
      refine WideElems.findIdx_born (e0 := ⟨x, nilv, clock⟩) ?_ (by simp)
      simp only [Array.toList_push, List.map_append, List.map_cons, List.map_nil]
      refine List.nodup_append.2 ⟨q2, by simp, fun a ha c hc e => ?_⟩
      obtain ⟨y, hy, rfl⟩ := List.mem_map.1 ha
      have := q1 y hy
      simp at hc
      omega
    have hd : (es.push ⟨x, nilv, clock⟩).modify es.size (fun e => { e with val := v }) = es.push ⟨x, v, clock⟩ := by
      apply Array.ext'
      rw [Array.toList_modify, Array.toList_push, Array.toList_push, ← Array.length_toList, WideElems.modify_last]
    refine ⟨nilv, clock, .map (es.push ⟨x, nilv, clock⟩) (clock + 1), .map (es.push ⟨x, v, clock⟩) (clock + 1), ?_, ?_, ?_⟩
    · simp [Instr.mapEntry, run_underlying Tryz.underlying111, MapKept.run_getObj_map hb, law3.check w false hx, r1, hz, MapKept.run_setObj_map _ hb, Result.andThen, setBlock]
    · have hgo : ∀ w2 : World, w2.heap[m]? = some (.map (es.push ⟨x, nilv, clock⟩) (clock + 1)) → (Instr.entryStore 111 (.map (some m)) (goInt clock) v).run Tryz.prog w2 = .ok () (setBlock w2 m (.map (es.push ⟨x, v, clock⟩) (clock + 1))) := fun w2 hw2 => by
        simp [Instr.entryStore, MapKept.run_getObj_map hw2, asInt, asIntOf, goInt, hi, hd, MapKept.run_setObj_map _ hw2, Result.andThen, setBlock]
      rw [hgo _ (hat _), hone]
    · simp [Instr.mapUpdate, run_underlying Tryz.underlying111, MapKept.run_getObj_map hb, law3.check w false hx, r1, MapKept.run_setObj_map _ hb, Result.andThen, setBlock]
  · have hk : es[k]? = some e0 := by simpa using r2
    have hs : es.modify k (fun e => { e with key := x }) = es := by
      apply Array.ext'
      rw [Array.toList_modify, modify_eq_set _ _ _ _ r2, show ({ e0 with key := x } : MapEntry) = e0 by rw [← r3]]
      exact WideElems.set_self _ _ _ r2
    have hi : es.findIdx? (fun e => ((e.born : Nat) : Int) == ((e0.born : Nat) : Int)) = some k := by
      rw [WideElems.findIdx_arr]
      exact WideElems.findIdx_born q2 r2
    have hd : es.modify k (fun e => { e with val := v }) = es.modify k (fun e => { e with key := x, val := v }) := by
      apply Array.ext'
      rw [Array.toList_modify, Array.toList_modify, modify_eq_set _ _ _ _ r2, modify_eq_set _ _ _ _ r2, ← r3]
    refine ⟨e0.val, e0.born, .map es clock, .map (es.modify k (fun e => { e with key := x, val := v })) clock, ?_, ?_, ?_⟩
    · simp [Instr.mapEntry, run_underlying Tryz.underlying111, MapKept.run_getObj_map hb, law3.check w false hx, r1, hk, r3, law3.stays w hx, hs, MapKept.run_setObj_map _ hb, Result.andThen, setBlock]
    · have hgo : ∀ w2 : World, w2.heap[m]? = some (.map es clock) → (Instr.entryStore 111 (.map (some m)) (goInt e0.born) v).run Tryz.prog w2 = .ok () (setBlock w2 m (.map (es.modify k (fun e => { e with key := x, val := v })) clock)) := fun w2 hw2 => by
        simp [Instr.entryStore, MapKept.run_getObj_map hw2, asInt, asIntOf, goInt, hi, hd, MapKept.run_setObj_map _ hw2, Result.andThen, setBlock]
      rw [hgo _ (hat _), hone]
    · simp [Instr.mapUpdate, run_underlying Tryz.underlying111, MapKept.run_getObj_map hb, law3.check w false hx, r1, hk, r3, law3.stays w hx, MapKept.run_setObj_map _ hb, Result.andThen, setBlock]
theorem PgMap.entry (h : PgMap w m N f) {k : Nat} (hk : k < N) {v : Value} {l : List Nat} (hv : Byt w v l) :
    ∃ (v0 : Value) (st : Nat) (w1 w2 : World), (Instr.mapEntry 111 (.map (some m)) (.int .i64 (k : Int))).run Tryz.prog w = .ok (.tuple #[v0, goInt st]) w1 ∧ Turn [m] w w1 ∧
      (Instr.entryStore 111 (.map (some m)) (goInt st) v).run Tryz.prog w1 = .ok () w2 ∧ PgMap w2 m N (f.put k l) ∧ Turn [m] w w2 := by
  obtain ⟨w', hrun, hm, ht⟩ := h.store hk hv
  have hn := h.n
  obtain ⟨n, E, ⟨es, clock, hb, Ft, hs, hD⟩, _⟩ := h
  obtain ⟨v0, st, o1, o2, h1, h2, h3⟩ := entry_two (v := v) hb Ft (keyOf_page k (by omega))
  have e : w' = setBlock w m o2 := by
    rw [hrun] at h3
    cases h3
    rfl
  refine ⟨v0, st, _, _, h1, ?_, h2, ?_, ?_⟩
  · exact ⟨rfl, rfl, rfl, by simp [setBlock], fun j hj hn => by
      simp at hn
      simp [setBlock, Ne.symm hn]⟩
  · rw [← e]; exact hm
  · rw [← e]; exact ht
end
end Go.Proofs.YtfmdmfiljplkoaaGreat
