/- Walks: Crash. -/
import Derived.Test.YtklppnknllbfnaaGreatDs
import Derived.Test.YtklppnknllbfnaaGreatHeld
import Derived.Test.YtklppnknllbfnaaGreatFree
namespace Go.Proofs.YtklppnknllbfnaaGreat
open Go.RowKit Go.Maps
variable {ι : Type} [Bar ι]
theorem exec_slice35 {ev : Operand → Value} {o : Oper} (x l : Operand) (ho : o.op = .slice 31 x (some l) none none) {p : Addr} {n c k : Nat} {w : World} (hx : ev x = .slice (some p) n c) (hl : ev l = .int .i64 (k : Int)) (hk : k ≤ n) :
  (execOp ev o).run Tryz.prog w = .ok (.value (sliced (some p) k n c 1)) w := by
 have ht : Tryz.prog.underlying 31 = some (.slice (Tryz.prog.elem 31)) := by kernel_rfl
 have hs : (sizeOf (Tryz.prog.elem 31)).run Tryz.prog w = .ok 1 w := by kernel_rfl
 have h1 := run_slice_l (P := Tryz.prog) (w := w) 31 (some p) n c ht .i64 (k : Int) (by omega) (by omega)
 rw [hs] at h1
 unfold execOp
 simp only [ho, Option.map_some, Option.map_none, hx, hl, Sem.run_bind, run_sliceAt_slice (P := Tryz.prog) (h := ht), h1, Result.andThen_ok, Sem.run_pure, Int.toNat_natCast]
theorem Byt.rdv {w : World} {p : Addr} {n c : Nat} {l : List Nat} (h : Byt w (.slice (some p) n c) l) : Rd w w.heap.size (some p) l := by
 obtain ⟨p', c', e, _, r⟩ := h.rd
 injection e with e _ _
 injection e with e
 rw [e]; exact r
theorem Byt.sliced {w : World} {p : Addr} {n c : Nat} {l : List Nat} (h : Byt w (.slice (some p) n c) l) (k : Nat) (hk : k ≤ n) :
  ∃ A' c', sliced (some p) k n c 1 = .slice A' (l.drop k).length c' ∧ Rd w w.heap.size A' (l.drop k) := by
 have hl := h.len_val
 have hr := h.rdv.drop_ k
 obtain ⟨_, _, e, hnc, _⟩ := h.rd
 injection e with _ e2 e3
 refine ⟨if c = k then some p else some (p.add k), c - k, ?_, hr.1, fun hn => ?_⟩
 ·unfold Go.sliced
  simp [hl]
 ·have : c ≠ k := by
   intro e
   apply hn
   exact List.eq_nil_of_length_eq_zero (by simp; omega)
  rw [if_neg this]
  exact hr.2 hn
theorem Byt.cap_val {w : World} {p : Addr} {n c : Nat} {l : List Nat} (h : Byt w (.slice (some p) n c) l) : n ≤ c := by
 obtain ⟨_, _, _, e, hc, _⟩ := h
 injection e with _ e2 e3
 omega
section
variable {b m : Nat} {vl : Value} {D : Dsk} {w w' : World}
theorem kept_form (a : Int) (h0 : -9223372036854775808 ≤ a) (h1 : a ≤ 9223372036854775807) (h : DiskAt w b m vl D) :
  Calls Tryz.prog 74 #[.pointer (some ⟨b, 0, none⟩), .int .i64 a] w fun e w' => ∃ v, e = .returned v ∧ ∃ p c, v = .slice (some p) D.size c ∧ Byt w' (.slice (some p) D.size c) (D.fast a) ∧ Below w.heap.size w w' := by
 have hl := h.ok.len a
 refine (kept_any a h0 h1 h).mono ?_
 rintro e w' ⟨v, rfl, hb, hw⟩
 obtain ⟨p, c, e, _, _⟩ := hb.rd
 rw [hl] at e
 exact ⟨v, rfl, p, c, e, e ▸ hb, hw⟩
theorem choice_any' (F : Nat) (T : List Nat) (fs : List Int) (N : Int) (n : Nat) (w : World) (e : N = n) (h1 : (1 : Int) ≤ n) (h2 : (n : Int) ≤ 5000) (h : Fat w F T fs) :
  Calls Tryz.prog 72 #[.int .i64 N, .pointer (some ⟨F, 0, none⟩)] w fun e w' => e = .returned (.int .i64 (pick fs n)) ∧ Fat w' F T fs.tail ∧ Turn [F] w w' := by
 subst e; exact choice_any F T fs n w h1 h2 h
theorem Fat.turn {F : Nat} {T T' : List Nat} {fs : List Int} (h : Fat w F T fs) (k : Turn T' w w') (hF : F ∉ T') (hT : ∀ j ∈ T', j ∈ T) : Fat w' F T fs := by
 obtain ⟨A, c, hB, hc, hr, ha⟩ := h
 exact ⟨A, c, (k.block F hB.lt hF).trans hB, hc, hr.turn k (fun hn p hp e => (ha hn p hp).1 (hT _ e)), ha⟩
/-- A disk in the middle of a crash, of which w0 was the world ahead; block F holds the fates that are left. -/
structure CrAt (w0 v : World) (b m : Nat) (vl : Value) (D : Dsk) (F : Nat) (fs : List Int) : Prop where
 disk : DiskAt v b m vl D
 turn : Turn (own b m vl) w0 v
 fat : Fat v F (own b m vl) fs
 low : ∀ k ∈ own b m vl, k < w0.heap.size
 hF : w0.heap.size ≤ F
variable {w0 v v' : World} {F : Nat} {fs fs' : List Int}
theorem CrAt.grew (h : CrAt w0 v b m vl D F fs) (k : Below v.heap.size v v') : CrAt w0 v' b m vl D F fs :=
 ⟨h.disk.grew k, h.turn.tail k, h.fat.turn (Turn.of_below k []) (by simp) (by simp), h.low, h.hF⟩
theorem CrAt.drew (h : CrAt w0 v b m vl D F fs) : CrAt w0 v.drew b m vl D F fs := h.grew ⟨rfl, rfl, rfl, Nat.le_refl _, fun _ _ => rfl⟩
theorem CrAt.nobytes (h : CrAt w0 v b m vl D F fs) : NoBytes v [F] := by
 intro k hk cs fz e
 simp at hk; subst hk
 obtain ⟨A, c, hB, _⟩ := h.fat
 unfold Blk at hB
 rw [hB] at e; cases e
theorem CrAt.notin (h : CrAt w0 v b m vl D F fs) : ∀ j ∈ own b m vl, j ∉ [F] := by
 intro j hj e
 simp at e
 have := h.low j hj
 have := h.hF
 omega
theorem CrAt.chose (h : CrAt w0 v b m vl D F fs) (hf : Fat v' F (own b m vl) fs') (ht : Turn [F] v v') : CrAt w0 v' b m vl D F fs' :=
 ⟨h.disk.turn ht h.nobytes h.notin, h.turn.trans ht (fun j hj hl => by simp at hj; subst hj; have := h.hF; omega), hf, h.low, h.hF⟩
theorem CrAt.byt (h : CrAt w0 v b m vl D F fs) (ht : Turn [F] v v') {u : Value} {l : List Nat} (hb : Byt v u l) : Byt v' u l := hb.turn ht h.nobytes
theorem CrAt.fastPut (h : CrAt w0 v b m vl D F fs) {x : Int} (h0 : 0 ≤ x) (h1 : x < D.sectors) {u : Value} {l : List Nat} (hv : BytP v u l) (hl : l.length = D.size) :
  ∃ w', (Instr.mapUpdate 73 (.map (some m)) (.int .i64 x) u).run Tryz.prog v = .ok () w' ∧ CrAt w0 w' b m vl { D with fast := upd D.fast x l } F fs ∧ ∀ {G : Nat} {cs : Array Value} {t : TypeId}, Blk v G cs t → w0.heap.size ≤ G → Blk w' G cs t := by
 obtain ⟨w', hrun, hd, ht⟩ := h.disk.fastPut h0 h1 hv hl
 have hm : m ∈ own b m vl := mem_own.2 (.inr (.inl rfl))
 refine ⟨w', hrun, ⟨hd, h.turn.trans ht (fun j hj _ => by simp at hj; subst hj; exact hm), h.fat.turn ht (by simp; have h1 := h.low m hm; have h2 := h.hF; omega) (by simp; exact hm), h.low, h.hF⟩, fun hB hG => (ht.block _ hB.lt (by simp; have h1 := h.low m hm; omega)).trans hB⟩
end
namespace Dsk
/-- When k loose writes have had their fates. -/
def cr (d : Dsk) (fs : List Int) (k : Nat) : Dsk := { d with fast := crashed d.size fs d.fast d.loose k }
theorem cr_succ (d : Dsk) (fs : List Int) {k : Nat} (h : k < d.loose.length) : d.cr fs (k + 1) = { d.cr fs k with fast := upd (d.cr fs k).fast d.loose[k].1 (d.loose[k].2.take (cutAt d.size fs k d.loose.length) ++ ((d.cr fs k).fast d.loose[k].1).drop (cutAt d.size fs k d.loose.length)) } := by
 unfold cr
 rw [crashed_step h]
end Dsk
/-- The disk is clean again. -/
theorem DiskAt.clean {w : World} {b m : Nat} {vl : Value} {D : Dsk} {fs : List Int} (h : DiskAt w b m vl (D.cr fs D.loose.length)) :
  DiskAt (((w.setCell ⟨b, 3, none⟩ nilv).setCell ⟨b, 4, none⟩ (.int .i64 0)).setCell ⟨b, 5, none⟩ (.bool false)) b m nilv (D.crash fs) := by
 have h2 := h.push (Loose.nil w) (Dsk.Ok.loose_nil h.ok)
 have ht := ((Turn.refl [b] (w.setCell ⟨b, 3, none⟩ nilv)).set (a := ⟨b, 4, none⟩) (.inl (by simp)) (.int .i64 0)).set (a := ⟨b, 5, none⟩) (.inl (by simp)) (.bool false)
 refine h2.sets (D' := D.crash fs) ?_ rfl rfl rfl rfl ht ?_
 ·exact ⟨h.ok.s1, h.ok.s2, h.ok.z1, h.ok.z2, h.ok.len, h.ok.byt, by simp [Dsk.crash], by simp [Dsk.crash], by simp [Dsk.crash]⟩
 ·have := (h2.blk.set 4 (.int .i64 0)).set 5 (.bool false)
  simpa [Dsk.crash] using this
set_option maxHeartbeats 8000000 in
theorem Crash_any (b m : Nat) (vl : Value) (D : Dsk) (fs : List Int) (A : Option Addr) (cf : Nat) (w : World) (h : DiskAt w b m vl D) (hL : D.loose.length ≤ 1000000000) (hcf : fs.length ≤ cf) (hf : IRd w A fs) (ha : fs ≠ [] → ∀ p, A = some p → p.block < w.heap.size ∧ p.block ∉ own b m vl) :
  Calls Tryz.prog 37 #[.pointer (some ⟨b, 0, none⟩), .slice A fs.length cf] w fun e w' => e = .returned (.tuple #[]) ∧ DiskAt w' b m nilv (D.crash fs) ∧ Turn (own b m vl) w w' := by
 obtain ⟨F, hF⟩ : ∃ F, F = w.heap.size := ⟨_, rfl⟩
 have hcr : ∀ w1, w1 = w.alloc (.cells #[.slice A fs.length cf] 43) → CrAt w w1 b m vl D w.heap.size fs := by
  rintro w1 rfl
  have hg := (Below.refl w.heap.size w).alloc (Nat.le_refl _) (.cells #[.slice A fs.length cf] 43)
  exact ⟨h.grew hg, Turn.of_below hg _, ⟨A, cf, Blk.new' _ _ _ rfl, hcf, hf.grew hg, fun hn p hp => ⟨(ha hn p hp).2, Nat.ne_of_lt (ha hn p hp).1⟩⟩, h.lt, Nat.le_refl _⟩
 have HCR := Lib.hid hcr
 have HLL := Lib.hid hL
 have HZ := Lib.hid (And.intro h.ok.z1 h.ok.z2)
 have HOK := Lib.hid h.ok
 obtain ⟨Av, c, rfl, _, _⟩ := h.loose.form
 have hbw : b < w.heap.size := h.blk.lt
 obtain ⟨c0, c1, c2, c3, c4, c5, f3, f4, f5⟩ := h.six
 clear h hL hcf hf ha hcr hF c0 c1 c2 c4 c5 f3 f4 f5
 go_enter Tryz.func37, Tryz.ntmps37
 go_wp2
 have HC0 := HCR.out _ rfl
 clear HCR
 have HC1 := Lib.hid HC0
 clear HC0
 go_loopw [16] (fun i wr => ∃ k : Nat, k ≤ D.loose.length ∧ i = .int .i64 k ∧ Hid (CrAt w wr b m (.slice Av D.loose.length c) (D.cr fs k) w.heap.size (fs.drop k))) (fun i _ => D.loose.length - (intOf i).toNat)
 case atStart => exact ⟨0, by omega, rfl, HC1⟩
 case round =>
  obtain ⟨k, hk, rfl, B⟩ := hrel
  clear HC1
  by_cases hlt : k < D.loose.length
  ·obtain ⟨g, c', p5, z, c5, e', _, hc0, hc1, ⟨hb, -⟩, rz⟩ := B.out.disk.loose.at_ k hlt
   injection e' with e1 e2 e3
   subst e1 e3
   have hx := HOK.out.lose _ (List.getElem_mem hlt)
   have hn := Dsk.cr_succ D fs hlt
   have hzz : (D.cr fs k).loose[k]'hlt = D.loose[k] := rfl
   rw [hzz] at hc0 hb rz
   obtain ⟨⟨x, l⟩, hxl⟩ : ∃ q, q = D.loose[k] := ⟨_, rfl⟩
   rw [← hxl] at hx hn hc0 hb rz
   obtain ⟨hx1, hx2, hx3, hx4⟩ := hx
   simp only at hx1 hx2 hx3 hc0 hb rz
   have hz : z = D.size := by omega
   subst hz
   obtain ⟨cN, hcN⟩ : ∃ cN, cN = cutAt D.size fs k D.loose.length := ⟨_, rfl⟩
   rw [← hcN] at hn
   have HB := Lib.hid hb
   have HN := Lib.hid hn
   have HX := Lib.hid (show -9223372036854775808 ≤ x ∧ x ≤ 9223372036854775807 from ⟨by omega, by have := HOK.out.s2; omega⟩)
   have HX2 := Lib.hid (show 0 ≤ x ∧ x < ((D.cr fs k).sectors : Int) from ⟨hx1, hx2⟩)
   have HC := Lib.hid (show (k + 1 < D.loose.length → cN = D.size * pick (fs.drop k) 2) ∧ (¬ k + 1 < D.loose.length → cN = pick (fs.drop k) (D.size + 1)) ∧ cN ≤ D.size from
    ⟨fun h => by rw [hcN]; unfold cutAt; rw [if_pos h], fun h => by rw [hcN]; unfold cutAt; rw [if_neg h], by rw [hcN]; exact cutAt_le _ _ _ _⟩)
   have HMUL := Lib.hid (fun (r : Nat) (h : cN = D.size * r) => (show (D.size : Int) * (r : Int) = (cN : Int) by rw [h, Int.natCast_mul]))
   have hcNb : (cN : Int) ≤ 4096 := by have h1 := HC.out.2.2; have h2 := HZ.out; omega
   have hwN : IntKind.i64.wrap (cN : Int) = cN := by rw [IntWalk.i64_left]; unfold wrap64; omega
   have HC5 := Lib.hid (show (cN : Int) ≤ c5 by have := HC.out.2.2; have := hb.cap_val; omega)
   have hbr : b < wr.heap.size := B.out.disk.blk.lt
   obtain ⟨d0, d1, d2, d3, d4, d5, f3, f4, f5⟩ := B.out.disk.six
   replace d1 : wr.cell? ⟨b, 1, none⟩ = some (.int .i64 D.size) := d1
   have BW : w.heap.size < wr.heap.size := by obtain ⟨_, _, hB, _⟩ := B.out.fat; exact hB.lt
   have BW2 : w.heap.size ≤ wr.heap.size := Nat.le_of_lt BW
   have hR : ∀ w', w' = (wr.alloc (.cells #[.int .i64 x, .slice (some p5) D.size c5] 112)) → CrAt w w' b m (.slice (some ⟨g, 0, none⟩) D.loose.length c) (D.cr fs k) w.heap.size (fs.drop k) ∧ Byt w' (.slice (some p5) D.size c5) l ∧ Blk w' wr.heap.size #[.int .i64 x, .slice (some p5) D.size c5] 112 := by
    rintro w' rfl
    have hg := (Below.refl wr.heap.size wr).alloc (Nat.le_refl _) (.cells #[.int .i64 x, .slice (some p5) D.size c5] 112)
    exact ⟨B.out.grew hg, HB.out.grew hg, Blk.new' _ _ _ rfl⟩
   have HRR := Lib.hid hR
   have hkb : (k : Int) ≤ 1000000000 := by have := HLL.out; omega
   have hDb : (D.loose.length : Int) ≤ 1000000000 := by have := HLL.out; omega
   clear hb hn hxl hx3 hx4 hcN hR HB d0 d2 d4 d5 f3 f4 f5 hzz e2 B rz hx1 hx2
   by_cases hlast : k + 1 < D.loose.length
   ·go_wp2_with fail
    obtain ⟨w3, hw3⟩ : ∃ w3, w3 = wr.alloc (.cells #[.int .i64 x, .slice (some p5) D.size c5] 112) := ⟨_, rfl⟩
    rw [← hw3]
    have HR := HRR.out _ hw3
    clear HRR hw3 hc0 hc1 d1 d3
    refine wp_region_H (fun v => v.cell? ⟨b, 1, none⟩ = some (.int .i64 D.size)) (by kernel_rfl) (fun v0 hv0 => ?_)
    have hS0 : (fun v => v.cell? ⟨b, 1, none⟩ = some (.int .i64 D.size)) v0 := by subst hv0; exact HR.1.disk.six.2.1
    have HR0 : CrAt w v0 b m (.slice (some ⟨g, 0, none⟩) D.loose.length c) (D.cr fs k) w.heap.size (fs.drop k) ∧ Byt v0 (.slice (some p5) D.size c5) l ∧ Blk v0 wr.heap.size #[.int .i64 x, .slice (some p5) D.size c5] 112 := by subst hv0; exact ⟨HR.1.drew, HR.2.1.drew, HR.2.2.drew⟩
    clear HR hv0
    refine wpH_t 0 ?_ rfl rfl (by kernel_rfl) (fun _ _ _ h => h) rfl ?_ hS0 ?_
    rotate_left
    ·(intro w_ hw_; go_simp; try with_reducible rfl)
    simp only [sL]
    refine wpH_t 1 ?_ rfl rfl (by kernel_rfl) (fun _ _ _ h => h) rfl ?_ hS0 ?_
    rotate_left
    ·(intro w_ hw_; skip; go_simp; try with_reducible rfl)
    simp only [sL]
    refine wpH_t 2 ?_ rfl rfl (by kernel_rfl) (fun _ _ _ h => h) rfl ?_ hS0 ?_
    rotate_left
    ·(intro w_ hw_; go_simp; try with_reducible rfl)
    simp only [sL]
    refine wpH_t 3 ?_ rfl rfl (by kernel_rfl) (fun _ _ _ h => h) rfl ?_ hS0 ?_
    rotate_left
    ·(intro w_ hw_; skip; go_simp; try with_reducible rfl)
    simp only [sL]
    refine wpH_t 4 ?_ rfl rfl (by kernel_rfl) (fun _ _ _ h => h) rfl ?_ hS0 ?_
    rotate_left
    ·(intro w_ hw_; go_simp; try with_reducible rfl)
    simp only [sL]
    have hch := choice_any' w.heap.size _ (fs.drop k) 2 2 v0 rfl (by omega) (by omega) HR0.1.fat
    refine wpH_call (i := 5) (by kernel_rfl) rfl rfl (by rfl) (hch) (by go_simp) (fun v1 hR => ?_)
    have hS1 : (fun v => v.cell? ⟨b, 1, none⟩ = some (.int .i64 D.size)) v1 := ((HR0.1.chose hR.1 hR.2).disk).six.2.1
    clear hS0
    refine ⟨hS1, ?_⟩
    simp only [sL]
    have HR1 : CrAt w v1 b m (.slice (some ⟨g, 0, none⟩) D.loose.length c) (D.cr fs k) w.heap.size (fs.drop k).tail ∧ Byt v1 (.slice (some p5) D.size c5) l ∧ Blk v1 wr.heap.size #[.int .i64 x, .slice (some p5) D.size c5] 112 := ⟨HR0.1.chose hR.1 hR.2, HR0.1.byt hR.2 HR0.2.1, (hR.2.block _ HR0.2.2.lt (by simp; intro e; have := BW; omega)).trans HR0.2.2⟩
    clear hch hR HR0
    have hmul := HMUL.out _ (HC.out.1 hlast)
    refine wpH_t 6 ?_ rfl rfl (by kernel_rfl) (fun _ _ _ h => h) rfl ?_ hS1 ?_
    rotate_left
    ·(intro w_ hw_; go_simp; try with_reducible rfl)
    simp only [sL]
    refine wpH_t 7 ?_ rfl rfl (by kernel_rfl) (fun _ _ _ h => h) rfl ?_ hS1 ?_
    rotate_left
    ·(intro w_ hw_; go_simp; try with_reducible rfl)
    simp only [sL]
    clear hmul
    clear hS1
    refine wpAnyH_done (by kernel_rfl) ?_ _
    go_wp2_with fail
    refine wp_region_H (fun v => v.cell? ⟨b, 2, none⟩ = some (.map (some m)) ∧ v.cell? ⟨wr.heap.size, 0, none⟩ = some (.int .i64 x) ∧ v.cell? ⟨wr.heap.size, 1, none⟩ = some (.slice (some p5) D.size c5)) (by kernel_rfl) (fun u0 hu0 => ?_)
    have hSb0 : (fun v => v.cell? ⟨b, 2, none⟩ = some (.map (some m)) ∧ v.cell? ⟨wr.heap.size, 0, none⟩ = some (.int .i64 x) ∧ v.cell? ⟨wr.heap.size, 1, none⟩ = some (.slice (some p5) D.size c5)) u0 := by subst hu0; exact ⟨HR1.1.disk.six.2.2.1, HR1.2.2.cell 0, HR1.2.2.cell 1⟩
    have Y0 : CrAt w u0 b m (.slice (some ⟨g, 0, none⟩) D.loose.length c) (D.cr fs k) w.heap.size (fs.drop k).tail ∧ Byt u0 (.slice (some p5) D.size c5) l ∧ Blk u0 wr.heap.size #[.int .i64 x, .slice (some p5) D.size c5] 112 := by subst hu0; exact ⟨HR1.1.drew, HR1.2.1.drew, HR1.2.2.drew⟩
    clear HR1 hu0
    have hck := HC5.out
    have hcs := HC.out.2.2
    refine wpH_t 0 ?_ rfl rfl (by kernel_rfl) (fun _ _ _ h => h) rfl ?_ hSb0 ?_
    rotate_left
    ·(intro w_ hw_; go_simp; try with_reducible rfl)
    simp only [sL]
    refine wpH_t 1 ?_ rfl rfl (by kernel_rfl) (fun _ _ _ h => h) rfl ?_ hSb0 ?_
    rotate_left
    ·(intro w_ hw_; obtain ⟨q0, q1, q2⟩ := hw_; go_simp; try with_reducible rfl)
    simp only [sL]
    refine wpH_t 2 ?_ rfl rfl (by kernel_rfl) (fun _ _ _ h => h) rfl ?_ hSb0 ?_
    rotate_left
    ·(intro w_ hw_; go_simp; try with_reducible rfl)
    simp only [sL]
    refine wpH_t 3 ?_ rfl rfl (by kernel_rfl) (fun _ _ _ h => h) rfl ?_ hSb0 ?_
    rotate_left
    ·(intro w_ hw_; obtain ⟨q0, q1, q2⟩ := hw_; go_simp; try with_reducible rfl)
    simp only [sL]
    refine wpH_t 4 ?_ rfl rfl (by kernel_rfl) (fun _ _ _ h => h) rfl ?_ hSb0 ?_
    rotate_left
    ·(intro w_ hw_; go_simp; try with_reducible rfl)
    simp only [sL]
    refine wpH_t 5 ?_ rfl rfl (by kernel_rfl) (fun _ _ _ h => h) rfl ?_ hSb0 ?_
    rotate_left
    ·(intro w_ hw_; go_simp; try with_reducible rfl)
    simp only [sL]
    refine wpH_t 6 ?_ rfl rfl (by kernel_rfl) (fun _ _ _ h => h) rfl ?_ hSb0 ?_
    rotate_left
    ·(intro w_ hw_; obtain ⟨q0, q1, q2⟩ := hw_; go_simp; try with_reducible rfl)
    simp only [sL]
    refine wpH_t 7 ?_ rfl rfl (by kernel_rfl) (fun _ _ _ h => h) rfl ?_ hSb0 ?_
    rotate_left
    ·(intro w_ hw_; go_simp; try with_reducible rfl)
    simp only [sL]
    refine wpH_t 8 ?_ rfl rfl (by kernel_rfl) (fun _ _ _ h => h) rfl ?_ hSb0 ?_
    rotate_left
    ·(intro w_ hw_; obtain ⟨q0, q1, q2⟩ := hw_; go_simp; try with_reducible rfl)
    simp only [sL]
    refine wpH_t 9 ?_ rfl rfl (by kernel_rfl) (fun _ _ _ h => h) rfl ?_ hSb0 ?_
    rotate_left
    ·(intro w_ hw_; go_simp; try with_reducible rfl)
    simp only [sL]
    refine wpH_t 10 ?_ rfl rfl (by kernel_rfl) (fun _ _ _ h => h) rfl ?_ hSb0 ?_
    rotate_left
    ·(intro w_ hw_; go_simp; try with_reducible rfl)
    simp only [sL]
    refine wpH_t 12 ?_ rfl rfl (by kernel_rfl) (fun _ _ _ h => h) rfl ?_ hSb0 ?_
    rotate_left
    ·(intro w_ hw_; go_simp; try with_reducible rfl)
    simp only [sL]
    refine wpH_t 13 ?_ rfl rfl (by kernel_rfl) (fun _ _ _ h => h) rfl ?_ hSb0 ?_
    rotate_left
    ·(intro w_ hw_; go_simp; try with_reducible rfl)
    simp only [sL]
    refine wpH_t 14 ?_ rfl rfl (by kernel_rfl) (fun _ _ _ h => h) rfl ?_ hSb0 ?_
    rotate_left
    ·(intro w_ hw_; go_simp; try with_reducible rfl)
    simp only [sL]
    refine wpH_t 15 ?_ rfl rfl (by kernel_rfl) (fun _ _ _ h => h) rfl ?_ hSb0 ?_
    rotate_left
    ·(intro w_ hw_; obtain ⟨q0, q1, q2⟩ := hw_; go_simp; try with_reducible rfl)
    simp only [sL]
    refine wpH_t 17 ?_ rfl rfl (by kernel_rfl) (fun _ _ _ h => h) rfl ?_ hSb0 ?_
    rotate_left
    ·(intro w_ hw_; go_simp; try with_reducible rfl)
    simp only [sL]
    have hcl := Clone_any p5 (l.take cN) cN c5 u0 (by have := Y0.2.1.len_val; simp; omega) (Y0.2.1.rdv.take_ cN) (by have := HZ.out; omega)
    refine wpH_callv (i := 11) (by kernel_rfl) rfl rfl (by rfl) (hcl) (by go_simp) ?_
    rintro v5 u1 ⟨ho5, hb5⟩
    have hSb1 : (fun v => v.cell? ⟨b, 2, none⟩ = some (.map (some m)) ∧ v.cell? ⟨wr.heap.size, 0, none⟩ = some (.int .i64 x) ∧ v.cell? ⟨wr.heap.size, 1, none⟩ = some (.slice (some p5) D.size c5)) u1 := by have Y1 := And.intro (Y0.1.grew hb5) (And.intro (Y0.2.1.grew hb5) (Y0.2.2.grew hb5)); exact ⟨Y1.1.disk.six.2.2.1, Y1.2.2.cell 0, Y1.2.2.cell 1⟩
    clear hSb0
    refine ⟨hSb1, ?_⟩
    simp only [sL]
    have Y1 : CrAt w u1 b m (.slice (some ⟨g, 0, none⟩) D.loose.length c) (D.cr fs k) w.heap.size (fs.drop k).tail ∧ Byt u1 (.slice (some p5) D.size c5) l ∧ Blk u1 wr.heap.size #[.int .i64 x, .slice (some p5) D.size c5] 112 := ⟨Y0.1.grew hb5, Y0.2.1.grew hb5, Y0.2.2.grew hb5⟩
    clear hcl
    have hkp := kept_form x HX.out.1 HX.out.2 Y1.1.disk
    refine wpH_callv (i := 16) (by kernel_rfl) rfl rfl (by rfl) (hkp) (by go_simp) ?_
    rintro _ u2 ⟨p7, c7, rfl, h7, hb7⟩
    have hSb2 : (fun v => v.cell? ⟨b, 2, none⟩ = some (.map (some m)) ∧ v.cell? ⟨wr.heap.size, 0, none⟩ = some (.int .i64 x) ∧ v.cell? ⟨wr.heap.size, 1, none⟩ = some (.slice (some p5) D.size c5)) u2 := by have Y2 := And.intro (Y1.1.grew hb7) (And.intro (Y1.2.1.grew hb7) (Y1.2.2.grew hb7)); exact ⟨Y2.1.disk.six.2.2.1, Y2.2.2.cell 0, Y2.2.2.cell 1⟩
    clear hSb1
    refine ⟨hSb2, ?_⟩
    simp only [sL]
    have Y2 : CrAt w u2 b m (.slice (some ⟨g, 0, none⟩) D.loose.length c) (D.cr fs k) w.heap.size (fs.drop k).tail ∧ Byt u2 (.slice (some p5) D.size c5) l ∧ Blk u2 wr.heap.size #[.int .i64 x, .slice (some p5) D.size c5] 112 := ⟨Y1.1.grew hb7, Y1.2.1.grew hb7, Y1.2.2.grew hb7⟩
    obtain ⟨A8, c8, e8, r8⟩ := h7.sliced cN hcs
    clear hkp
    have hSb3 : (fun v => v.cell? ⟨b, 2, none⟩ = some (.map (some m)) ∧ v.cell? ⟨wr.heap.size, 0, none⟩ = some (.int .i64 x) ∧ v.cell? ⟨wr.heap.size, 1, none⟩ = some (.slice (some p5) D.size c5)) u2 := ⟨Y2.1.disk.six.2.2.1, Y2.2.2.cell 0, Y2.2.2.cell 1⟩
    clear hSb2
    refine wpH_run (i := 18) (v := (.slice A8 (((D.cr fs k).fast x).drop cN).length c8)) (w' := u2) (by kernel_rfl) rfl rfl (by rfl) (by (rw [← e8]; exact exec_slice35 (.tmp 59) (.tmp 60) rfl rfl rfl hcs)) hSb3 ?_
    simp only [sL]
    obtain ⟨v8, u3, happ, ho8, hb8⟩ := run_app 31 (ho5.below hb7) u2.heap.size A8 c8 _ r8 (Nat.le_trans hb5.size hb7.size) (by have h1 := HZ.out; have h2 := h7.len_val; have h3 : (D.cr fs k).size = D.size := rfl; simp; omega)
    have hbb : Below u0.heap.size u0 u3 := (hb5.trans (hb7.mono hb5.size)).trans hb8
    have Y3 : CrAt w u3 b m (.slice (some ⟨g, 0, none⟩) D.loose.length c) (D.cr fs k) w.heap.size (fs.drop k).tail ∧ Byt u3 (.slice (some p5) D.size c5) l ∧ Blk u3 wr.heap.size #[.int .i64 x, .slice (some p5) D.size c5] 112 := ⟨Y0.1.grew hbb, Y0.2.1.grew hbb, Y0.2.2.grew hbb⟩
    have hSb4 : (fun v => v.cell? ⟨b, 2, none⟩ = some (.map (some m)) ∧ v.cell? ⟨wr.heap.size, 0, none⟩ = some (.int .i64 x) ∧ v.cell? ⟨wr.heap.size, 1, none⟩ = some (.slice (some p5) D.size c5)) u3 := ⟨Y3.1.disk.six.2.2.1, Y3.2.2.cell 0, Y3.2.2.cell 1⟩
    clear hSb3
    refine wpH_run (i := 19) (v := v8) (w' := u3) (by kernel_rfl) rfl rfl (by rfl) (by exact exec_append (.tmp 54) (.tmp 61) 31 31 rfl rfl rfl happ) hSb4 ?_
    simp only [sL]
    have hlen8 : (l.take cN ++ ((D.cr fs k).fast x).drop cN).length = D.size := by have h1 := Y0.2.1.len_val; have h2 := h7.len_val; have h3 : (D.cr fs k).size = D.size := rfl; simp; omega
    have h8 := BytP.of_own ho8 (by intro e; rw [e] at hlen8; have := HZ.out; simp at hlen8; omega) Y0.1.disk.bar
    obtain ⟨u4, hrun, Y4, hq4⟩ := Y3.1.fastPut HX2.out.1 HX2.out.2 h8 hlen8
    have hSb5 : (fun v => v.cell? ⟨b, 2, none⟩ = some (.map (some m)) ∧ v.cell? ⟨wr.heap.size, 0, none⟩ = some (.int .i64 x) ∧ v.cell? ⟨wr.heap.size, 1, none⟩ = some (.slice (some p5) D.size c5)) u4 := ⟨Y4.disk.six.2.2.1, (hq4 Y3.2.2 (BW2)).cell 0, (hq4 Y3.2.2 (BW2)).cell 1⟩
    clear hSb4
    refine wpH_store (i := 20) (w' := u4) (by kernel_rfl) rfl rfl (by rfl) (by exact exec_mapUpdate _ (.tmp 46) (.tmp 49) (.tmp 62) rfl rfl rfl rfl hrun) hSb5 ?_
    have HY := Lib.hid (show CrAt w u4 b m (.slice (some ⟨g, 0, none⟩) D.loose.length c) (D.cr fs (k + 1)) w.heap.size (fs.drop (k + 1)) by rw [HN.out]; have := Y4; rwa [List.tail_drop] at this)
    clear Y0 Y1 Y2 Y3 Y4 hq4 hrun h8 hlen8 ho8 hb8 happ hbb r8 e8 h7 hb7 ho5 hb5
    clear hSb5
    refine wpAnyH_done (by kernel_rfl) ?_ _
    clear hck hcs HX HX2 HN HC5
    have hkb : (k : Int) ≤ 1000000000 := by have := HLL.out; omega
    go_wp2
    go_round
    case rel => exact ⟨k + 1, by omega, val_int (by simp), HY⟩
    case measure => simp only [intOf]; omega
   ·have hsz : (D.size : Int) ≤ 4096 := by have := HZ.out; omega
    go_wp2_with fail
    obtain ⟨w3, hw3⟩ : ∃ w3, w3 = wr.alloc (.cells #[.int .i64 x, .slice (some p5) D.size c5] 112) := ⟨_, rfl⟩
    have HR := HRR.out _ hw3
    rw [← hw3]
    clear HRR hw3 hc0 hc1 d1 d3
    refine (choice_any' w.heap.size _ (fs.drop k) _ (D.size + 1) w3 (by simp) (by omega) (by omega) HR.1.fat).mono ?_
    rintro e w4 ⟨rfl, hf, ht⟩
    rw [← HC.out.2.1 hlast]
    have HR1 : CrAt w w4 b m (.slice (some ⟨g, 0, none⟩) D.loose.length c) (D.cr fs k) w.heap.size (fs.drop k).tail ∧ Byt w4 (.slice (some p5) D.size c5) l ∧ Blk w4 wr.heap.size #[.int .i64 x, .slice (some p5) D.size c5] 112 := ⟨HR.1.chose hf ht, HR.1.byt ht HR.2.1, (ht.block _ HR.2.2.lt (by simp; intro e; omega)).trans HR.2.2⟩
    clear hf ht HR
    go_wp2_with fail
    refine wp_region_H (fun v => v.cell? ⟨b, 2, none⟩ = some (.map (some m)) ∧ v.cell? ⟨wr.heap.size, 0, none⟩ = some (.int .i64 x) ∧ v.cell? ⟨wr.heap.size, 1, none⟩ = some (.slice (some p5) D.size c5)) (by kernel_rfl) (fun u0 hu0 => ?_)
    have hSb0 : (fun v => v.cell? ⟨b, 2, none⟩ = some (.map (some m)) ∧ v.cell? ⟨wr.heap.size, 0, none⟩ = some (.int .i64 x) ∧ v.cell? ⟨wr.heap.size, 1, none⟩ = some (.slice (some p5) D.size c5)) u0 := by subst hu0; exact ⟨HR1.1.disk.six.2.2.1, HR1.2.2.cell 0, HR1.2.2.cell 1⟩
    have Y0 : CrAt w u0 b m (.slice (some ⟨g, 0, none⟩) D.loose.length c) (D.cr fs k) w.heap.size (fs.drop k).tail ∧ Byt u0 (.slice (some p5) D.size c5) l ∧ Blk u0 wr.heap.size #[.int .i64 x, .slice (some p5) D.size c5] 112 := by subst hu0; exact ⟨HR1.1.drew, HR1.2.1.drew, HR1.2.2.drew⟩
    clear HR1 hu0
    have hck := HC5.out
    have hcs := HC.out.2.2
    refine wpH_t 0 ?_ rfl rfl (by kernel_rfl) (fun _ _ _ h => h) rfl ?_ hSb0 ?_
    rotate_left
    ·(intro w_ hw_; go_simp; try with_reducible rfl)
    simp only [sL]
    refine wpH_t 1 ?_ rfl rfl (by kernel_rfl) (fun _ _ _ h => h) rfl ?_ hSb0 ?_
    rotate_left
    ·(intro w_ hw_; obtain ⟨q0, q1, q2⟩ := hw_; go_simp; try with_reducible rfl)
    simp only [sL]
    refine wpH_t 2 ?_ rfl rfl (by kernel_rfl) (fun _ _ _ h => h) rfl ?_ hSb0 ?_
    rotate_left
    ·(intro w_ hw_; go_simp; try with_reducible rfl)
    simp only [sL]
    refine wpH_t 3 ?_ rfl rfl (by kernel_rfl) (fun _ _ _ h => h) rfl ?_ hSb0 ?_
    rotate_left
    ·(intro w_ hw_; obtain ⟨q0, q1, q2⟩ := hw_; go_simp; try with_reducible rfl)
    simp only [sL]
    refine wpH_t 4 ?_ rfl rfl (by kernel_rfl) (fun _ _ _ h => h) rfl ?_ hSb0 ?_
    rotate_left
    ·(intro w_ hw_; go_simp; try with_reducible rfl)
    simp only [sL]
    refine wpH_t 5 ?_ rfl rfl (by kernel_rfl) (fun _ _ _ h => h) rfl ?_ hSb0 ?_
    rotate_left
    ·(intro w_ hw_; go_simp; try with_reducible rfl)
    simp only [sL]
    refine wpH_t 6 ?_ rfl rfl (by kernel_rfl) (fun _ _ _ h => h) rfl ?_ hSb0 ?_
    rotate_left
    ·(intro w_ hw_; obtain ⟨q0, q1, q2⟩ := hw_; go_simp; try with_reducible rfl)
    simp only [sL]
    refine wpH_t 7 ?_ rfl rfl (by kernel_rfl) (fun _ _ _ h => h) rfl ?_ hSb0 ?_
    rotate_left
    ·(intro w_ hw_; go_simp; try with_reducible rfl)
    simp only [sL]
    refine wpH_t 8 ?_ rfl rfl (by kernel_rfl) (fun _ _ _ h => h) rfl ?_ hSb0 ?_
    rotate_left
    ·(intro w_ hw_; obtain ⟨q0, q1, q2⟩ := hw_; go_simp; try with_reducible rfl)
    simp only [sL]
    refine wpH_t 9 ?_ rfl rfl (by kernel_rfl) (fun _ _ _ h => h) rfl ?_ hSb0 ?_
    rotate_left
    ·(intro w_ hw_; go_simp; try with_reducible rfl)
    simp only [sL]
    refine wpH_t 10 ?_ rfl rfl (by kernel_rfl) (fun _ _ _ h => h) rfl ?_ hSb0 ?_
    rotate_left
    ·(intro w_ hw_; go_simp; try with_reducible rfl)
    simp only [sL]
    refine wpH_t 12 ?_ rfl rfl (by kernel_rfl) (fun _ _ _ h => h) rfl ?_ hSb0 ?_
    rotate_left
    ·(intro w_ hw_; go_simp; try with_reducible rfl)
    simp only [sL]
    refine wpH_t 13 ?_ rfl rfl (by kernel_rfl) (fun _ _ _ h => h) rfl ?_ hSb0 ?_
    rotate_left
    ·(intro w_ hw_; go_simp; try with_reducible rfl)
    simp only [sL]
    refine wpH_t 14 ?_ rfl rfl (by kernel_rfl) (fun _ _ _ h => h) rfl ?_ hSb0 ?_
    rotate_left
    ·(intro w_ hw_; go_simp; try with_reducible rfl)
    simp only [sL]
    refine wpH_t 15 ?_ rfl rfl (by kernel_rfl) (fun _ _ _ h => h) rfl ?_ hSb0 ?_
    rotate_left
    ·(intro w_ hw_; obtain ⟨q0, q1, q2⟩ := hw_; go_simp; try with_reducible rfl)
    simp only [sL]
    refine wpH_t 17 ?_ rfl rfl (by kernel_rfl) (fun _ _ _ h => h) rfl ?_ hSb0 ?_
    rotate_left
    ·(intro w_ hw_; go_simp; try with_reducible rfl)
    simp only [sL]
    have hcl := Clone_any p5 (l.take cN) cN c5 u0 (by have := Y0.2.1.len_val; simp; omega) (Y0.2.1.rdv.take_ cN) (by have := HZ.out; omega)
    refine wpH_callv (i := 11) (by kernel_rfl) rfl rfl (by rfl) (hcl) (by go_simp) ?_
    rintro v5 u1 ⟨ho5, hb5⟩
    have hSb1 : (fun v => v.cell? ⟨b, 2, none⟩ = some (.map (some m)) ∧ v.cell? ⟨wr.heap.size, 0, none⟩ = some (.int .i64 x) ∧ v.cell? ⟨wr.heap.size, 1, none⟩ = some (.slice (some p5) D.size c5)) u1 := by have Y1 := And.intro (Y0.1.grew hb5) (And.intro (Y0.2.1.grew hb5) (Y0.2.2.grew hb5)); exact ⟨Y1.1.disk.six.2.2.1, Y1.2.2.cell 0, Y1.2.2.cell 1⟩
    clear hSb0
    refine ⟨hSb1, ?_⟩
    simp only [sL]
    have Y1 : CrAt w u1 b m (.slice (some ⟨g, 0, none⟩) D.loose.length c) (D.cr fs k) w.heap.size (fs.drop k).tail ∧ Byt u1 (.slice (some p5) D.size c5) l ∧ Blk u1 wr.heap.size #[.int .i64 x, .slice (some p5) D.size c5] 112 := ⟨Y0.1.grew hb5, Y0.2.1.grew hb5, Y0.2.2.grew hb5⟩
    clear hcl
    have hkp := kept_form x HX.out.1 HX.out.2 Y1.1.disk
    refine wpH_callv (i := 16) (by kernel_rfl) rfl rfl (by rfl) (hkp) (by go_simp) ?_
    rintro _ u2 ⟨p7, c7, rfl, h7, hb7⟩
    have hSb2 : (fun v => v.cell? ⟨b, 2, none⟩ = some (.map (some m)) ∧ v.cell? ⟨wr.heap.size, 0, none⟩ = some (.int .i64 x) ∧ v.cell? ⟨wr.heap.size, 1, none⟩ = some (.slice (some p5) D.size c5)) u2 := by have Y2 := And.intro (Y1.1.grew hb7) (And.intro (Y1.2.1.grew hb7) (Y1.2.2.grew hb7)); exact ⟨Y2.1.disk.six.2.2.1, Y2.2.2.cell 0, Y2.2.2.cell 1⟩
    clear hSb1
    refine ⟨hSb2, ?_⟩
    simp only [sL]
    have Y2 : CrAt w u2 b m (.slice (some ⟨g, 0, none⟩) D.loose.length c) (D.cr fs k) w.heap.size (fs.drop k).tail ∧ Byt u2 (.slice (some p5) D.size c5) l ∧ Blk u2 wr.heap.size #[.int .i64 x, .slice (some p5) D.size c5] 112 := ⟨Y1.1.grew hb7, Y1.2.1.grew hb7, Y1.2.2.grew hb7⟩
    obtain ⟨A8, c8, e8, r8⟩ := h7.sliced cN hcs
    clear hkp
    have hSb3 : (fun v => v.cell? ⟨b, 2, none⟩ = some (.map (some m)) ∧ v.cell? ⟨wr.heap.size, 0, none⟩ = some (.int .i64 x) ∧ v.cell? ⟨wr.heap.size, 1, none⟩ = some (.slice (some p5) D.size c5)) u2 := ⟨Y2.1.disk.six.2.2.1, Y2.2.2.cell 0, Y2.2.2.cell 1⟩
    clear hSb2
    refine wpH_run (i := 18) (v := (.slice A8 (((D.cr fs k).fast x).drop cN).length c8)) (w' := u2) (by kernel_rfl) rfl rfl (by rfl) (by (rw [← e8]; exact exec_slice35 (.tmp 59) (.tmp 60) rfl rfl rfl hcs)) hSb3 ?_
    simp only [sL]
    obtain ⟨v8, u3, happ, ho8, hb8⟩ := run_app 31 (ho5.below hb7) u2.heap.size A8 c8 _ r8 (Nat.le_trans hb5.size hb7.size) (by have h1 := HZ.out; have h2 := h7.len_val; have h3 : (D.cr fs k).size = D.size := rfl; simp; omega)
    have hbb : Below u0.heap.size u0 u3 := (hb5.trans (hb7.mono hb5.size)).trans hb8
    have Y3 : CrAt w u3 b m (.slice (some ⟨g, 0, none⟩) D.loose.length c) (D.cr fs k) w.heap.size (fs.drop k).tail ∧ Byt u3 (.slice (some p5) D.size c5) l ∧ Blk u3 wr.heap.size #[.int .i64 x, .slice (some p5) D.size c5] 112 := ⟨Y0.1.grew hbb, Y0.2.1.grew hbb, Y0.2.2.grew hbb⟩
    have hSb4 : (fun v => v.cell? ⟨b, 2, none⟩ = some (.map (some m)) ∧ v.cell? ⟨wr.heap.size, 0, none⟩ = some (.int .i64 x) ∧ v.cell? ⟨wr.heap.size, 1, none⟩ = some (.slice (some p5) D.size c5)) u3 := ⟨Y3.1.disk.six.2.2.1, Y3.2.2.cell 0, Y3.2.2.cell 1⟩
    clear hSb3
    refine wpH_run (i := 19) (v := v8) (w' := u3) (by kernel_rfl) rfl rfl (by rfl) (by exact exec_append (.tmp 54) (.tmp 61) 31 31 rfl rfl rfl happ) hSb4 ?_
    simp only [sL]
    have hlen8 : (l.take cN ++ ((D.cr fs k).fast x).drop cN).length = D.size := by have h1 := Y0.2.1.len_val; have h2 := h7.len_val; have h3 : (D.cr fs k).size = D.size := rfl; simp; omega
    have h8 := BytP.of_own ho8 (by intro e; rw [e] at hlen8; have := HZ.out; simp at hlen8; omega) Y0.1.disk.bar
    obtain ⟨u4, hrun, Y4, hq4⟩ := Y3.1.fastPut HX2.out.1 HX2.out.2 h8 hlen8
    have hSb5 : (fun v => v.cell? ⟨b, 2, none⟩ = some (.map (some m)) ∧ v.cell? ⟨wr.heap.size, 0, none⟩ = some (.int .i64 x) ∧ v.cell? ⟨wr.heap.size, 1, none⟩ = some (.slice (some p5) D.size c5)) u4 := ⟨Y4.disk.six.2.2.1, (hq4 Y3.2.2 (BW2)).cell 0, (hq4 Y3.2.2 (BW2)).cell 1⟩
    clear hSb4
    refine wpH_store (i := 20) (w' := u4) (by kernel_rfl) rfl rfl (by rfl) (by exact exec_mapUpdate _ (.tmp 46) (.tmp 49) (.tmp 62) rfl rfl rfl rfl hrun) hSb5 ?_
    have HY := Lib.hid (show CrAt w u4 b m (.slice (some ⟨g, 0, none⟩) D.loose.length c) (D.cr fs (k + 1)) w.heap.size (fs.drop (k + 1)) by rw [HN.out]; have := Y4; rwa [List.tail_drop] at this)
    clear Y0 Y1 Y2 Y3 Y4 hq4 hrun h8 hlen8 ho8 hb8 happ hbb r8 e8 h7 hb7 ho5 hb5
    clear hSb5
    refine wpAnyH_done (by kernel_rfl) ?_ _
    clear hck hcs HX HX2 HN HC5
    have hkb : (k : Int) ≤ 1000000000 := by have := HLL.out; omega
    go_wp2
    go_round
    case rel => exact ⟨k + 1, by omega, val_int (by simp), HY⟩
    case measure => simp only [intOf]; omega
  ·have hke : k = D.loose.length := by omega
   subst hke
   obtain ⟨d0, d1, d2, d3, d4, d5, f3, f4, f5⟩ := B.out.disk.six
   have HF := Lib.hid (And.intro B.out.disk.clean (((B.out.turn.set (a := ⟨b, 3, none⟩) (.inl (mem_own.2 (.inl rfl))) nilv).set (a := ⟨b, 4, none⟩) (.inl (mem_own.2 (.inl rfl))) (.int .i64 0)).set (a := ⟨b, 5, none⟩) (.inl (mem_own.2 (.inl rfl))) (.bool false)))
   clear B d0 d1 d2
   have hlt2 : ¬ ((D.loose.length : Int) < D.loose.length) := by omega
   go_wp2
   all_goals (go_end0; exact ⟨rfl, HF.out⟩)
end Go.Proofs.YtklppnknllbfnaaGreat
