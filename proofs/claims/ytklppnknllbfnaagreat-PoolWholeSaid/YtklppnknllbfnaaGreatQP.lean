/- Walks: PoolWhole. Printed by mk_qp.py. -/
import Derived.Test.YtklppnknllbfnaaGreatQO
namespace Go.Proofs.YtklppnknllbfnaaGreat
open Go.RowKit Go.Maps
set_option maxRecDepth 8000
set_option linter.unusedSimpArgs false
section
variable {ι : Type} [Bar ι]
variable {w0 v v' : World} {M M' : Mem} {S S' : Pl} {D D' : Dsk} {E b md : Nat} {vl : Value} {rows : List (List (Int × List Nat))} {L : List Bx} {K : World → Prop} {T : List Nat} {Rs : List (Rm × Rp)} {m : Rm} {R : Rp}
theorem InvR.armd (h : InvR S D rows) {n : Int} (hn : n ≤ 9223372036854775807) : InvR S (D.arm n) rows := by
 have h2 := h.re (n := (D.arm n).armed) (h.cl.ok.arm hn).arm0 (h.cl.ok.arm hn).arm1
 exact h2
theorem Arm_lp2 (h : Lp w0 v M S D) (n : Int) (hn : n ≤ 9223372036854775807) : Calls Tryz.prog 36 #[.pointer (some ⟨M.b, 0, none⟩), .int .i64 n] v fun e v' => e = .returned (.tuple #[]) ∧ ∃ M', Hand M M' ∧ Lp w0 v' M' S (D.arm n) ∧ Step v v' M.own M'.own := by
 obtain ⟨rows, hi⟩ := h.inv
 refine (Arm_any n hn h.pool.disk).mono ?_
 rintro e v' ⟨rfl, hd, ht⟩
 obtain ⟨hp, hw⟩ := h.pool.disked (vl' := M.vl) hd rfl (ht.mono (fun k hk _ => mem_own.2 (.inl (by simpa using hk)))) (fun g e => .inl e)
 have h2 := h.went hp hw ⟨rows, hi.armd hn⟩
 exact ⟨rfl, _, hw.2.2, h2.1, h2.2⟩
theorem Like.armd (h : Like S D R) (n : Int) : Like S (D.arm n) R := ⟨⟨h.now.len, h.now.load, h.now.free, h.now.roots⟩, ⟨h.was.len, h.was.load, h.was.free, h.was.roots⟩, h.moved, h.chn, h.ch, h.pages, h.slot, h.room⟩
theorem IRd.apart {w v : World} {A : Option Addr} {l : List Int} (h : IRd w A l) (hb : Below w.heap.size w v) {T : List Nat} (hT : ∀ j ∈ T, w.heap.size ≤ j) : l ≠ [] → ∀ p, A = some p → p.block < v.heap.size ∧ p.block ∉ T := by
 intro hn p e
 obtain ⟨q, e2, hq, _⟩ := h.2 hn
 rw [e] at e2
 cases e2
 exact ⟨Nat.lt_of_lt_of_le hq hb.size, fun hm => by have := hT _ hm; omega⟩
theorem Qx.nil (w : World) : Qx w w [] [] (fun _ => True) [] := ⟨Bxs.start w, Keep.none, trivial, by simp, by simp, by simp, by simp⟩
theorem Qx.newd (h : Qx w0 v L [] K Rs) (hd : Dk v v' b md vl D) : Qd w0 v' L b md vl D Rs :=
 h.step (Keep.disk _ _ _ _) hd.disk ⟨Turn.of_below hd.low [], fun _ hj => by simp at hj, fun k hk => .inr (hd.lo k hk), fun k hk => hd.disk.lt k hk⟩
theorem Qx.newref (h : Qx w0 v L T K Rs) (hr : RpAt v' m R) (hf : ∀ g ∈ m.blocks, v.heap.size ≤ g) (k : Below v.heap.size v v') : Qx w0 v' L T K ((m, R) :: Rs) := by
 have hg := h.grew k
 refine ⟨hg.bx, hg.kp, hg.at_, hg.tl, fun p hp => ?_, fun p hp => ?_, hg.nb⟩
 ·rcases List.mem_cons.1 hp with rfl | hp
  ·exact hr
  ·exact hg.rp p hp
 ·rcases List.mem_cons.1 hp with rfl | hp
  ·intro g hgm hT
   have := hf g hgm
   have := (h.tl g hT).1
   omega
  ·exact h.rd p hp
theorem Acts.four {w : World} {N : Nat} {p : Addr} {l : List ActP} (h : Acts w N (some p) l) {v : World} (hb : Below N w v) {j : Nat} (hj : j < l.length) :
  l[j].B < 256 ∧ v.cell? (p.add (j * 4)) = some (.int .i64 l[j].k) ∧ v.cell? ⟨(p.add (j * 4)).block, (p.add (j * 4)).off + 1, none⟩ = some (.int .i64 l[j].pg) ∧ v.cell? ⟨(p.add (j * 4)).block, (p.add (j * 4)).off + 2, none⟩ = some (.int .i64 l[j].ln) ∧ v.cell? ⟨(p.add (j * 4)).block, (p.add (j * 4)).off + 3, none⟩ = some (.int .u8 (l[j].B : Nat)) := by
 obtain ⟨q, e, _, hc⟩ := (h.below hb) (by intro e; rw [e] at hj; simp at hj)
 cases e
 obtain ⟨h0, h1, h2, h3, h4⟩ := hc j hj
 have ad : ∀ (q : Addr) (j : Nat), j ≠ 0 → q.add j = ⟨q.block, q.off + j, none⟩ := fun q j hj => by unfold Addr.add; simp [hj]
 rw [ad _ 1 (by decide)] at h2
 rw [ad _ 2 (by decide)] at h3
 rw [ad _ 3 (by decide)] at h4
 exact ⟨h0, h1, h2, h3, h4⟩
/-- A loop's exit 0 stands for what is said there. -/
def cut0 (C : Act → World → Prop) (Q : Exit → Act → World → Prop) : Exit → Act → World → Prop
 | .exit 0, a, w => C a w
 | e, a, w => Q e a w
theorem loop_cut {P : Program} {c : Code} {Q : Exit → Act → World → Prop} {a : Act} {w : World} (C : Act → World → Prop) (hC : ∀ a w, C a w → Q (.exit 0) a w) (h : (Code.loop c).wp P (cut0 C Q) a w) : (Code.loop c).wp P Q a w :=
 wp_mono h fun e a w hq => by
  unfold cut0 at hq
  split at hq
  ·exact hC _ _ hq
  ·exact hq
end
def tl8 (g : Nat → Value) (p1 p3 p6 p7 : Value) : Array Value := #[g 0, p1, g 2, p3, g 4, g 5, p6, p7, g 8, g 9, g 10, g 11, g 12, g 13, g 14, g 15, g 16, g 17, g 18, g 19, g 20, g 21, g 22, g 23, g 24, g 25, g 26, g 27, g 28, g 29, g 30, g 31, g 32, g 33, g 34, g 35, g 36, g 37, g 38, g 39, g 40, g 41, g 42, g 43, g 44, g 45, g 46, g 47, g 48, g 49, g 50, g 51, g 52, g 53, g 54, g 55, g 56, g 57, g 58, g 59, g 60, g 61, g 62, g 63, g 64, g 65, g 66, g 67, g 68, g 69, g 70, g 71, g 72, g 73, g 74, g 75, g 76, g 77, g 78, g 79, g 80, g 81, g 82, g 83, g 84, g 85, g 86, g 87, g 88, g 89, g 90, g 91, g 92, g 93, g 94, g 95, g 96, g 97, g 98, g 99, g 100, g 101, g 102, g 103, g 104, g 105, g 106, g 107, g 108, g 109, g 110, g 111, g 112, g 113, g 114, g 115, g 116, g 117, g 118, g 119, g 120, g 121, g 122, g 123, g 124, g 125, g 126, g 127, g 128, g 129, g 130, g 131, g 132, g 133, g 134, g 135]
/-- Where the loop ends. -/
def TailC (w : World) (bS b : Nat) (CS : Array Value) (a : Act) (v : World) : Prop := ∃ g b6 b7 md vl D m1 R1 mm Rm, a = ⟨tl8 g (.pointer (some ⟨bS, 0, none⟩)) (.pointer (some ⟨b, 0, none⟩)) (.pointer (some ⟨b6, 0, none⟩)) (.pointer (some ⟨b7, 0, none⟩)), []⟩ ∧
 Hid (Qd w v [⟨b7, pc mm Rm, 48⟩, ⟨b6, pc m1 R1, 48⟩, ⟨bS, CS, 70⟩] b md vl D [(m1, R1), (mm, Rm)]) ∧ Hid (Fin D R1 Rm ∧ D.loose.length ≤ 1048576)
theorem TailC.mk {w : World} {bS b : Nat} {CS : Array Value} {a : Act} {v : World} {b6 b7 md : Nat} {vl : Value} {D : Dsk} {m1 : Rm} {R1 : Rp} {mm : Rm} {Rm : Rp} (ht : a.tmps = tl8 (fun i => a.tmps.getD i undef) (.pointer (some ⟨bS, 0, none⟩)) (.pointer (some ⟨b, 0, none⟩)) (.pointer (some ⟨b6, 0, none⟩)) (.pointer (some ⟨b7, 0, none⟩))) (hd : a.defers = [])
  (hq : Hid (Qd w v [⟨b7, pc mm Rm, 48⟩, ⟨b6, pc m1 R1, 48⟩, ⟨bS, CS, 70⟩] b md vl D [(m1, R1), (mm, Rm)])) (hf : Hid (Fin D R1 Rm ∧ D.loose.length ≤ 1048576)) : TailC w bS b CS a v := by
 refine ⟨fun i => a.tmps.getD i undef, b6, b7, md, vl, D, m1, R1, mm, Rm, ?_, hq, hf⟩
 obtain ⟨t, d⟩ := a
 dsimp only at ht hd
 subst hd
 exact congrArg (fun x => (⟨x, []⟩ : Act)) ht
/-- A play's state. -/
structure Wl (w v : World) (bS b6 b7 P b : Nat) (CS : Array Value) (E : Nat) (M : Mem) (S : Pl) (D : Dsk) (m1 : Rm) (R1 : Rp) (mm : Rm) (Rm : Rp) : Prop where
 q : Qp w v [⟨b7, pc mm Rm, 48⟩, ⟨b6, pc m1 R1, 48⟩, ⟨bS, CS, 70⟩] M S D [(m1, R1), (mm, Rm)]
 inv : ∃ rows, InvR S D rows
 like : Like S D R1
 ep : S.epoch ≤ E
 sec : D.sectors = 40
 hp : M.p = P
 hb : M.b = b
set_option maxHeartbeats 32000000 in
theorem Whole_any (A0 : Option Addr) (n0 c0 : Nat) (l : List ActP) (dn : Int) (A1 : Option Addr) (n1 c1 : Nat) (fs : List Int) (ag : Int) (A2 : Option Addr) (n2 c2 : Nat) (gs : List Int) (w : World) (hn : l.length = n0) (hac : Acts w w.heap.size A0 l)
  (hdn : dn ≤ 9223372036854775807) (hag : ag ≤ 9223372036854775807) (h1 : fs.length = n1 ∧ n1 ≤ c1 ∧ IRd w A1 fs) (h2 : gs.length = n2 ∧ n2 ≤ c2 ∧ IRd w A2 gs) :
  Calls Tryz.prog 8 #[.agg #[.slice A0 n0 c0, .int .i64 dn, .slice A1 n1 c1, .int .i64 ag, .slice A2 n2 c2]] w fun e w' => e = .returned (.bool true) ∧ Below w.heap.size w w' := by
 have HQ := Lib.hid (Qx.nil w)
 by_cases hb0 : (40 : Int) < n0
 ·clear hn hac hdn hag h1 h2
  go_enter Tryz.func8, Tryz.ntmps8
  go_wp2_with (rw [wpl_id]; first
   | (refine wplx_box HQ 70 _ rfl (wnt rfl) rfl (fun bS w' H2 => ?_); clear HQ; have HQ := H2; clear H2)
   | (refine wpl_ld (Lib.hid HQ.out.bx) 0 rfl _ _ rfl (wnt rfl) (by exact rfl) (by first | exact Tryz.isAgg36 | exact notAgg _ (by decide)) rfl ?_))
  go_ret
  exact ⟨rfl, HQ.out.low⟩
 by_cases hb1 : (60 : Int) < n1
 ·clear hn hac hdn hag h1 h2
  go_enter Tryz.func8, Tryz.ntmps8
  go_wp2_with (rw [wpl_id]; first
   | (refine wplx_box HQ 70 _ rfl (wnt rfl) rfl (fun bS w' H2 => ?_); clear HQ; have HQ := H2; clear H2)
   | (refine wpl_ld (Lib.hid HQ.out.bx) 0 rfl _ _ rfl (wnt rfl) (by exact rfl) (by first | exact Tryz.isAgg36 | exact notAgg _ (by decide)) rfl ?_))
  go_ret
  exact ⟨rfl, HQ.out.low⟩
 by_cases hb2 : (60 : Int) < n2
 ·clear hn hac hdn hag h1 h2
  go_enter Tryz.func8, Tryz.ntmps8
  go_wp2_with (rw [wpl_id]; first
   | (refine wplx_box HQ 70 _ rfl (wnt rfl) rfl (fun bS w' H2 => ?_); clear HQ; have HQ := H2; clear H2)
   | (refine wpl_ld (Lib.hid HQ.out.bx) 0 rfl _ _ rfl (wnt rfl) (by exact rfl) (by first | exact Tryz.isAgg36 | exact notAgg _ (by decide)) rfl ?_))
  go_ret
  exact ⟨rfl, HQ.out.low⟩
 have HN := Lib.hid hn
 have HAC := Lib.hid hac
 have HDN := Lib.hid (And.intro hdn hag)
 have HF1 := Lib.hid h1
 have HF2 := Lib.hid h2
 have hn40 : (n0 : Int) ≤ 40 := by omega
 have hcl : Cln (Dsk.new 40 512) 0 := Cln.new (by decide) (by decide) (by decide) (by decide)
 have hcalm : Calm (Dsk.new 40 512) := ⟨rfl, rfl⟩
 obtain ⟨b1, b2, b3, b4, b5, _⟩ := formed_is hcl hcalm (by decide)
 obtain ⟨D, hD⟩ : ∃ D, D = formed (Dsk.new 40 512) := ⟨_, rfl⟩
 rw [← hD] at b1 b3 b4 b5
 have b4 : D.sectors = 40 := b4
 have b5 : D.size = 512 := b5
 have HD := Lib.hid (And.intro hD (And.intro b1 (And.intro b3 (And.intro b4 b5))))
 have HCL := Lib.hid (And.intro hcl hcalm)
 clear hn hac hdn hag h1 h2 hcl hcalm b1 b2 b3 b4 b5 hD
 go_enter Tryz.func8, Tryz.ntmps8
 go_wp2_with (rw [wpl_id]; first
  | (refine wplx_box HQ 70 _ rfl (wnt rfl) rfl (fun bS w' H2 => ?_); clear HQ; have HQ := H2; clear H2)
  | (refine wpl_ld (Lib.hid HQ.out.bx) 0 rfl _ _ rfl (wnt rfl) (by exact rfl) (by first | exact Tryz.isAgg36 | exact notAgg _ (by decide)) rfl ?_))
 refine (New_dk (v := _) _ 40 512 (fun _ _ => trivial) (Below.refl _ _) (by decide) (by decide) (by decide) (by decide)).mono ?_
 rintro e w1 ⟨b, md, rfl, hk, -⟩
 have HQ2 := Lib.hid (HQ.out.newd hk)
 clear hk
 clear HQ
 have HQ := HQ2
 clear HQ2
 go_wp2_with fail
 refine (Format_lp HQ.out.dk HCL.out.1 HCL.out.2 (by decide)).mono ?_
 rintro e w2 ⟨M, rfl, hk, hst, hbb, _⟩
 have hk : Lp w w2 M ((Pl.laid (Dsk.new 40 512) 0).begun 1) (formed (Dsk.new 40 512)) := hk
 rw [← HD.out.1] at hk
 obtain ⟨S0, hS0⟩ : ∃ S0, S0 = (Pl.laid D 0).begun 1 := ⟨_, rfl⟩
 have hS0' : S0 = (Pl.laid (Dsk.new 40 512) 0).begun 1 := by
  rw [hS0]
  unfold Pl.laid
  rw [HD.out.2.2.2.1]
  rfl
 rw [← hS0'] at hk
 have HLK := Lib.hid (Like.new HD.out.2.2.1 (by rw [HD.out.2.2.2.2]; decide) 1 S0 hS0)
 have HEP := Lib.hid (show S0.epoch = 1 by rw [hS0]; rfl)
 have HQ2 := Lib.hid (HQ.out.toL hk.to_lo hst)
 have HIN := Lib.hid hk.inv
 obtain ⟨P, hP⟩ : ∃ P, M.p = P := ⟨_, rfl⟩
 rw [hP]
 have HPP := Lib.hid (And.intro hP hbb)
 clear hk hst hbb hP hS0 hS0' HCL
 clear HQ
 have HQ := HQ2
 clear HQ2
 go_wp2_with fail
 refine (New_ref 40 512 (by decide) (by decide) (by decide) (by decide) _).mono ?_
 rintro e w3 ⟨m, rfl, hr, hf, hb3⟩
 have HQ2 := Lib.hid (HQ.out.newref hr hf hb3)
 clear hr hf hb3
 clear HQ
 have HQ := HQ2
 clear HQ2
 go_wp2_with (rw [wpl_id]; first
  | (refine wplx_new HQ _ rfl (wnt rfl) Tryz.zeroValue48 (cs := z48) rfl (fun b6 w' H2 => ?_); clear HQ; have HQ := H2; clear H2)
  | (refine wplx_sta HQ 0 rfl rfl _ _ _ rfl (wnt rfl) (by exact rfl) (by exact rfl) Tryz.sizeOf48 (by kernel_rfl) (HQ.out.rp _ List.mem_cons_self).ones (by kernel_rfl) (by kernel_rfl) (splice_whole (n := 25) (by kernel_rfl) (by kernel_rfl)) (fun w' H2 => ?_); simp only [List.set_cons_succ, List.set_cons_zero] at H2; clear HQ; have HQ := H2; clear H2)
  | (refine wpl_ld (Lib.hid HQ.out.bx) 1 rfl _ _ rfl (wnt rfl) (by exact rfl) (by first | exact Tryz.isAgg36 | exact notAgg _ (by decide)) rfl ?_))
 have har := Arm_lp2 (HQ.out.lp HIN.out) dn HDN.out.1
 rw [HPP.out.2] at har
 refine har.mono ?_
 rintro e w4 ⟨rfl, M1, hh, hk, hst⟩
 have HQ2 := Lib.hid (HQ.out.toL hk.to_lo hst)
 have HIN2 := Lib.hid hk.inv
 have HPP2 := Lib.hid (And.intro (hh.p.trans HPP.out.1) (hh.b.trans HPP.out.2))
 clear har hk hst hh HIN HPP
 clear HQ
 have HQ := HQ2
 clear HQ2
 go_wp2_with (rw [wpl_id]; first
  | (refine wpl_lda (Lib.hid HQ.out.bx) 0 rfl _ _ rfl (wnt rfl) (by exact rfl) Tryz.isAgg48 Tryz.sizeOf48 (by kernel_rfl) (whole_take (by kernel_rfl)) ?_)
  | (refine wplx_new HQ _ rfl (wnt rfl) Tryz.zeroValue48 (cs := z48) rfl (fun b7 w' H2 => ?_); clear HQ; have HQ := H2; clear H2)
  | (refine wplx_sta HQ 0 rfl rfl _ _ _ rfl (wnt rfl) (by exact rfl) (by exact rfl) Tryz.sizeOf48 (by kernel_rfl) (HQ.out.rp _ List.mem_cons_self).ones (by kernel_rfl) (by kernel_rfl) (splice_whole (n := 25) (by kernel_rfl) (by kernel_rfl)) (fun w' H2 => ?_); simp only [List.set_cons_succ, List.set_cons_zero] at H2; clear HQ; have HQ := H2; clear H2))
 have H0 := Lib.hid (Wl.mk (CS := #[.slice A0 n0 c0, .int .i64 dn, .slice A1 n1 c1, .int .i64 ag, .slice A2 n2 c2]) (E := 1 + 0) (HQ.out.refs (Rs' := [(m, Rp.new 40 512), (m, Rp.new 40 512)]) (by intro p hp; simp at hp; rw [hp]; exact List.mem_cons_self)) HIN2.out (Like.armd (by have := HLK.out; rw [HD.out.2.2.2.1, HD.out.2.2.2.2] at this; exact this) dn) (by rw [HEP.out]; exact Nat.le_refl _) HD.out.2.2.2.1 HPP2.out.1 HPP2.out.2)
 clear HQ HD HLK HEP HPP2 HIN2
 refine loop_cut (TailC w bS b #[.slice A0 n0 c0, .int .i64 dn, .slice A1 n1 c1, .int .i64 ag, .slice A2 n2 c2]) (fun a v hC => ?_) ?_
 ·clear H0 HN HAC hn40
  obtain ⟨g, b6, b7, md, vl, D, m1, R1, mm, Rm, rfl, HQ, HFN⟩ := hC
  unfold tl8
  go_wp2_with (rw [wpl_id]; first
   | (refine wpl_lda (Lib.hid HQ.out.bx) 1 rfl _ _ rfl (wnt rfl) (by exact rfl) Tryz.isAgg48 Tryz.sizeOf48 (by kernel_rfl) (whole_take (by kernel_rfl)) ?_))
  refine (Back_ref (m := m1) (R := R1) (HQ.out.rp _ List.mem_cons_self)).mono ?_
  rintro e w5 ⟨m2, rfl, hr, hf, hb⟩
  have HQ2 := Lib.hid (HQ.out.ref List.mem_cons_self hr hf hb)
  clear hr hf hb
  clear HQ
  have HQ := HQ2
  clear HQ2
  go_wp2_with (rw [wpl_id]; first
   | (refine wplx_sta HQ 1 rfl rfl _ _ _ rfl (wnt rfl) (by exact rfl) (by exact rfl) Tryz.sizeOf48 (by kernel_rfl) (HQ.out.rp _ List.mem_cons_self).ones (by kernel_rfl) (by kernel_rfl) (splice_whole (n := 25) (by kernel_rfl) (by kernel_rfl)) (fun w' H2 => ?_); simp only [List.set_cons_succ, List.set_cons_zero] at H2; clear HQ; have HQ := H2; clear H2)
   | (refine wpl_ld (Lib.hid HQ.out.bx) 2 rfl _ _ rfl (wnt rfl) (by exact rfl) (by first | exact Tryz.isAgg36 | exact notAgg _ (by decide)) rfl ?_))
  refine (Crash_dk HQ.out.dk fs A1 c1 n1 HF1.out.1 (by have := HFN.out.2; omega) HF1.out.2.1 (HF1.out.2.2.grew HQ.out.low) (HF1.out.2.2.apart HQ.out.low (fun j hj => (HQ.out.tl j hj).2))).mono ?_
  rintro e w6 ⟨rfl, vl2, hd, hst⟩
  have HQ2 := Lib.hid (HQ.out.toD hd hst)
  obtain ⟨s, V, hcr, hor⟩ := HFN.out.1 fs
  obtain ⟨D2, hD2⟩ : ∃ D2, D2 = D.crash fs := ⟨_, rfl⟩
  rw [← hD2] at HQ2 hcr hor
  obtain ⟨-, E2, rows2, hE2, hh2, hsg2⟩ := hcr
  have HH := Lib.hid (And.intro (hh2.arm (n := ag) HDN.out.2) (And.intro (hsg2.arm ag) hE2))
  have HKP := Lib.hid hor
  clear hd hst hD2 hh2 hsg2 hE2 hor HFN
  clear HQ
  have HQ := HQ2
  clear HQ2
  go_wp2_with (rw [wpl_id]; first
   | (refine wpl_ld (Lib.hid HQ.out.bx) 2 rfl _ _ rfl (wnt rfl) (by exact rfl) (by first | exact Tryz.isAgg36 | exact notAgg _ (by decide)) rfl ?_))
  refine (Arm_dk HQ.out.dk ag HDN.out.2).mono ?_
  rintro e w7 ⟨rfl, hd, hst⟩
  have HQ2 := Lib.hid (HQ.out.toD hd hst)
  clear hd hst
  clear HQ
  have HQ := HQ2
  clear HQ2
  go_wp2_with (rw [wpl_id]; first
   | fail)
  refine (Open_two HQ.out.dk HH.out.1 HH.out.2.1 (by have := HH.out.2.2; omega)).mono ?_
  rintro e w8 ⟨p, er, vl3, D4, rfl, her, hd, hst, hs4, hz4, hl4, hc4⟩
  have HQ2 := Lib.hid (HQ.out.toD hd hst)
  have HD4 := Lib.hid (And.intro hs4 (And.intro hz4 (And.intro hl4 hc4)))
  clear hd hst hs4 hz4 hl4 hc4
  clear HQ
  have HQ := HQ2
  clear HQ2
  rcases her with rfl | rfl
  ·go_wp2_with (rw [wpl_id]; first
    | (refine wpl_ld (Lib.hid HQ.out.bx) 2 rfl _ _ rfl (wnt rfl) (by exact rfl) (by first | exact Tryz.isAgg36 | exact notAgg _ (by decide)) rfl ?_))
   refine (Crash_dk HQ.out.dk gs A2 c2 n2 HF2.out.1 (by have := HD4.out.2.2.1; omega) HF2.out.2.1 (HF2.out.2.2.grew HQ.out.low) (HF2.out.2.2.apart HQ.out.low (fun j hj => (HQ.out.tl j hj).2))).mono ?_
   rintro e w9 ⟨rfl, vl4, hd, hst⟩
   have HQ2 := Lib.hid (HQ.out.toD hd hst)
   obtain ⟨ha5, E5, rows5, hE5, hh5⟩ := HD4.out.2.2.2 gs
   obtain ⟨D5, hD5⟩ : ∃ D5, D5 = D4.crash gs := ⟨_, rfl⟩
   have hs5 : D5.sectors = D2.sectors := by rw [hD5]; exact HD4.out.1
   have hz5 : D5.size = D2.size := by rw [hD5]; exact HD4.out.2.1
   rw [← hD5] at HQ2 ha5 hh5
   have HH5 := Lib.hid (And.intro hh5 (And.intro ha5 (show E5 ≤ 901 by have := HH.out.2.2; omega)))
   have HKP5 := Lib.hid (show Keeps D5 s V R1 ∨ Keeps D5 s V Rm from HKP.out.imp (fun h => h.same hs5 hz5) (fun h => h.same hs5 hz5))
   clear hd hst hs5 hz5 hD5 ha5 hh5 hE5 HD4 HH HKP
   clear HQ
   have HQ := HQ2
   clear HQ2
   go_wp2_with fail
   refine (Open_calm HQ.out.dk HH5.out.1 HH5.out.2.1 (by have := HH5.out.2.2; omega)).mono ?_
   rintro e w10 ⟨M', S', D', rfl, hlp, hst, k1, k2, k3, k4, k5, k6, k7, k8⟩
   have HQ2 := Lib.hid (HQ.out.toL hlp.to_lo hst)
   have HIN := Lib.hid hlp.inv
   have hsn : s.next ≤ D5.pg := HH5.out.1.sok.n2
   have HLK := Lib.hid (show Like S' D' R1.back ∨ Like S' D' Rm.back from HKP5.out.imp (fun h => h.like hsn k1 k2 k3 k4 k5 k6 k7 k8) (fun h => h.like hsn k1 k2 k3 k4 k5 k6 k7 k8))
   clear hlp hst k1 k2 k3 k4 k5 k6 k7 k8 hsn HKP5 HH5
   clear HQ
   have HQ := HQ2
   clear HQ2
   go_wp2_with (rw [wpl_id]; first
    | (refine wpl_lda (Lib.hid HQ.out.bx) 1 rfl _ _ rfl (wnt rfl) (by exact rfl) Tryz.isAgg48 Tryz.sizeOf48 (by kernel_rfl) (whole_take (by kernel_rfl)) ?_))
   refine (alike_any (m := m2) (R := R1.back) (HQ.out.lp HIN.out) (HQ.out.rp _ List.mem_cons_self) (HQ.out.rd _ List.mem_cons_self)).mono ?_
   rintro e w11 ⟨B, f, rfl, hB, hlp, hst⟩
   have HQ2 := Lib.hid (HQ.out.toL hlp.to_lo hst)
   have HIN2 := Lib.hid hlp.inv
   clear hlp hst
   clear HQ
   have HQ := HQ2
   clear HQ2
   cases B with
   | true =>
    clear hB
    go_wp2_with fail
    refine (awake_any _).mono ?_
    rintro e w12 ⟨rfl, hb9⟩
    have HB9 := Lib.hid (grow HQ.out.low hb9)
    clear hb9
    go_wp2
    go_ret
    exact ⟨rfl, HB9.out⟩
   | false =>
    have HL2 := Lib.hid (HLK.out.resolve_left (fun h => by cases hB h))
    clear hB
    go_wp2_with (rw [wpl_id]; first
     | (refine wpl_lda (Lib.hid HQ.out.bx) 0 rfl _ _ rfl (wnt rfl) (by exact rfl) Tryz.isAgg48 Tryz.sizeOf48 (by kernel_rfl) (whole_take (by kernel_rfl)) ?_))
    refine (Back_ref (m := mm) (R := Rm) (HQ.out.rp _ (List.mem_cons_of_mem _ (List.mem_cons_of_mem _ List.mem_cons_self)))).mono ?_
    rintro e w12 ⟨m3, rfl, hr, hf, hb⟩
    have HQ2 := Lib.hid (HQ.out.ref (List.mem_cons_of_mem _ (List.mem_cons_of_mem _ List.mem_cons_self)) hr hf hb)
    clear hr hf hb
    clear HQ
    have HQ := HQ2
    clear HQ2
    go_wp2_with fail
    refine (alike_any (m := m3) (R := Rm.back) (HQ.out.lp HIN2.out) (HQ.out.rp _ List.mem_cons_self) (HQ.out.rd _ List.mem_cons_self)).mono ?_
    rintro e w13 ⟨B, f, rfl, hB, hlp, -⟩
    obtain rfl := hB (Like.seen HL2.out ⟨_, rfl⟩)
    have HLW := Lib.hid hlp.low
    clear hB hlp
    go_wp2_with fail
    refine (awake_any _).mono ?_
    rintro e w14 ⟨rfl, hb9⟩
    have HB9 := Lib.hid (grow HLW.out hb9)
    clear hb9
    go_wp2
    go_ret
    exact ⟨rfl, HB9.out⟩
  ·go_wp2_with (rw [wpl_id]; first
    | (refine wpl_ld (Lib.hid HQ.out.bx) 2 rfl _ _ rfl (wnt rfl) (by exact rfl) (by first | exact Tryz.isAgg36 | exact notAgg _ (by decide)) rfl ?_))
   refine (Crash_dk HQ.out.dk gs A2 c2 n2 HF2.out.1 (by have := HD4.out.2.2.1; omega) HF2.out.2.1 (HF2.out.2.2.grew HQ.out.low) (HF2.out.2.2.apart HQ.out.low (fun j hj => (HQ.out.tl j hj).2))).mono ?_
   rintro e w9 ⟨rfl, vl4, hd, hst⟩
   have HQ2 := Lib.hid (HQ.out.toD hd hst)
   obtain ⟨ha5, E5, rows5, hE5, hh5⟩ := HD4.out.2.2.2 gs
   obtain ⟨D5, hD5⟩ : ∃ D5, D5 = D4.crash gs := ⟨_, rfl⟩
   have hs5 : D5.sectors = D2.sectors := by rw [hD5]; exact HD4.out.1
   have hz5 : D5.size = D2.size := by rw [hD5]; exact HD4.out.2.1
   rw [← hD5] at HQ2 ha5 hh5
   have HH5 := Lib.hid (And.intro hh5 (And.intro ha5 (show E5 ≤ 901 by have := HH.out.2.2; omega)))
   have HKP5 := Lib.hid (show Keeps D5 s V R1 ∨ Keeps D5 s V Rm from HKP.out.imp (fun h => h.same hs5 hz5) (fun h => h.same hs5 hz5))
   clear hd hst hs5 hz5 hD5 ha5 hh5 hE5 HD4 HH HKP
   clear HQ
   have HQ := HQ2
   clear HQ2
   go_wp2_with fail
   refine (Open_calm HQ.out.dk HH5.out.1 HH5.out.2.1 (by have := HH5.out.2.2; omega)).mono ?_
   rintro e w10 ⟨M', S', D', rfl, hlp, hst, k1, k2, k3, k4, k5, k6, k7, k8⟩
   have HQ2 := Lib.hid (HQ.out.toL hlp.to_lo hst)
   have HIN := Lib.hid hlp.inv
   have hsn : s.next ≤ D5.pg := HH5.out.1.sok.n2
   have HLK := Lib.hid (show Like S' D' R1.back ∨ Like S' D' Rm.back from HKP5.out.imp (fun h => h.like hsn k1 k2 k3 k4 k5 k6 k7 k8) (fun h => h.like hsn k1 k2 k3 k4 k5 k6 k7 k8))
   clear hlp hst k1 k2 k3 k4 k5 k6 k7 k8 hsn HKP5 HH5
   clear HQ
   have HQ := HQ2
   clear HQ2
   go_wp2_with (rw [wpl_id]; first
    | (refine wpl_lda (Lib.hid HQ.out.bx) 1 rfl _ _ rfl (wnt rfl) (by exact rfl) Tryz.isAgg48 Tryz.sizeOf48 (by kernel_rfl) (whole_take (by kernel_rfl)) ?_))
   refine (alike_any (m := m2) (R := R1.back) (HQ.out.lp HIN.out) (HQ.out.rp _ List.mem_cons_self) (HQ.out.rd _ List.mem_cons_self)).mono ?_
   rintro e w11 ⟨B, f, rfl, hB, hlp, hst⟩
   have HQ2 := Lib.hid (HQ.out.toL hlp.to_lo hst)
   have HIN2 := Lib.hid hlp.inv
   clear hlp hst
   clear HQ
   have HQ := HQ2
   clear HQ2
   cases B with
   | true =>
    clear hB
    go_wp2_with fail
    refine (awake_any _).mono ?_
    rintro e w12 ⟨rfl, hb9⟩
    have HB9 := Lib.hid (grow HQ.out.low hb9)
    clear hb9
    go_wp2
    go_ret
    exact ⟨rfl, HB9.out⟩
   | false =>
    have HL2 := Lib.hid (HLK.out.resolve_left (fun h => by cases hB h))
    clear hB
    go_wp2_with (rw [wpl_id]; first
     | (refine wpl_lda (Lib.hid HQ.out.bx) 0 rfl _ _ rfl (wnt rfl) (by exact rfl) Tryz.isAgg48 Tryz.sizeOf48 (by kernel_rfl) (whole_take (by kernel_rfl)) ?_))
    refine (Back_ref (m := mm) (R := Rm) (HQ.out.rp _ (List.mem_cons_of_mem _ (List.mem_cons_of_mem _ List.mem_cons_self)))).mono ?_
    rintro e w12 ⟨m3, rfl, hr, hf, hb⟩
    have HQ2 := Lib.hid (HQ.out.ref (List.mem_cons_of_mem _ (List.mem_cons_of_mem _ List.mem_cons_self)) hr hf hb)
    clear hr hf hb
    clear HQ
    have HQ := HQ2
    clear HQ2
    go_wp2_with fail
    refine (alike_any (m := m3) (R := Rm.back) (HQ.out.lp HIN2.out) (HQ.out.rp _ List.mem_cons_self) (HQ.out.rd _ List.mem_cons_self)).mono ?_
    rintro e w13 ⟨B, f, rfl, hB, hlp, -⟩
    obtain rfl := hB (Like.seen HL2.out ⟨_, rfl⟩)
    have HLW := Lib.hid hlp.low
    clear hB hlp
    go_wp2_with fail
    refine (awake_any _).mono ?_
    rintro e w14 ⟨rfl, hb9⟩
    have HB9 := Lib.hid (grow HLW.out hb9)
    clear hb9
    go_wp2
    go_ret
    exact ⟨rfl, HB9.out⟩
 go_loopw [8] (fun iv wr => ∃ (j : Nat) (M1 : Mem) (S1 : Pl) (D1 : Dsk) (m1 : Rm) (R1 : Rp) (mm : Rm) (Rm : Rp), j ≤ n0 ∧ iv = .int .i64 j ∧ Hid (Wl w wr bS b6 b7 P b #[.slice A0 n0 c0, .int .i64 dn, .slice A1 n1 c1, .int .i64 ag, .slice A2 n2 c2] (1 + j) M1 S1 D1 m1 R1 mm Rm)) (fun iv _ => n0 - (intOf iv).toNat)
 case atStart => exact ⟨0, M1, _, _, _, _, _, _, by omega, rfl, H0⟩
 case round =>
  clear H0
  obtain ⟨j, M1, S1, D1, m1, R1, mm, Rm, hj, rfl, HWL⟩ := hrel
  by_cases hlt : j < n0
  ·have hlt' : (j : Int) < n0 := by omega
   have hkl : j < l.length := by rw [HN.out]; exact hlt
   obtain ⟨p, rfl, hpb, -⟩ := HAC.out (by intro e; rw [e] at hkl; simp at hkl)
   have HC := Lib.hid (fun (v : World) (k : Below w.heap.size w v) => HAC.out.four k hkl)
   obtain ⟨x, hx⟩ : ∃ x, x = l[j] := ⟨_, rfl⟩
   rw [← hx] at HC
   obtain ⟨rows, hi⟩ := HWL.out.inv
   have HI := Lib.hid hi
   have HSM := Lib.hid (HWL.out.like.small hi (by have := HWL.out.sec; omega))
   have HQ := Lib.hid HWL.out.q
   obtain ⟨hB, c0', c1', c2', c3'⟩ := HC.out _ HQ.out.low
   have HXB := Lib.hid hB
   have hdd := did_arm (HQ.out.lp HWL.out.inv) HWL.out.like (by have := HWL.out.ep; omega) x hB
   rw [HWL.out.hp] at hdd
   have HDD := Lib.hid hdd
   clear hdd hx hB hpb hi
   go_wp2_with (rw [wpl_id]; first
    | (refine wpl_ld (Lib.hid HQ.out.bx) 2 rfl _ _ rfl (wnt rfl) (by exact rfl) (by first | exact Tryz.isAgg36 | exact notAgg _ (by decide)) rfl ?_))
   refine HDD.out.mono ?_
   rintro e w5 ⟨er, rfl, M2, S2, D2, hh, hst, hor⟩
   clear c0' c1' c2' c3' HDD
   rcases hor with ⟨hne, hlp, hep, hsec, hsiz, hlk⟩ | ⟨rfl, hlo, hdw, hft⟩
   ·have HQ2 := Lib.hid (HQ.out.toL hlp.to_lo hst)
    have HIN2 := Lib.hid hlp.inv
    have HLK := Lib.hid hlk
    have HEP2 := Lib.hid (show S2.epoch ≤ 1 + (j + 1) by have := HWL.out.ep; omega)
    have HSC2 := Lib.hid (hsec.trans HWL.out.sec)
    have HPB2 := Lib.hid (And.intro (hh.p.trans HWL.out.hp) (hh.b.trans HWL.out.hb))
    clear hlp hst hlk hep hsec hsiz hh HWL HI
    clear HQ
    have HQ := HQ2
    clear HQ2
    obtain ⟨-, c0', c1', c2', c3'⟩ := HC.out _ HQ.out.low
    go_wp2_with fail
    obtain ⟨Sw0, Sw0u, Sw0m, Sw0t⟩ := lay (fun v : World => Qp w v [⟨b7, pc mm Rm, 48⟩, ⟨b6, pc m1 R1, 48⟩, ⟨bS, #[.slice (some p) n0 c0, .int .i64 dn, .slice A1 n1 c1, .int .i64 ag, .slice A2 n2 c2], 70⟩] M2 S2 D2 [(m1, R1), (mm, Rm)] ∧ v.cell? (p.add (j * 4)) = some (.int .i64 x.k) ∧ v.cell? ⟨(p.add (j * 4)).block, (p.add (j * 4)).off + 1, none⟩ = some (.int .i64 x.pg) ∧ v.cell? ⟨(p.add (j * 4)).block, (p.add (j * 4)).off + 2, none⟩ = some (.int .i64 x.ln) ∧ v.cell? ⟨(p.add (j * 4)).block, (p.add (j * 4)).off + 3, none⟩ = some (.int .u8 (x.B : Nat))) ((Qx.stands _ _ _ _ _).and ((stands_cell _ _).and ((stands_cell _ _).and ((stands_cell _ _).and (stands_cell _ _)))))
    refine wp_region_X (S := Sw0) (by kernel_rfl) (Sw0m.out _ ⟨HQ.out.grew ⟨rfl, rfl, rfl, Nat.le_refl _, fun _ _ => rfl⟩, c0', c1', c2', c3'⟩) ?_
    clear c0' c1' c2' c3'
    refine wpX_take (i := 0) (v := .agg (pc m1 R1)) Sw0t.out rfl rfl (by kernel_rfl) (by kernel_rfl) (by kernel_rfl) (by kernel_rfl) (fun _ _ _ h => h) (SteadyX.value (by rfl) (fun w_ hS => by obtain ⟨q0, q1, q2, q3, q4⟩ := Sw0u.out _ hS; exact exec_load 48 (.tmp 6) rfl (vx := .pointer (some ⟨b6, 0, none⟩)) rfl (run_load_whole (Tryz.isAgg48 _) (Tryz.sizeOf48 _) (q0.bx.at_ (i := 1) rfl) rfl))) ?_
    simp only [sL]
    refine wpX_t 1 ?_ Sw0t.out rfl rfl (by kernel_rfl) (fun _ _ _ h => h) rfl ?_ ?_
    rotate_left
    ·(intro w_ hS; go_simp; try with_reducible rfl)
    simp only [sL]
    refine wpX_take (i := 2) (v := .slice (some p) n0 c0) Sw0t.out rfl rfl (by kernel_rfl) (by kernel_rfl) (by kernel_rfl) (by kernel_rfl) (fun _ _ _ h => h) (SteadyX.value (by rfl) (fun w_ hS => by obtain ⟨q0, q1, q2, q3, q4⟩ := Sw0u.out _ hS; exact exec_load 36 (.tmp 60) rfl (vx := .pointer (some ⟨bS, 0, none⟩)) rfl (run_load_one (Tryz.isAgg36 _) (q0.bx.at_ (i := 2) rfl) rfl))) ?_
    simp only [sL]
    refine wpX_t 3 ?_ Sw0t.out rfl rfl (by kernel_rfl) (fun _ _ _ h => h) rfl ?_ ?_
    rotate_left
    ·(intro w_ hS; go_simp; try with_reducible rfl)
    simp only [sL]
    refine wpX_t 4 ?_ Sw0t.out rfl rfl (by kernel_rfl) (fun _ _ _ h => h) rfl ?_ ?_
    rotate_left
    ·(intro w_ hS; go_simp; try with_reducible rfl)
    simp only [sL]
    refine wpX_t 5 ?_ Sw0t.out rfl rfl (by kernel_rfl) (fun _ _ _ h => h) rfl ?_ ?_
    rotate_left
    ·(intro w_ hS; obtain ⟨q0, q1, q2, q3, q4⟩ := Sw0u.out _ hS; (clear q0); go_simp; try with_reducible rfl)
    simp only [sL]
    have hwu := Sw0u.out
    refine wpX_callbox (c := 6) (al := 7) (st := 8) (w0 := w) (L := [⟨b7, pc mm Rm, 48⟩, ⟨b6, pc m1 R1, 48⟩, ⟨bS, #[.slice (some p) n0 c0, .int .i64 dn, .slice A1 n1 c1, .int .i64 ag, .slice A2 n2 c2], 70⟩]) (T := M2.own) (K := fun v => PoolAt v M2 S2 D2) (Rs := [(m1, R1), (mm, Rm)]) (m := m1) (R := R1) (R' := R1.foll x) (f := 38) (args := #[.agg (pc m1 R1), .agg #[.int .i64 x.k, .int .i64 x.pg, .int .i64 x.ln, .int .u8 (x.B : Nat)]]) (dc := 65) (da := 10) Sw0t.out (fun v h => (hwu v h).1) List.mem_cons_self (by kernel_rfl) (by kernel_rfl) (by kernel_rfl) (by kernel_rfl) (by kernel_rfl) (by kernel_rfl) (by decide) (by decide) ⟨(by show 65 < 136; decide), (by show 10 < 136; decide)⟩ rfl rfl rfl rfl rfl rfl rfl rfl rfl rfl rfl (fun w_ => by go_simp) (fun x_ w_ => by simp only [sL]; go_simp) (fun v h => ?_) (fun b10 m2 w6 hq => ?_)
    ·refine (foll_any x HXB.out (h.rp _ List.mem_cons_self) HSM.out.1 HSM.out.2.1 HSM.out.2.2).mono ?_
     rintro e w' ⟨m', rfl, hr, hf, hb⟩
     exact ⟨_, rfl, m', rfl, hr, hf, hb⟩
    have HQ2 := Lib.hid hq
    clear hwu hq Sw0u Sw0m Sw0t
    clear Sw0
    simp only [sL]
    clear HQ
    have HQ := HQ2
    clear HQ2
    by_cases h0 : er = 0
    ·subst h0
     have HLK2 := Lib.hid (show Like S2 D2 (R1.foll x) by have h := HLK.out; rw [if_pos (.inl rfl)] at h; exact h)
     clear hne HLK
     go_wp2_with (rw [wpl_id]; first
      | (refine wpl_lda (Lib.hid HQ.out.bx) 0 rfl _ _ rfl (wnt rfl) (by exact rfl) Tryz.isAgg48 Tryz.sizeOf48 (by kernel_rfl) (whole_take (by kernel_rfl)) ?_)
      | (refine wplx_sta HQ 2 rfl rfl _ _ _ rfl (wnt rfl) (by exact rfl) (by exact rfl) Tryz.sizeOf48 (by kernel_rfl) (HQ.out.rp _ List.mem_cons_self).ones (by kernel_rfl) (by kernel_rfl) (splice_whole (n := 25) (by kernel_rfl) (by kernel_rfl)) (fun w' H2 => ?_); simp only [List.set_cons_succ, List.set_cons_zero] at H2; clear HQ; have HQ := H2; clear H2)
      | (refine wpl_lda (Lib.hid HQ.out.bx) 2 rfl _ _ rfl (wnt rfl) (by exact rfl) Tryz.isAgg48 Tryz.sizeOf48 (by kernel_rfl) (whole_take (by kernel_rfl)) ?_))
     refine (Back_ref (m := m2) (R := (R1.foll x)) (HQ.out.rp _ List.mem_cons_self)).mono ?_
     rintro e w7 ⟨m3, rfl, hr, hf, hb⟩
     have HQ2 := Lib.hid (HQ.out.ref List.mem_cons_self hr hf hb)
     clear hr hf hb
     clear HQ
     have HQ := HQ2
     clear HQ2
     go_wp2_with (rw [wpl_id]; first
      | (refine wplx_sta HQ 1 rfl rfl _ _ _ rfl (wnt rfl) (by exact rfl) (by exact rfl) Tryz.sizeOf48 (by kernel_rfl) (HQ.out.rp _ List.mem_cons_self).ones (by kernel_rfl) (by kernel_rfl) (splice_whole (n := 25) (by kernel_rfl) (by kernel_rfl)) (fun w' H2 => ?_); simp only [List.set_cons_succ, List.set_cons_zero] at H2; clear HQ; have HQ := H2; clear H2))
     have HW2 := Lib.hid (Wl.mk (P := P) (b := b) (E := 1 + (j + 1)) ((HQ.out.sub (List.Sublist.cons _ (List.Sublist.refl _))).refs (Rs' := [(m2, (R1.foll x)), (m3, (R1.foll x).back)]) (by intro p hp; simp only [List.mem_cons, List.not_mem_nil, or_false] at hp ⊢; rcases hp with rfl | rfl <;> simp)) HIN2.out HLK2.out HEP2.out HSC2.out HPB2.out.1 HPB2.out.2)
     clear HQ HIN2 HLK2 HEP2 HSC2 HPB2
     go_roundw
     case rel => exact ⟨j + 1, M2, S2, D2, _, _, _, _, by omega, by go_num, HW2⟩
     case measure => simp [intOf]; omega
    by_cases h6 : er = 6
    ·subst h6
     have HLK2 := Lib.hid (show Like S2 D2 (R1.foll x) by have h := HLK.out; rw [if_pos (.inr rfl)] at h; exact h)
     clear hne h0 HLK
     go_wp2_with (rw [wpl_id]; first
      | (refine wpl_lda (Lib.hid HQ.out.bx) 0 rfl _ _ rfl (wnt rfl) (by exact rfl) Tryz.isAgg48 Tryz.sizeOf48 (by kernel_rfl) (whole_take (by kernel_rfl)) ?_)
      | (refine wplx_sta HQ 2 rfl rfl _ _ _ rfl (wnt rfl) (by exact rfl) (by exact rfl) Tryz.sizeOf48 (by kernel_rfl) (HQ.out.rp _ List.mem_cons_self).ones (by kernel_rfl) (by kernel_rfl) (splice_whole (n := 25) (by kernel_rfl) (by kernel_rfl)) (fun w' H2 => ?_); simp only [List.set_cons_succ, List.set_cons_zero] at H2; clear HQ; have HQ := H2; clear H2)
      | (refine wpl_lda (Lib.hid HQ.out.bx) 2 rfl _ _ rfl (wnt rfl) (by exact rfl) Tryz.isAgg48 Tryz.sizeOf48 (by kernel_rfl) (whole_take (by kernel_rfl)) ?_))
     refine (Back_ref (m := m2) (R := (R1.foll x)) (HQ.out.rp _ List.mem_cons_self)).mono ?_
     rintro e w7 ⟨m3, rfl, hr, hf, hb⟩
     have HQ2 := Lib.hid (HQ.out.ref List.mem_cons_self hr hf hb)
     clear hr hf hb
     clear HQ
     have HQ := HQ2
     clear HQ2
     go_wp2_with (rw [wpl_id]; first
      | (refine wplx_sta HQ 1 rfl rfl _ _ _ rfl (wnt rfl) (by exact rfl) (by exact rfl) Tryz.sizeOf48 (by kernel_rfl) (HQ.out.rp _ List.mem_cons_self).ones (by kernel_rfl) (by kernel_rfl) (splice_whole (n := 25) (by kernel_rfl) (by kernel_rfl)) (fun w' H2 => ?_); simp only [List.set_cons_succ, List.set_cons_zero] at H2; clear HQ; have HQ := H2; clear H2))
     have HW2 := Lib.hid (Wl.mk (P := P) (b := b) (E := 1 + (j + 1)) ((HQ.out.sub (List.Sublist.cons _ (List.Sublist.refl _))).refs (Rs' := [(m2, (R1.foll x)), (m3, (R1.foll x).back)]) (by intro p hp; simp only [List.mem_cons, List.not_mem_nil, or_false] at hp ⊢; rcases hp with rfl | rfl <;> simp)) HIN2.out HLK2.out HEP2.out HSC2.out HPB2.out.1 HPB2.out.2)
     clear HQ HIN2 HLK2 HEP2 HSC2 HPB2
     go_roundw
     case rel => exact ⟨j + 1, M2, S2, D2, _, _, _, _, by omega, by go_num, HW2⟩
     case measure => simp [intOf]; omega
    have HLK2 := Lib.hid (show Like S2 D2 R1 by have h := HLK.out; rw [if_neg (by omega)] at h; exact h)
    have q0 : (er == (0 : Int)) = false := by simpa using h0
    have q6 : (er == (6 : Int)) = false := by simpa using h6
    clear HLK
    go_wp2_with (rw [wpl_id]; first
     | (refine wpl_lda (Lib.hid HQ.out.bx) 2 rfl _ _ rfl (wnt rfl) (by exact rfl) Tryz.isAgg48 Tryz.sizeOf48 (by kernel_rfl) (whole_take (by kernel_rfl)) ?_))
    refine (Back_ref (m := m1) (R := R1) (HQ.out.rp _ (List.mem_cons_of_mem _ List.mem_cons_self))).mono ?_
    rintro e w7 ⟨m3, rfl, hr, hf, hb⟩
    have HQ2 := Lib.hid (HQ.out.ref (List.mem_cons_of_mem _ List.mem_cons_self) hr hf hb)
    clear hr hf hb
    clear HQ
    have HQ := HQ2
    clear HQ2
    go_wp2_with (rw [wpl_id]; first
     | (refine wplx_sta HQ 1 rfl rfl _ _ _ rfl (wnt rfl) (by exact rfl) (by exact rfl) Tryz.sizeOf48 (by kernel_rfl) (HQ.out.rp _ List.mem_cons_self).ones (by kernel_rfl) (by kernel_rfl) (splice_whole (n := 25) (by kernel_rfl) (by kernel_rfl)) (fun w' H2 => ?_); simp only [List.set_cons_succ, List.set_cons_zero] at H2; clear HQ; have HQ := H2; clear H2))
    have HW2 := Lib.hid (Wl.mk (P := P) (b := b) (E := 1 + (j + 1)) ((HQ.out.sub (List.Sublist.cons _ (List.Sublist.refl _))).refs (Rs' := [(m1, R1), (m3, R1.back)]) (by intro p hp; simp only [List.mem_cons, List.not_mem_nil, or_false] at hp ⊢; rcases hp with rfl | rfl <;> simp)) HIN2.out HLK2.out HEP2.out HSC2.out HPB2.out.1 HPB2.out.2)
    clear HQ HIN2 HLK2 HEP2 HSC2 HPB2
    go_roundw
    case rel => exact ⟨j + 1, M2, S2, D2, _, _, _, _, by omega, by go_num, HW2⟩
    case measure => simp [intOf]; omega
   ·have HQ2 := Lib.hid (HQ.out.toL hlo hst)
    have HFT := Lib.hid (fun (Rz : Rp) (hz : kindOf x.k = 5 → Rz = R1.foll x) => And.intro (Fin.fate HWL.out.like HI.out (by have := HWL.out.ep; omega) hdw hft hz) hdw.few)
    have HPB2 := Lib.hid (hh.b.trans HWL.out.hb)
    clear hlo hst hdw hft hh HWL HI
    clear HQ
    have HQ := HQ2
    clear HQ2
    obtain ⟨-, c0', c1', c2', c3'⟩ := HC.out _ HQ.out.low
    go_wp2_with fail
    obtain ⟨Sw0, Sw0u, Sw0m, Sw0t⟩ := lay (fun v : World => Qp w v [⟨b7, pc mm Rm, 48⟩, ⟨b6, pc m1 R1, 48⟩, ⟨bS, #[.slice (some p) n0 c0, .int .i64 dn, .slice A1 n1 c1, .int .i64 ag, .slice A2 n2 c2], 70⟩] M2 S2 D2 [(m1, R1), (mm, Rm)] ∧ v.cell? (p.add (j * 4)) = some (.int .i64 x.k) ∧ v.cell? ⟨(p.add (j * 4)).block, (p.add (j * 4)).off + 1, none⟩ = some (.int .i64 x.pg) ∧ v.cell? ⟨(p.add (j * 4)).block, (p.add (j * 4)).off + 2, none⟩ = some (.int .i64 x.ln) ∧ v.cell? ⟨(p.add (j * 4)).block, (p.add (j * 4)).off + 3, none⟩ = some (.int .u8 (x.B : Nat))) ((Qx.stands _ _ _ _ _).and ((stands_cell _ _).and ((stands_cell _ _).and ((stands_cell _ _).and (stands_cell _ _)))))
    refine wp_region_X (S := Sw0) (by kernel_rfl) (Sw0m.out _ ⟨HQ.out.grew ⟨rfl, rfl, rfl, Nat.le_refl _, fun _ _ => rfl⟩, c0', c1', c2', c3'⟩) ?_
    clear c0' c1' c2' c3'
    refine wpX_take (i := 0) (v := .agg (pc m1 R1)) Sw0t.out rfl rfl (by kernel_rfl) (by kernel_rfl) (by kernel_rfl) (by kernel_rfl) (fun _ _ _ h => h) (SteadyX.value (by rfl) (fun w_ hS => by obtain ⟨q0, q1, q2, q3, q4⟩ := Sw0u.out _ hS; exact exec_load 48 (.tmp 6) rfl (vx := .pointer (some ⟨b6, 0, none⟩)) rfl (run_load_whole (Tryz.isAgg48 _) (Tryz.sizeOf48 _) (q0.bx.at_ (i := 1) rfl) rfl))) ?_
    simp only [sL]
    refine wpX_t 1 ?_ Sw0t.out rfl rfl (by kernel_rfl) (fun _ _ _ h => h) rfl ?_ ?_
    rotate_left
    ·(intro w_ hS; go_simp; try with_reducible rfl)
    simp only [sL]
    refine wpX_take (i := 2) (v := .slice (some p) n0 c0) Sw0t.out rfl rfl (by kernel_rfl) (by kernel_rfl) (by kernel_rfl) (by kernel_rfl) (fun _ _ _ h => h) (SteadyX.value (by rfl) (fun w_ hS => by obtain ⟨q0, q1, q2, q3, q4⟩ := Sw0u.out _ hS; exact exec_load 36 (.tmp 60) rfl (vx := .pointer (some ⟨bS, 0, none⟩)) rfl (run_load_one (Tryz.isAgg36 _) (q0.bx.at_ (i := 2) rfl) rfl))) ?_
    simp only [sL]
    refine wpX_t 3 ?_ Sw0t.out rfl rfl (by kernel_rfl) (fun _ _ _ h => h) rfl ?_ ?_
    rotate_left
    ·(intro w_ hS; go_simp; try with_reducible rfl)
    simp only [sL]
    refine wpX_t 4 ?_ Sw0t.out rfl rfl (by kernel_rfl) (fun _ _ _ h => h) rfl ?_ ?_
    rotate_left
    ·(intro w_ hS; go_simp; try with_reducible rfl)
    simp only [sL]
    refine wpX_t 5 ?_ Sw0t.out rfl rfl (by kernel_rfl) (fun _ _ _ h => h) rfl ?_ ?_
    rotate_left
    ·(intro w_ hS; obtain ⟨q0, q1, q2, q3, q4⟩ := Sw0u.out _ hS; (clear q0); go_simp; try with_reducible rfl)
    simp only [sL]
    have hwu := Sw0u.out
    refine wpX_callbox (c := 6) (al := 7) (st := 8) (w0 := w) (L := [⟨b7, pc mm Rm, 48⟩, ⟨b6, pc m1 R1, 48⟩, ⟨bS, #[.slice (some p) n0 c0, .int .i64 dn, .slice A1 n1 c1, .int .i64 ag, .slice A2 n2 c2], 70⟩]) (T := M2.own) (K := fun v => PoolAt v M2 S2 D2) (Rs := [(m1, R1), (mm, Rm)]) (m := m1) (R := R1) (R' := R1.foll x) (f := 38) (args := #[.agg (pc m1 R1), .agg #[.int .i64 x.k, .int .i64 x.pg, .int .i64 x.ln, .int .u8 (x.B : Nat)]]) (dc := 65) (da := 10) Sw0t.out (fun v h => (hwu v h).1) List.mem_cons_self (by kernel_rfl) (by kernel_rfl) (by kernel_rfl) (by kernel_rfl) (by kernel_rfl) (by kernel_rfl) (by decide) (by decide) ⟨(by show 65 < 136; decide), (by show 10 < 136; decide)⟩ rfl rfl rfl rfl rfl rfl rfl rfl rfl rfl rfl (fun w_ => by go_simp) (fun x_ w_ => by simp only [sL]; go_simp) (fun v h => ?_) (fun b10 m2 w6 hq => ?_)
    ·refine (foll_any x HXB.out (h.rp _ List.mem_cons_self) HSM.out.1 HSM.out.2.1 HSM.out.2.2).mono ?_
     rintro e w' ⟨m', rfl, hr, hf, hb⟩
     exact ⟨_, rfl, m', rfl, hr, hf, hb⟩
    have HQ2 := Lib.hid hq
    clear hwu hq Sw0u Sw0m Sw0t
    clear Sw0
    simp only [sL]
    clear HQ
    have HQ := HQ2
    clear HQ2
    obtain ⟨-, c0', -, -, -⟩ := HC.out _ HQ.out.low
    have e1 : IntKind.i64.wrap (x.k.tmod 9) = x.k.tmod 9 := by
     have t1 := Int.lt_tmod_of_pos x.k (show (0 : Int) < 9 by omega)
     have t2 := Int.tmod_lt_of_pos x.k (show (0 : Int) < 9 by omega)
     rw [IntKind.wrap_i64]; omega
    have e2 : IntKind.i64.wrap (x.k.tmod 9 + 9) = x.k.tmod 9 + 9 := by
     have t1 := Int.lt_tmod_of_pos x.k (show (0 : Int) < 9 by omega)
     have t2 := Int.tmod_lt_of_pos x.k (show (0 : Int) < 9 by omega)
     rw [IntKind.wrap_i64]; omega
    have e4 : (x.k.tmod 9 + 9).tmod 9 = (kindOf x.k : Int) := rem_mod x.k 9 (by omega)
    by_cases h5 : kindOf x.k = 5
    ·have e5 : (x.k.tmod 9 + 9).tmod 9 = 5 := by rw [e4, h5]; rfl
     have HTT := Lib.hid (HFT.out (R1.foll x) (fun _ => rfl))
     clear e4 HFT h5
     go_wp2_with (rw [wpl_id]; first
      | (refine wpl_ld (Lib.hid HQ.out.bx) 3 rfl _ _ rfl (wnt rfl) (by exact rfl) (by first | exact Tryz.isAgg36 | exact notAgg _ (by decide)) rfl ?_)
      | (refine wpl_lda (Lib.hid HQ.out.bx) 0 rfl _ _ rfl (wnt rfl) (by exact rfl) Tryz.isAgg48 Tryz.sizeOf48 (by kernel_rfl) (whole_take (by kernel_rfl)) ?_)
      | (refine wplx_sta HQ 1 rfl rfl _ _ _ rfl (wnt rfl) (by exact rfl) (by exact rfl) Tryz.sizeOf48 (by kernel_rfl) (HQ.out.rp _ List.mem_cons_self).ones (by kernel_rfl) (by kernel_rfl) (splice_whole (n := 25) (by kernel_rfl) (by kernel_rfl)) (fun w' H2 => ?_); simp only [List.set_cons_succ, List.set_cons_zero] at H2; clear HQ; have HQ := H2; clear H2))
     show TailC _ _ _ _ _ _
     have HQ3 := Lib.hid ((HQ.out.sub (List.Sublist.cons _ (List.Sublist.refl _))).disk.refs (Rs' := [(m1, R1), (m2, R1.foll x)]) (by intro p hp; simp only [List.mem_cons, List.not_mem_nil, or_false] at hp ⊢; rcases hp with rfl | rfl <;> simp))
     rw [HPB2.out] at HQ3
     exact TailC.mk (by first | kernel_rfl | rfl) rfl HQ3 HTT
    ·have e5 : ¬ (x.k.tmod 9 + 9).tmod 9 = 5 := by rw [e4]; omega
     have HTT := Lib.hid (HFT.out R1.back (fun h => absurd h h5))
     clear e4 HFT h5
     go_wp2_with (rw [wpl_id]; first
      | (refine wpl_ld (Lib.hid HQ.out.bx) 3 rfl _ _ rfl (wnt rfl) (by exact rfl) (by first | exact Tryz.isAgg36 | exact notAgg _ (by decide)) rfl ?_)
      | (refine wpl_lda (Lib.hid HQ.out.bx) 2 rfl _ _ rfl (wnt rfl) (by exact rfl) Tryz.isAgg48 Tryz.sizeOf48 (by kernel_rfl) (whole_take (by kernel_rfl)) ?_))
     refine (Back_ref (m := m1) (R := R1) (HQ.out.rp _ (List.mem_cons_of_mem _ List.mem_cons_self))).mono ?_
     rintro e w7 ⟨m3, rfl, hr, hf, hb⟩
     have HQ2 := Lib.hid (HQ.out.ref (List.mem_cons_of_mem _ List.mem_cons_self) hr hf hb)
     clear hr hf hb
     clear HQ
     have HQ := HQ2
     clear HQ2
     go_wp2_with (rw [wpl_id]; first
      | (refine wplx_sta HQ 1 rfl rfl _ _ _ rfl (wnt rfl) (by exact rfl) (by exact rfl) Tryz.sizeOf48 (by kernel_rfl) (HQ.out.rp _ List.mem_cons_self).ones (by kernel_rfl) (by kernel_rfl) (splice_whole (n := 25) (by kernel_rfl) (by kernel_rfl)) (fun w' H2 => ?_); simp only [List.set_cons_succ, List.set_cons_zero] at H2; clear HQ; have HQ := H2; clear H2))
     show TailC _ _ _ _ _ _
     have HQ3 := Lib.hid ((HQ.out.sub (List.Sublist.cons _ (List.Sublist.refl _))).disk.refs (Rs' := [(m1, R1), (m3, R1.back)]) (by intro p hp; simp only [List.mem_cons, List.not_mem_nil, or_false] at hp ⊢; rcases hp with rfl | rfl <;> simp))
     rw [HPB2.out] at HQ3
     exact TailC.mk (by first | kernel_rfl | rfl) rfl HQ3 HTT
  ·have hkn : ¬ (j : Int) < n0 := by omega
   have HQ := Lib.hid HWL.out.q
   go_wp2_with (rw [wpl_id]; first
    | (refine wpl_ld (Lib.hid HQ.out.bx) 2 rfl _ _ rfl (wnt rfl) (by exact rfl) (by first | exact Tryz.isAgg36 | exact notAgg _ (by decide)) rfl ?_))
   show TailC _ _ _ _ _ _
   obtain ⟨rows, hi⟩ := HWL.out.inv
   have HTT := Lib.hid (And.intro (Fin.live HWL.out.like hi (by have := HWL.out.ep; omega) Rm) (show D1.loose.length ≤ 1048576 by rw [hi.cl.lose]; simp))
   have HQ3 := Lib.hid HQ.out.disk
   rw [HWL.out.hb] at HQ3
   exact TailC.mk (by first | kernel_rfl | rfl) rfl HQ3 HTT
end Go.Proofs.YtklppnknllbfnaaGreat
