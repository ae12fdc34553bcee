/- Walks: PoolDead. -/
import Derived.Test.YtklppnknllbfnaaGreatC8
namespace Go.Proofs.YtklppnknllbfnaaGreat
open Go.RowKit Go.Maps
set_option maxRecDepth 8000
section
variable {ι : Type} [Bar ι]
variable {w0 v v' : World} {M M' : Mem} {S S' : Pl} {D D' : Dsk} {E : Nat} {rows : List (List (Int × List Nat))} {L : Lg}
theorem Cln.arm (h : Cln D E) {n : Int} (hn : n ≤ 9223372036854775807) : Cln (D.arm n) E := ⟨h.ok.arm hn, h.up, h.s, h.z, h.lose, h.own, h.oth, h.sl⟩
theorem LogHas.arm (h : LogHas D L rows) (n : Int) : LogHas (D.arm n) L rows := ⟨h.up, h.room, h.lok, h.nx, h.ch, h.ne, h.z, h.slots, h.rest⟩
theorem Pl.Ok.arm (h : S.Ok D) (n : Int) : S.Ok (D.arm n) := ⟨h.z, h.s, h.s2, h.slots, h.first, h.now, h.was, h.last, h.pend, h.seen⟩
theorem InvR.arm (h : InvR S D rows) {n : Int} (hn : n ≤ 9223372036854775807) : InvR S (D.arm n) rows :=
  ⟨h.cl.arm hn, h.e1, h.ok.arm n, h.dead, h.log.imp fun _ x => ⟨x.1, x.2.arm n⟩, h.rl, h.rp, h.seen, h.mv, h.p0, h.cw, h.cn, h.pz, h.bp, h.bl⟩
theorem Arm_lp (h : Lp w0 v M S D) (n : Int) (hn : n ≤ 9223372036854775807) : Calls Tryz.prog 36 #[.pointer (some ⟨M.b, 0, none⟩), .int .i64 n] v fun e v' => e = .returned (.tuple #[]) ∧ Lp w0 v' M S (D.arm n) := by
  obtain ⟨rows, hi⟩ := h.inv
  refine (Arm_any n hn h.pool.disk).mono ?_
  rintro e v' ⟨rfl, hd, ht⟩
  obtain ⟨hp, hw⟩ := h.pool.disked (vl' := M.vl) hd rfl (ht.mono (fun k hk _ => mem_own.2 (.inl (by simpa using hk)))) (fun g e => .inl e)
  exact ⟨rfl, (h.went hp hw ⟨rows, hi.arm hn⟩).1⟩
theorem Crash_lq (h : Lq w0 v M S D) (hL : D.loose.length ≤ 1) : Calls Tryz.prog 37 #[.pointer (some ⟨M.b, 0, none⟩), .slice none 0 0] v fun e v' => e = .returned (.tuple #[]) ∧ ∃ M', Hand M M' ∧ Lq w0 v' M' S (D.crash []) := by
  refine (Crash_any M.b M.m M.vl D [] none 0 v h.pool.disk (by omega) (Nat.le_refl _) (IRd.nil _ _) (by simp)).mono ?_
  rintro e v' ⟨rfl, hd, ht⟩
  obtain ⟨hp, hw⟩ := h.pool.disked (vl' := nilv) hd rfl ht (fun g e => by simp [nilv, Value.ownBlock] at e)
  refine ⟨rfl, _, hw.2.2, hp, h.low.trans (hw.1.below h.low.size h.lo), fun j hj => ?_, h.dead⟩
  rcases hw.2.1 j hj with h1 | h1
  · exact h.lo j h1
  · exact Nat.le_trans h.low.size h1
/-- A pool on a disk about to go down, or a dead one. -/
def Inv2 (w0 v : World) (M : Mem) : Prop := ∃ S D, D.loose.length ≤ 1 ∧ (Lp w0 v M S D ∧ One D ∧ S.epoch ≤ 1 ∨ Lq w0 v M S D)
theorem did_two (h : Inv2 w0 v M) (k pg ln : Int) (B : Nat) (hB : B < 256) :
    Calls Tryz.prog 17 #[.pointer (some ⟨M.p, 0, none⟩), .agg #[.int .i64 k, .int .i64 pg, .int .i64 ln, .int .u8 (B : Nat)]] v fun e v' => ∃ er, e = .returned (.int .i64 er) ∧ ∃ M', Hand M M' ∧ Inv2 w0 v' M' := by
  obtain ⟨S, D, hl, ⟨h1, h2, h3⟩ | h1⟩ := h
  · refine (did_one h1 h2 h3 k pg ln B hB).mono ?_
    rintro e v' ⟨er, rfl, M', S', D', hh, hl', hr⟩
    exact ⟨er, rfl, M', hh, S', D', hl', hr⟩
  · refine (did_lq h1 k pg ln B hB).mono ?_
    rintro e v' ⟨er, rfl, _, hr⟩
    exact ⟨er, rfl, M, rfl, S, D, hl, .inr hr⟩
theorem Inv2.low (h : Inv2 w0 v M) : Below w0.heap.size w0 v := by
  obtain ⟨S, D, hl, ⟨h1, _⟩ | h1⟩ := h
  · exact h1.low
  · exact h1.low
end
set_option maxHeartbeats 8000000 in
theorem Dead_law (A : Option Addr) (l : List ActP) (n c : Nat) (k pg ln : Int) (B : Nat) (hB : B < 256) (w : World) (hn : l.length = n) (hac : Acts w w.heap.size A l) :
    Calls Tryz.prog 7 #[.slice A n c, .agg #[.int .i64 k, .int .i64 pg, .int .i64 ln, .int .u8 (B : Nat)]] w fun e w' => e = .returned (.bool true) ∧ Below w.heap.size w w' := by
  have HB1 := Lib.hid (fun w1 (e : w1 = w.alloc (.cells #[.int .i64 k, .int .i64 pg, .int .i64 ln, .int .u8 (B : Nat)] 39)) => (show Below w.heap.size w w1 ∧ Blk w1 w.heap.size #[.int .i64 k, .int .i64 pg, .int .i64 ln, .int .u8 (B : Nat)] 39 by rw [e]; exact ⟨(Below.refl _ w).alloc (Nat.le_refl _) _, Blk.new _ _ _⟩))
  obtain ⟨w1, hw1⟩ : ∃ w1, w1 = w.alloc (.cells #[.int .i64 k, .int .i64 pg, .int .i64 ln, .int .u8 (B : Nat)] 39) := ⟨_, rfl⟩
  obtain ⟨hb, hz⟩ := HB1.out w1 hw1
  have HB := Lib.hid hb
  obtain ⟨Z, hZ⟩ : ∃ Z, Z = w.heap.size := ⟨_, rfl⟩
  rw [← hZ] at hz
  have HZ := Lib.hid hz
  have hac1 : Acts w1 w1.heap.size A l := by
    intro hne
    obtain ⟨p, e, hp, hc⟩ := hac.below hb hne
    exact ⟨p, e, Nat.lt_of_lt_of_le hp hb.size, hc⟩
  have hwe : w.alloc (.cells #[.int .i64 k, .int .i64 pg, .int .i64 ln, .int .u8 (B : Nat)] 39) = w1 := hw1.symm
  have hze : w.heap.size = Z := hZ.symm
  have HN := Lib.hid hn
  have HAC := Lib.hid hac1
  have HBB := Lib.hid hB
  clear hb hz hac hac1 hn hB hw1 hZ HB1
  by_cases hbig : (40 : Int) < n
  · go_enter Tryz.func7, Tryz.ntmps7
    go_wp2
    go_ret
    exact ⟨rfl, HB.out⟩
  have hcl : Cln (Dsk.new 40 512) 0 := Cln.new (by decide) (by decide) (by decide) (by decide)
  have hcalm : Calm (Dsk.new 40 512) := ⟨rfl, rfl⟩
  have HCL := Lib.hid (And.intro hcl hcalm)
  have HF0 : Hid (Calm (formed (Dsk.new 40 512))) := Lib.hid (formed_is hcl hcalm (by decide)).1
  clear hcl hcalm
  have hn40 : (n : Int) ≤ 40 := by omega
  go_enter Tryz.func7, Tryz.ntmps7
  go_wp2_with fail
  refine (New_dk w1 40 512 (fun _ _ => trivial) (Below.refl _ _) (by decide) (by decide) (by decide) (by decide)).mono ?_
  rintro e w2 ⟨b, m, rfl, hk, -⟩
  have HK := Lib.hid hk
  clear hk
  go_wp2_with fail
  refine (Format_lp HK.out HCL.out.1 HCL.out.2 (by decide)).mono ?_
  rintro e w3 ⟨M, rfl, hk, _, hb, _⟩
  obtain ⟨P, hP⟩ : ∃ P, M.p = P := ⟨_, rfl⟩
  rw [hP]
  have HPP := Lib.hid hP
  clear hP
  have har := Arm_lp hk 1 (by decide)
  rw [hb] at har
  have HAR := Lib.hid har
  clear hk har
  go_wp2_with fail
  refine HAR.out.mono ?_
  rintro e w4 ⟨rfl, hk⟩
  have hinv : Inv2 w1 w4 M := by
    obtain ⟨rows, hi⟩ := hk.inv
    exact ⟨_, _, by rw [hi.cl.lose]; simp, .inl ⟨hk, ⟨HF0.out.1, rfl⟩, by show 0 + 1 ≤ 1; omega⟩⟩
  have H0 : Hid (Inv2 w1 w4 M ∧ M.p = P ∧ M.b = b) := Lib.hid ⟨hinv, HPP.out, hb⟩
  clear hinv hk hb HPP HK HCL HF0 HAR
  go_wp2_with fail
  go_loopw [8] (fun iv wr => ∃ (j : Nat) (M1 : Mem), j ≤ n ∧ iv = .int .i64 j ∧ Hid (Inv2 w1 wr M1 ∧ M1.p = P ∧ M1.b = b)) (fun iv _ => n - (intOf iv).toNat)
  case atStart => exact ⟨0, M, by omega, rfl, H0⟩
  case round =>
    clear H0
    obtain ⟨j, M1, hj, rfl, HS⟩ := hrel
    by_cases hlt : j < n
    · have hlt' : (j : Int) < n := by omega
      have hkl : j < l.length := by rw [HN.out]; exact hlt
      obtain ⟨p, rfl, hpb, hcs⟩ := (HAC.out.below HS.out.1.low) (by intro e; rw [e] at hkl; simp at hkl)
      obtain ⟨hB, c0, c1, c2, c3⟩ := hcs j hkl
      obtain ⟨x, hx⟩ : ∃ x, x = l[j] := ⟨_, rfl⟩
      rw [← hx] at hB c0 c1 c2 c3
      have ad : ∀ (q : Addr) (j : Nat), j ≠ 0 → q.add j = ⟨q.block, q.off + j, none⟩ := fun q j hj => by unfold Addr.add; simp [hj]
      rw [ad _ 1 (by decide)] at c1
      rw [ad _ 2 (by decide)] at c2
      rw [ad _ 3 (by decide)] at c3
      clear ad
      have hdd := did_two HS.out.1 x.k x.pg x.ln x.B hB
      rw [HS.out.2.1] at hdd
      have HDD := Lib.hid hdd
      clear hdd hx hB hcs hpb
      go_wp2_with fail
      refine HDD.out.mono ?_
      rintro e w5 ⟨er, rfl, M2, hh, hi2⟩
      have H2 : Hid (Inv2 w1 w5 M2 ∧ M2.p = P ∧ M2.b = b) := Lib.hid ⟨hi2, hh.p.trans HS.out.2.1, hh.b.trans HS.out.2.2⟩
      clear hh hi2 HS HDD c0 c1 c2 c3
      go_wp2
      go_roundw
      case rel => exact ⟨j + 1, M2, by omega, by go_num, H2⟩
      case measure => simp [intOf]; omega
    · have hkn : j = n := by omega
      subst hkn
      have hnt : ¬ (j : Int) < j := by omega
      obtain ⟨⟨S, D, hlo, hs⟩, hp1, hb1⟩ := HS.out
      rcases hs with ⟨hlp, _, _⟩ | hlq
      · have hdd := Dead_any hlp.pool
        obtain ⟨rows, hi⟩ := hlp.inv
        rw [hi.dead, hp1] at hdd
        have HDD := Lib.hid hdd
        have HLW := Lib.hid hlp.low
        clear hdd hi hlp hlo HS hp1 hb1
        go_wp2_with fail
        refine HDD.out.mono ?_
        rintro e w5 ⟨rfl, h5⟩
        rw [h5]
        clear h5
        go_wp2_with fail
        refine (awake_any _).mono ?_
        rintro e w9 ⟨rfl, hb9⟩
        have HB9 := Lib.hid (HB.out.trans ((grow HLW.out hb9).mono HB.out.size))
        clear hb9
        go_wp2
        go_ret
        exact ⟨rfl, HB9.out⟩
      · have hdd := Dead_any hlq.pool
        rw [hlq.dead, hp1] at hdd
        have HDD := Lib.hid hdd
        have hcr := Crash_lq hlq hlo
        rw [hb1] at hcr
        have HCR := Lib.hid hcr
        clear hdd hcr hlq hlo HS hb1
        go_wp2_with fail
        refine HDD.out.mono ?_
        rintro e w5 ⟨rfl, h5⟩
        rw [h5]
        clear h5
        go_wp2_with fail
        refine HCR.out.mono ?_
        rintro e w6 ⟨rfl, M2, hh, hq⟩
        have hz6 := HZ.out.grew hq.low
        have c0 := hz6.cell 0
        have c1 := hz6.cell 1
        have c2 := hz6.cell 2
        have c3 := hz6.cell 3
        simp only [List.getElem?_toArray, List.getElem?_cons_succ, List.getElem?_cons_zero] at c0 c1 c2 c3
        have hd2 := did_lq hq k pg ln B HBB.out
        rw [hh.p.trans hp1] at hd2
        have HD2 := Lib.hid hd2
        have HP2 := Lib.hid (hh.p.trans hp1)
        clear hd2 hz6 hq hh hp1 HCR HDD
        go_wp2_with fail
        refine HD2.out.mono ?_
        rintro e w7 ⟨er, rfl, rfl, hq⟩
        have hdd := Dead_any hq.pool
        rw [hq.dead, HP2.out] at hdd
        have HDD := Lib.hid hdd
        have HLW := Lib.hid hq.low
        clear hdd hq HD2 c0 c1 c2 c3
        go_wp2_with fail
        refine HDD.out.mono ?_
        rintro e w8 ⟨rfl, h8⟩
        rw [h8]
        clear h8
        go_wp2_with fail
        refine (awake_any _).mono ?_
        rintro e w9 ⟨rfl, hb9⟩
        have HB9 := Lib.hid (HB.out.trans ((grow HLW.out hb9).mono HB.out.size))
        clear hb9
        go_wp2
        go_ret
        exact ⟨rfl, HB9.out⟩
end Go.Proofs.YtklppnknllbfnaaGreat
