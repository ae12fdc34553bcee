/- Walks: LogWhole. Printed by mk_a13.py. -/
import Derived.Test.YtpomfokpmbblkaaA12
namespace Go.Proofs.Ytpomfokpmbblkaa
open Go.RowKit Go.Maps
set_option maxRecDepth 8000

theorem RGs.stepped {v v' : World} {b m base : Nat} {vl vl' x : Value} {D : Dsk} {gs : List (List (Int × List Nat))} {B : Nat} (h : RGs v base x gs B) (hd : DiskAt v b m vl D) (k : Step v v' (own b m vl) (own b m vl')) : RGs v' base x gs B := by
  have hk : ∀ j ∈ own b m vl, (∀ cs fz, v.heap[j]? ≠ some (.cells cs 47 fz)) ∧ ∀ cs fz, v.heap[j]? ≠ some (.cells cs 45 fz) := by
    intro j hj
    rcases mem_own.1 hj with rfl | rfl | hg
    · have := hd.blk; unfold Blk at this
      exact ⟨fun cs fz e => (by rw [this] at e; cases e), fun cs fz e => (by rw [this] at e; cases e)⟩
    · obtain ⟨es, clock, hx⟩ := hd.fast.kind
      exact ⟨fun cs fz e => (by rw [hx] at e; cases e), fun cs fz e => (by rw [hx] at e; cases e)⟩
    · obtain ⟨cs2, e2⟩ := hd.loose.kind hg
      exact ⟨fun cs fz e => (by rw [e2] at e; cases e), fun cs fz e => (by rw [e2] at e; cases e)⟩
  refine h.turn k.turn (fun j hj => .inl (hk j hj).1) (fun g hg hm => ?_)
  obtain ⟨cs, e⟩ := h.kind hg
  exact (hk g hm).2 _ _ e
/-- A row of rows, wherever its rows lie. -/
def RG (w : World) (base : Nat) (x : Value) (gs : List (List (Int × List Nat))) : Prop := ∃ B, RGs w base x gs B
theorem RG.stepped2 {v v' : World} {b m base : Nat} {vl vl' x : Value} {D : Dsk} {gs : List (List (Int × List Nat))} (h : RG v base x gs) (hd : DiskAt v b m vl D) (k : Step v v' (own b m vl) (own b m vl')) : RG v' base x gs := by
  obtain ⟨B, h⟩ := h; exact ⟨B, h.stepped hd k⟩
theorem RG.grew {v v' : World} {base : Nat} {x : Value} {gs : List (List (Int × List Nat))} (h : RG v base x gs) (k : Below v.heap.size v v') : RG v' base x gs := by
  obtain ⟨B, h⟩ := h; exact ⟨B, h.grew k⟩
theorem told_rg {gv wv : Value} {gs ws : List (List (Int × List Nat))} {B0 bw : Nat} {w : World} (h1 : Grps w gv gs B0) (h2 : RG w bw wv ws) (hh : BytesIn ws) (hng : gs.length ≤ 1000000000) (hnr : ∀ g ∈ gs, g.length ≤ 1000000000) :
    Calls Try.prog 23 #[gv, wv] w fun e w' => e = .returned (.bool (decide (gs = ws))) ∧ Below w.heap.size w w' := by
  obtain ⟨B, h2⟩ := h2
  exact told_any h1 h2 hh hng hnr
theorem Crash_fates2 {w0 v : World} {b m G : Nat} {vl : Value} {D : Dsk} {L : Lg} (h : LSt w0 v b m vl D G L) (fs : List Int) (A : Option Addr) (c n : Nat) (hn : fs.length = n) (hL : D.loose.length ≤ 1000000000) (hc : n ≤ c) (hf : IRd w0 A fs) (ha : fs ≠ [] → ∀ p, A = some p → p.block < w0.heap.size) :
    Calls Try.prog 26 #[.pointer (some ⟨b, 0, none⟩), .slice A n c] v fun e v' => e = .returned (.tuple #[]) ∧ ∃ vl', LSt w0 v' b m vl' (D.crash fs) G L ∧ Step v v' (own b m vl) (own b m vl') := by
  refine (Crash_dk h.dk fs A c n hn hL hc (hf.below h.dk.low ha) (fun hne p hp => ⟨Nat.lt_of_lt_of_le (ha hne p hp) h.dk.low.size, fun hm => ?_⟩)).mono ?_
  · have := h.dk.lo _ hm
    have := ha hne p hp
    omega
  · rintro e v' ⟨rfl, vl', hk, hs⟩
    exact ⟨rfl, vl', h.stepped hk hs, hs⟩
theorem Arm_st {w0 v : World} {b m G : Nat} {vl : Value} {D : Dsk} {L : Lg} (h : LSt w0 v b m vl D G L) (n : Int) (hn : n ≤ 9223372036854775807) :
    Calls Try.prog 25 #[.pointer (some ⟨b, 0, none⟩), .int .i64 n] v fun e v' => e = .returned (.tuple #[]) ∧ LSt w0 v' b m vl (D.arm n) G L ∧ Step v v' (own b m vl) (own b m vl) := by
  refine (Arm_dk h.dk n hn).mono ?_
  rintro e v' ⟨rfl, hk, hs⟩
  exact ⟨rfl, h.stepped hk hs, hs⟩
theorem some_eq (q : Addr) (n c : Nat) (w : World) : (binOp .eql 37 (.slice (some q) n c) (.slice none 0 0)).run Try.prog w = .ok (.bool false) w := by kernel_rfl
theorem nil_eq (w : World) : (binOp .eql 37 (.slice none 0 0) (.slice none 0 0)).run Try.prog w = .ok (.bool true) w := by kernel_rfl
theorem whole_elder : Alive (Dsk.new 12 64) ⟨2, 9, 3, 0, false⟩ :=
  ⟨[], LogHas.start rfl (by show 2 + 9 ≤ 12; omega) ⟨by show 2 ≤ 1048576; omega, by show 9 ≤ 1048576; omega, by show 1 ≤ 3 ∧ 3 ≤ 1099511627776; omega, Nat.zero_le _⟩ rfl (by show 64 ≤ 64; omega) (fun i _ => by
    show slotEp (List.replicate 64 0) i ≠ (3 : Nat)
    rw [slotEp_zeros (by decide)]; decide), fun _ _ _ => rfl, rfl, by show (0 : Int) ≤ 0; omega⟩
theorem whole_start {D : Dsk} {L : Lg} (h : Alive D L) (hf : Fix D L 64 12 2 9 3) (n : Int) : Whole (D.arm n) ⟨2, 9, 4, 0, false⟩ [] := by
  have := Whole.start h n (e := 4) (by omega) (by rw [hf.e]; omega)
  rw [hf.f, hf.c] at this
  exact this

set_option maxHeartbeats 32000000 in
theorem Whole_play (A A2 A3 : Option Addr) (ls l2 : List (List PutV)) (fs : List Int) (n n2 nf c c2 c3 : Nat) (dn : Int) (w : World) (hn : ls.length = n) (hn2 : l2.length = n2) (hnf : fs.length = nf) (hr : PutRows w w.heap.size A ls) (hr2 : PutRows w w.heap.size A2 l2)
    (hfc : nf ≤ c3) (hfi : IRd w A3 fs) (hfa : fs ≠ [] → ∀ p, A3 = some p → p.block < w.heap.size) (hdn : dn ≤ 9223372036854775807) :
    Calls Try.prog 4 #[.agg #[.slice A n c, .slice A2 n2 c2, .int .i64 dn, .slice A3 nf c3]] w fun e w' => e = .returned (.bool true) ∧ Below w.heap.size w w' := by
  obtain ⟨w1, hw1⟩ : ∃ w1, w1 = w.alloc (.cells #[.slice A n c, .slice A2 n2 c2, .int .i64 dn, .slice A3 nf c3] 57) := ⟨_, rfl⟩
  have hb1 : Below w.heap.size w w1 := by subst hw1; exact grow_alloc (Below.refl _ _) _
  have hx1 : Blk w1 w.heap.size #[.slice A n c, .slice A2 n2 c2, .int .i64 dn, .slice A3 nf c3] 57 := by subst hw1; exact Blk.new _ _ _
  have HR := Lib.hid hr
  have HR2 := Lib.hid hr2
  have HN := Lib.hid (And.intro hn hn2)
  have HF := Lib.hid (And.intro hnf (And.intro hfc (And.intro hfi hfa)))
  have HLT := Lib.hid (light_any (.int .u8 0) (.int .i64 0) (.int .i64 0) (.int .i64 0) A ls n c w.heap.size w1 hn hb1.size (hr.below hb1))
  have HLT2 := Lib.hid (fun w1 (hb : Below w.heap.size w w1) => light_any (.int .u8 0) (.int .i64 0) (.int .i64 0) (.int .i64 0) A2 l2 n2 c2 w.heap.size w1 hn2 hb.size (hr2.below hb))
  have HX0 := Lib.hid (And.intro hb1 hx1)
  have HW1 := Lib.hid hw1
  have c0 := hx1.cell 0
  clear hn hn2 hr hr2 hnf hfc hfi hfa hb1 hx1 hw1
  cases hlb : lightB ls with
  | false =>
    rw [hlb] at HLT
    go_enter Try.func4, Try.ntmps4
    go_wp2_with fail
    rw [← HW1.out]
    clear HW1
    refine (HLT.out).mono ?_
    rintro e w2 ⟨rfl, hb⟩
    have HB := Lib.hid (grow HX0.out.1 hb)
    have HX2 := Lib.hid (HX0.out.2.grew hb)
    have c1 := HX2.out.cell 1
    have kc3 := HX2.out.cell 3
    clear hb

    go_wp2
    go_ret
    exact ⟨rfl, HB.out⟩
  | true =>
    rw [hlb] at HLT
    have hl := of_decide_eq_true hlb
    have HL := Lib.hid hl
    clear hlb hl
    cases hlb2 : lightB l2 with
    | false =>
      rw [hlb2] at HLT2
      go_enter Try.func4, Try.ntmps4
      go_wp2_with fail
      rw [← HW1.out]
      clear HW1
      refine (HLT.out).mono ?_
      rintro e w2 ⟨rfl, hb⟩
      have HB := Lib.hid (grow HX0.out.1 hb)
      have HX2 := Lib.hid (HX0.out.2.grew hb)
      have c1 := HX2.out.cell 1
      have kc3 := HX2.out.cell 3
      clear hb
      go_wp2_with fail
      refine (HLT2.out w2 HB.out).mono ?_
      rintro e w3 ⟨rfl, hb⟩
      have HB := Lib.hid (grow HB.out hb)
      have HX3 := Lib.hid (HX2.out.grew hb)
      clear hb c1 kc3
      have kc3 := HX3.out.cell 3

      go_wp2
      go_ret
      exact ⟨rfl, HB.out⟩
    | true =>
      rw [hlb2] at HLT2
      have hl2 := of_decide_eq_true hlb2
      have HL2 := Lib.hid hl2
      clear hlb2 hl2
      by_cases h60 : (60 : Int) < nf
      · skip
        go_enter Try.func4, Try.ntmps4
        go_wp2_with fail
        rw [← HW1.out]
        clear HW1
        refine (HLT.out).mono ?_
        rintro e w2 ⟨rfl, hb⟩
        have HB := Lib.hid (grow HX0.out.1 hb)
        have HX2 := Lib.hid (HX0.out.2.grew hb)
        have c1 := HX2.out.cell 1
        have kc3 := HX2.out.cell 3
        clear hb
        go_wp2_with fail
        refine (HLT2.out w2 HB.out).mono ?_
        rintro e w3 ⟨rfl, hb⟩
        have HB := Lib.hid (grow HB.out hb)
        have HX3 := Lib.hid (HX2.out.grew hb)
        clear hb c1 kc3
        have kc3 := HX3.out.cell 3

        go_wp2
        go_ret
        exact ⟨rfl, HB.out⟩
      · skip
        go_enter Try.func4, Try.ntmps4
        go_wp2_with fail
        rw [← HW1.out]
        clear HW1
        refine (HLT.out).mono ?_
        rintro e w2 ⟨rfl, hb⟩
        have HB := Lib.hid (grow HX0.out.1 hb)
        have HX2 := Lib.hid (HX0.out.2.grew hb)
        have c1 := HX2.out.cell 1
        have kc3 := HX2.out.cell 3
        clear hb
        go_wp2_with fail
        refine (HLT2.out w2 HB.out).mono ?_
        rintro e w3 ⟨rfl, hb⟩
        have HB := Lib.hid (grow HB.out hb)
        have HX3 := Lib.hid (HX2.out.grew hb)
        clear hb c1 kc3
        have kc3 := HX3.out.cell 3

        clear HLT HLT2 c0
        go_wp2_with fail
        refine (New_dk w 12 64 (fun _ _ => trivial) HB.out (by decide) (by decide) (by decide) (by decide)).mono ?_
        rintro e w4 ⟨b, m, rfl, hk, hb⟩
        have HK := Lib.hid hk
        have HX4 := Lib.hid (HX3.out.grew hb)
        clear hk hb HB HX0 HX2 HX3 kc3
        go_wp2_with fail
        refine (Start_st HK.out 2 9 3 rfl rfl).mono ?_
        rintro e w5 ⟨G, rfl, hk, -, hb⟩
        have HK := Lib.hid hk
        have HX5 := Lib.hid (HX4.out.grew hb)
        clear hk hb HX4
        have hn8 : (n : Int) ≤ 8 := by have := HL.out.1; have := HN.out.1; omega
        have hn28 : (n2 : Int) ≤ 8 := by have := HL2.out.1; have := HN.out.2; omega
        have HE0 := Lib.hid (And.intro whole_elder (show (Dsk.new 12 64).armed = 0 from rfl))
        have HF0 : Hid (Fix (Dsk.new 12 64) ⟨2, 9, 3, 0, false⟩ 64 12 2 9 3) := Lib.hid ⟨rfl, rfl, rfl, rfl, rfl⟩
        go_wp2_with fail
        go_loopw [6] (fun iv wr => ∃ (i : Nat) (D : Dsk) (L : Lg) (vl : Value), i ≤ n ∧ iv = .int .i64 i ∧ Hid (LSt w wr b m vl D G L) ∧ Hid (Alive D L ∧ D.armed = 0) ∧ Hid (Fix D L 64 12 2 9 3) ∧ Hid (Blk wr w.heap.size #[.slice A n c, .slice A2 n2 c2, .int .i64 dn, .slice A3 nf c3] 57)) (fun iv _ => n - (intOf iv).toNat)
        case atStart => exact ⟨0, _, _, _, by omega, rfl, HK, HE0, HF0, HX5⟩
        case round =>
          clear HK HE0 HF0 HX5
          obtain ⟨i, D, L, vl, hi, rfl, HS, HE, HFX, HX⟩ := hrel
          have c0 := HX.out.cell 0
          by_cases hlt : i < n
          · have hig : i < ls.length := by rw [HN.out.1]; exact hlt
            obtain ⟨p, B, cb, e, hpb, c1, hp⟩ := (HR.out.below HS.out.dk.low).get hig
            subst e
            obtain ⟨ni, hni⟩ : ∃ ni, ni = ls[i].length := ⟨_, rfl⟩
            rw [← hni] at c1
            have hni8 : ni ≤ 8 := by rw [hni]; exact HL.out.2 _ (List.getElem_mem hig)
            have HGR := Lib.hid (group_any B ls[i] ni cb w.heap.size 19 wr hni.symm (by omega) HS.out.dk.low.size (by decide) hp)
            have HBY := Lib.hid (chOfPut_bytes 19 hp)
            have HG8 : Hid ((ls[i].map (chOfPut 19)).length ≤ 8) := Lib.hid (by rw [List.length_map, ← hni]; exact hni8)
            obtain ⟨g, hg⟩ : ∃ g, g = ls[i].map (chOfPut 19) := ⟨_, rfl⟩
            rw [← hg] at HGR HBY HG8
            have HE6 : Hid (Alive (app D L g).2.1 (app D L g).2.2 ∧ (app D L g).2.1.armed = 0) := Lib.hid (by
              rcases HE.out.1.step (g := g) (by rw [HFX.out.z]; omega) HBY.out with h | h
              · exact ⟨h.1, h.2 HE.out.2⟩
              · have := HE.out.2; omega)
            have HF6 := Lib.hid (HFX.out.step g)
            have HLO := Lib.hid (show D.loose.length ≤ 900000000 by obtain ⟨_, _, _, h, _⟩ := HE.out.1; rw [h]; decide)
            clear hni hp hpb hg HBY HE HFX
            go_wp2_with fail
            refine HGR.out.mono ?_
            rintro e w6 ⟨gv, rfl, hc, -, hb5⟩
            have HS5 := Lib.hid (And.intro (HS.out.grew hb5) hc)
            have HX6 := Lib.hid (HX.out.grew hb5)
            clear hc hb5 HS HGR c0 c1 HX
            go_wp2_with fail
            refine (append_puts HS5.out.1 HS5.out.2 HG8.out HLO.out).mono ?_
            rintro e w7 ⟨rfl, vl6, hk, hwent⟩
            have HX7 := Lib.hid (HX6.out.went (.inl rfl) HS5.out.1 hwent)
            have HS6 := Lib.hid hk
            clear hk HS5 HLO hwent HX6
            go_wp2
            go_round
            case rel => exact ⟨i + 1, _, _, vl6, by omega, by go_num, HS6, HE6, HF6, HX7⟩
            case measure => simp only [intOf]; omega
          · obtain rfl : n = i := by omega
            have hk3 : ¬ (n : Int) < n := by omega
            have HWH := Lib.hid (whole_start HE.out.1 HFX.out dn)
            have HFS : Hid (D.size = 64 ∧ D.sectors = 12) := Lib.hid ⟨HFX.out.z, HFX.out.s⟩
            clear HE HFX
            go_wp2_with fail
            refine (Start_st HS.out.dk 2 9 4 (by unfold okAt; rw [HFS.out.2]; rfl) rfl).mono ?_
            rintro e w7 ⟨G2, rfl, hk, -, hb⟩
            have HS6 := Lib.hid hk
            have HX6 := Lib.hid (HX.out.grew hb)
            have kc2 := HX6.out.cell 2
            clear hk hb HS HX c0
            go_wp2_with fail
            refine (Arm_st HS6.out dn hdn).mono ?_
            rintro e w8 ⟨rfl, hk, hst⟩
            have HX7 := Lib.hid (HX6.out.stepped (.inl rfl) HS6.out.dk.disk hst)
            have HS7 := Lib.hid hk
            have HW7 : Hid (WtSt w w8 [] nilv nilv []) := Lib.hid (WtSt.start HS7.out.dk.low)
            have HF7 : Hid (Fix (D.arm dn) ⟨2, 9, 4, 0, false⟩ 64 12 2 9 4) := Lib.hid ⟨HFS.out.1, HFS.out.2, rfl, rfl, rfl⟩
            clear hk hst HS6 HFS HX6 kc2
            go_wp2_with fail
            go_loopw [9, 10, 11] (fun ov tv iv wr => ∃ (i : Nat) (D : Dsk) (L : Lg) (vl : Value) (rows : List (List (Int × List Nat))), i ≤ n2 ∧ iv = .int .i64 i ∧ tv = .slice none 0 0 ∧ Hid (LSt w wr b m vl D G2 L) ∧ Hid (Whole D L rows) ∧ Hid (Fix D L 64 12 2 9 4) ∧ Hid (WtSt w wr rows ov nilv []) ∧ Hid (Blk wr w.heap.size #[.slice A n c, .slice A2 n2 c2, .int .i64 dn, .slice A3 nf c3] 57) ∧ Hid (rows.length ≤ i ∧ BytesIn rows ∧ ∀ g ∈ rows, g.length ≤ 8)) (fun _ _ iv _ => n2 - (intOf iv).toNat)
            case atStart => exact ⟨0, _, _, _, [], by omega, rfl, rfl, HS7, HWH, HF7, HW7, HX7, Lib.hid ⟨by simp, by intro g hg; simp at hg, by intro g hg; simp at hg⟩⟩
            case round =>
              clear HS7 HWH HF7 HW7 HX7
              obtain ⟨i, D, L, vl, rows, hi, rfl, rfl, HS, HWH, HFX, HWT, HX, HRW⟩ := hrel
              obtain ⟨ov, hov⟩ : ∃ ov, ov = u9 := ⟨_, rfl⟩
              rw [← hov] at HWT ⊢
              clear hov
              have c1 := HX.out.cell 1
              by_cases hlt : i < n2
              · have hig : i < l2.length := by rw [HN.out.2]; exact hlt
                obtain ⟨p, B, cb, e, hpb, d1, hp⟩ := (HR2.out.below HS.out.dk.low).get hig
                subst e
                obtain ⟨ni, hni⟩ : ∃ ni, ni = l2[i].length := ⟨_, rfl⟩
                rw [← hni] at d1
                have hni8 : ni ≤ 8 := by rw [hni]; exact HL2.out.2 _ (List.getElem_mem hig)
                have HGR := Lib.hid (group_any B l2[i] ni cb w.heap.size 19 wr hni.symm (by omega) HS.out.dk.low.size (by decide) hp)
                have HBY := Lib.hid (chOfPut_bytes 19 hp)
                have HG8 : Hid ((l2[i].map (chOfPut 19)).length ≤ 8) := Lib.hid (by rw [List.length_map, ← hni]; exact hni8)
                obtain ⟨g, hg⟩ : ∃ g, g = l2[i].map (chOfPut 19) := ⟨_, rfl⟩
                rw [← hg] at HGR HBY HG8
                have HE6 : Hid _ := Lib.hid (HWH.out.step (g := g) HS.out.dk.disk.ok HBY.out)
                have HF6 := Lib.hid (HFX.out.step g)
                have HLO := Lib.hid HWH.out.loose
                have HFL : Hid (L.first = 2 ∧ L.count = 9 ∧ L.epoch = 4) := Lib.hid ⟨HFX.out.f, HFX.out.c, HFX.out.e⟩
                clear hni hp hpb hg HWH HFX
                go_wp2_with fail
                refine HGR.out.mono ?_
                rintro e w9 ⟨gv, rfl, hc, -, hb5⟩
                have HS5 := Lib.hid (And.intro (HS.out.grew hb5) (And.intro hc (And.intro (HWT.out.grew hb5) (HX.out.grew hb5))))
                clear hc hb5 HS HGR HWT HX c1 d1
                go_wp2_with fail
                refine (append_puts HS5.out.1 HS5.out.2.1 HG8.out (by rw [HLO.out]; decide)).mono ?_
                rintro e w10 ⟨rfl, vl6, hk, hwent⟩
                have HAG : Hid (AgX w w10 b m vl6 (app D L g).2.1 G2 (app D L g).2.2 gv g rows ov nilv [] w.heap.size #[.slice A n c, .slice (some p) n2 c2, .int .i64 dn, .slice A3 nf c3] 57) := Lib.hid ⟨⟨hk, HS5.out.2.1.went hwent HS5.out.1.log HS5.out.1.dk.disk, HS5.out.2.2.1.went HS5.out.1 hwent⟩, HS5.out.2.2.2.went (.inl rfl) HS5.out.1 hwent, .inl rfl⟩
                clear hk hwent HS5 HLO
                obtain ⟨Q, hQ⟩ : ∃ Q, Q = (app D L g).1 := ⟨_, rfl⟩
                obtain ⟨D6, hD6⟩ : ∃ D6, D6 = (app D L g).2.1 := ⟨_, rfl⟩
                obtain ⟨L6, hL6⟩ : ∃ L6, L6 = (app D L g).2.2 := ⟨_, rfl⟩
                rw [← hQ, ← hD6, ← hL6] at HE6
                rw [← hD6, ← hL6] at HAG HF6
                rw [← hQ]
                clear hQ hD6 hL6
                obtain ⟨Ag, cr, egv⟩ := HAG.out.ag.src.slice
                subst egv
                obtain ⟨nr, hnr⟩ : ∃ nr, nr = g.length := ⟨_, rfl⟩
                rw [← hnr] at HAG ⊢
                have hnr8 : (nr : Int) ≤ 8 := by have := HG8.out; omega
                have HNG := Lib.hid hnr
                have HRW2 : Hid ((rows ++ [g]).length ≤ i + 1 ∧ BytesIn (rows ++ [g]) ∧ ∀ x ∈ rows ++ [g], x.length ≤ 8) := Lib.hid ⟨by have := HRW.out.1; simp; omega, fun x hx => by
                  rcases List.mem_append.1 hx with hx | hx
                  · exact HRW.out.2.1 x hx
                  · simp at hx; subst hx; exact HBY.out, fun x hx => by
                  rcases List.mem_append.1 hx with hx | hx
                  · exact HRW.out.2.2 x hx
                  · simp at hx; subst hx; exact HG8.out⟩
                clear hnr
                go_wp2_with fail
                go_loopw [14, 15] (fun lv kv wk => ∃ k : Nat, k ≤ nr ∧ kv = .int .i64 k ∧ Hid (AgX w wk b m vl6 D6 G2 L6 (.slice Ag nr cr) g rows ov lv (g.take k) w.heap.size #[.slice A n c, .slice (some p) n2 c2, .int .i64 dn, .slice A3 nf c3] 57)) (fun _ kv _ => nr - (intOf kv).toNat)
                case atStart => exact ⟨0, by omega, rfl, HAG⟩
                case round =>
                  clear HAG
                  obtain ⟨k, hk, rfl, HS⟩ := hrel
                  obtain ⟨lv, hlv⟩ : ∃ lv, lv = u14 := ⟨_, rfl⟩
                  rw [← hlv] at HS ⊢
                  clear hlv
                  by_cases hk2 : k < nr
                  · have hki : k < g.length := by rw [← HNG.out]; exact hk2
                    obtain ⟨gr, _, pp, z, d, e, e4, f1, f2, hy, e5⟩ := HS.out.ag.src.at_ k hki
                    injection e with e e2 e3
                    subst e
                    clear e2 e3 e4 e5
                    obtain ⟨px, hpx⟩ : ∃ px, px = g[k].1 := ⟨_, rfl⟩
                    obtain ⟨ll, hll⟩ : ∃ ll, ll = g[k].2 := ⟨_, rfl⟩
                    rw [← hpx] at f1
                    rw [← hll] at hy
                    have HTK : Hid (g.take k ++ [(px, ll)] = g.take (k + 1)) := Lib.hid (by rw [List.take_add_one, List.getElem?_eq_getElem hki, hpx, hll]; rfl)
                    have HC := Lib.hid (And.intro f1 (And.intro f2 hy))
                    have HNB := Lib.hid (show k ≤ 1000000000 by omega)
                    clear f1 f2 hy hpx hll
                    go_wp2_with fail
                    refine wp_region_H (fun v => (v.cell? ⟨gr, k * 2, none⟩ = some (.int .i64 px) ∧ v.cell? ⟨gr, k * 2 + 1, none⟩ = some (.slice (some pp) z d)) ∧ Byt v (.slice (some pp) z d) ll) (by kernel_rfl) (fun u0 hu0 => ?_)
                    have hS0 : (fun v => (v.cell? ⟨gr, k * 2, none⟩ = some (.int .i64 px) ∧ v.cell? ⟨gr, k * 2 + 1, none⟩ = some (.slice (some pp) z d)) ∧ Byt v (.slice (some pp) z d) ll) u0 := by subst hu0; exact ⟨⟨HC.out.1, HC.out.2.1⟩, HC.out.2.2.drew⟩
                    have g0 : AgX w u0 b m vl6 D6 G2 L6 (.slice (some ⟨gr, 0, none⟩) nr cr) g rows ov lv (g.take k) w.heap.size #[.slice A n c, .slice (some p) n2 c2, .int .i64 dn, .slice A3 nf c3] 57 := by subst hu0; exact HS.out.drew
                    clear hu0
                    refine wpH_take (i := 0) (v := ?_) rfl rfl (by kernel_rfl) (by kernel_rfl) (by kernel_rfl) (fun _ _ _ h => h) (Or.inl ⟨by rfl, ?_⟩) hS0 ?_
                    rotate_left
                    · (intro w_ hw_; go_simp; try with_reducible rfl)
                    simp only [List.setIfInBounds_toArray, List.set_cons_zero, List.set_cons_succ]
                    refine wpH_take (i := 1) (v := ?_) rfl rfl (by kernel_rfl) (by kernel_rfl) (by kernel_rfl) (fun _ _ _ h => h) (Or.inl ⟨by rfl, ?_⟩) hS0 ?_
                    rotate_left
                    · (intro w_ hw_; go_simp; try with_reducible rfl)
                    simp only [List.setIfInBounds_toArray, List.set_cons_zero, List.set_cons_succ]
                    refine wpH_take (i := 2) (v := ?_) rfl rfl (by kernel_rfl) (by kernel_rfl) (by kernel_rfl) (fun _ _ _ h => h) (Or.inl ⟨by rfl, ?_⟩) hS0 ?_
                    rotate_left
                    · (intro w_ hw_; go_simp; try with_reducible rfl)
                    simp only [List.setIfInBounds_toArray, List.set_cons_zero, List.set_cons_succ]
                    refine wpH_take (i := 3) (v := ?_) rfl rfl (by kernel_rfl) (by kernel_rfl) (by kernel_rfl) (fun _ _ _ h => h) (Or.inl ⟨by rfl, ?_⟩) hS0 ?_
                    rotate_left
                    · (intro w_ hw_; go_simp; try with_reducible rfl)
                    simp only [List.setIfInBounds_toArray, List.set_cons_zero, List.set_cons_succ]
                    refine wpH_take (i := 4) (v := ?_) rfl rfl (by kernel_rfl) (by kernel_rfl) (by kernel_rfl) (fun _ _ _ h => h) (Or.inl ⟨by rfl, ?_⟩) hS0 ?_
                    rotate_left
                    · (intro w_ hw_; go_simp; try with_reducible rfl)
                    simp only [List.setIfInBounds_toArray, List.set_cons_zero, List.set_cons_succ]
                    refine wpH_take (i := 5) (v := ?_) rfl rfl (by kernel_rfl) (by kernel_rfl) (by kernel_rfl) (fun _ _ _ h => h) (Or.inl ⟨by rfl, ?_⟩) hS0 ?_
                    rotate_left
                    · (intro w_ hw_; (have q2 := hw_.1.1; have q3 := hw_.1.2; clear hw_); go_simp; try with_reducible rfl)
                    simp only [List.setIfInBounds_toArray, List.set_cons_zero, List.set_cons_succ]
                    refine wpH_take (i := 6) (v := ?_) rfl rfl (by kernel_rfl) (by kernel_rfl) (by kernel_rfl) (fun _ _ _ h => h) (Or.inl ⟨by rfl, ?_⟩) hS0 ?_
                    rotate_left
                    · (intro w_ hw_; go_simp; try with_reducible rfl)
                    simp only [List.setIfInBounds_toArray, List.set_cons_zero, List.set_cons_succ]
                    refine wpH_take (i := 7) (v := ?_) rfl rfl (by kernel_rfl) (by kernel_rfl) (by kernel_rfl) (fun _ _ _ h => h) (Or.inl ⟨by rfl, ?_⟩) hS0 ?_
                    rotate_left
                    · (intro w_ hw_; go_simp; try with_reducible rfl)
                    simp only [List.setIfInBounds_toArray, List.set_cons_zero, List.set_cons_succ]
                    refine wpH_take (i := 8) (v := ?_) rfl rfl (by kernel_rfl) (by kernel_rfl) (by kernel_rfl) (fun _ _ _ h => h) (Or.inl ⟨by rfl, ?_⟩) hS0 ?_
                    rotate_left
                    · (intro w_ hw_; go_simp; try with_reducible rfl)
                    simp only [List.setIfInBounds_toArray, List.set_cons_zero, List.set_cons_succ]
                    refine wpH_take (i := 9) (v := ?_) rfl rfl (by kernel_rfl) (by kernel_rfl) (by kernel_rfl) (fun _ _ _ h => h) (Or.inl ⟨by rfl, ?_⟩) hS0 ?_
                    rotate_left
                    · (intro w_ hw_; go_simp; try with_reducible rfl)
                    simp only [List.setIfInBounds_toArray, List.set_cons_zero, List.set_cons_succ]
                    refine wpH_take (i := 10) (v := ?_) rfl rfl (by kernel_rfl) (by kernel_rfl) (by kernel_rfl) (fun _ _ _ h => h) (Or.inl ⟨by rfl, ?_⟩) hS0 ?_
                    rotate_left
                    · (intro w_ hw_; (have q2 := hw_.1.1; have q3 := hw_.1.2; clear hw_); go_simp; try with_reducible rfl)
                    simp only [List.setIfInBounds_toArray, List.set_cons_zero, List.set_cons_succ]
                    refine wpH_take (i := 11) (v := (.string (str ll))) rfl rfl (by kernel_rfl) (by kernel_rfl) (by kernel_rfl) (fun _ _ _ h => h) (Or.inl ⟨by rfl, ?_⟩) hS0 ?_
                    · (intro w_ hw_; exact exec_convert 42 9 (.tmp 104) rfl rfl (hw_.2.strv))
                    simp only [List.setIfInBounds_toArray, List.set_cons_zero, List.set_cons_succ]
                    refine wpH_take (i := 12) (v := ?_) rfl rfl (by kernel_rfl) (by kernel_rfl) (by kernel_rfl) (fun _ _ _ h => h) (Or.inl ⟨by rfl, ?_⟩) hS0 ?_
                    rotate_left
                    · (intro w_ hw_; go_simp; try with_reducible rfl)
                    simp only [List.setIfInBounds_toArray, List.set_cons_zero, List.set_cons_succ]
                    obtain ⟨u2, hu2⟩ : ∃ u2, u2 = u0.alloc (.cells #[.int .i64 px, .string (str ll)] 47) := ⟨_, rfl⟩
                    have hb2 : Below u0.heap.size u0 u2 := by subst hu2; exact grow_alloc (Below.refl _ _) _
                    have hB : Blk u2 u0.heap.size #[.int .i64 px, .string (str ll)] 47 := by subst hu2; exact Blk.new _ _ _
                    have g2 := g0.grew hb2
                    have hS1 : (fun v => (v.cell? ⟨gr, k * 2, none⟩ = some (.int .i64 px) ∧ v.cell? ⟨gr, k * 2 + 1, none⟩ = some (.slice (some pp) z d)) ∧ Byt v (.slice (some pp) z d) ll) u2 := ⟨⟨cell_grew hS0.1.1 hb2, cell_grew hS0.1.2 hb2⟩, hS0.2.grew hb2⟩
                    clear hS0
                    refine wpH_run (i := 13) (v := (.slice (some ⟨u0.heap.size, 0, none⟩) 1 1)) (w' := u2) (by kernel_rfl) rfl rfl (by rfl) (by rw [hu2]; go_simp) hS1 ?_
                    simp only [List.setIfInBounds_toArray, List.set_cons_zero, List.set_cons_succ]
                    obtain ⟨v', u3, hrun, g3, hce, hby⟩ := g2.push hB (by have := HNB.out; rw [List.length_take]; omega)
                    have hS2 : (fun v => (v.cell? ⟨gr, k * 2, none⟩ = some (.int .i64 px) ∧ v.cell? ⟨gr, k * 2 + 1, none⟩ = some (.slice (some pp) z d)) ∧ Byt v (.slice (some pp) z d) ll) u3 := ⟨⟨(hce gr _ rfl).trans hS1.1.1, (hce gr _ rfl).trans hS1.1.2⟩, hby _ _ hS1.2⟩
                    clear hS1
                    refine wpH_run (i := 14) (v := v') (w' := u3) (by kernel_rfl) rfl rfl (by rfl) (by exact exec_append (.tmp 94) (.tmp 107) 45 45 rfl rfl rfl hrun) hS2 ?_
                    simp only [List.setIfInBounds_toArray, List.set_cons_zero, List.set_cons_succ]
                    clear hrun hB g2 g0 hb2 hu2 hce hby
                    refine wpH_take (i := 15) (v := ?_) rfl rfl (by kernel_rfl) (by kernel_rfl) (by kernel_rfl) (fun _ _ _ h => h) (Or.inl ⟨by rfl, ?_⟩) hS2 ?_
                    rotate_left
                    · (intro w_ hw_; go_simp; try with_reducible rfl)
                    simp only [List.setIfInBounds_toArray, List.set_cons_zero, List.set_cons_succ]
                    rw [HTK.out] at g3
                    have HG3 := Lib.hid g3
                    clear g3
                    clear hS2
                    refine wpAnyH_done (by kernel_rfl) ?_ _

                    go_wp2
                    go_round
                    case rel => exact ⟨k + 1, by omega, by go_num, HG3⟩
                    case measure => simp only [intOf]; omega
                  · obtain rfl : k = nr := by omega
                    have hk3 : ¬ (k : Int) < k := by omega
                    have hs := HS.out
                    rw [List.take_of_length_le (by rw [← HNG.out]; exact Nat.le_refl _)] at hs
                    clear HS
                    have hrl : rows.length ≤ 8 := by have := HRW.out.1; omega
                    by_cases hQ0 : Q = 0
                    · subst hQ0
                      have hg8 := grow_alloc (Below.refl _ wr) (.cells #[lv] 45)
                      obtain ⟨v', w11, hrun, h9⟩ := (hs.grew hg8).close (Blk.new wr _ _) (by omega)
                      obtain ⟨Al, cl, rfl⟩ := hs.ag.wt.row.form
                      have HRUN := Lib.hid hrun
                      have HG9 := Lib.hid h9.ag.st
                      have HG10 := Lib.hid h9.ag.wt
                      have HX9 := Lib.hid h9.box
                      have HWH6 : Hid (Whole D6 L6 (rows ++ [g])) := Lib.hid (by
                        rcases HE6.out with h | h | h
                        · exact h.2
                        · exact absurd rfl h.1
                        · exact absurd h.1 (by decide))
                      clear hs hg8 hrun h9 HE6
                      go_wp2_with (at_builtin; refine Lib.wpList_append_run _ rfl (.tmp 111) (.tmp 113) 37 37 rfl _ _ rfl rfl v' w11 HRUN.out ?_)
                      exact ⟨⟨i + 1, D6, L6, vl6, rows ++ [g], by omega, by go_num, rfl, HG9, HWH6, HF6, HG10, HX9, HRW2⟩, by simp only [intOf]; omega⟩
                    · by_cases hQ4 : Q = 4
                      · subst hQ4
                        obtain ⟨v1, w11, v2, w12, hr1, hr2, k1, k2, k3, k4⟩ := hs.twice (by omega)
                        obtain ⟨B4, k4'⟩ := id k4
                        obtain ⟨gq, cq, _, e9, _, _⟩ := k4'.at_ 0 (by simp)
                        subst e9
                        obtain ⟨Al, cl, rfl⟩ := hs.ag.wt.row.form
                        obtain ⟨q2, hq2⟩ : ∃ q2, q2 = (rows ++ [g]).length := ⟨_, rfl⟩
                        rw [← hq2] at hr2 k4
                        have HQ2 := Lib.hid hq2
                        have HRUN1 := Lib.hid hr1
                        have HRUN2 := Lib.hid hr2
                        have HS8 := Lib.hid (And.intro k1 k2)
                        have HT8 : Hid (RG w12 w.heap.size ov rows) := Lib.hid k3
                        have HT8b : Hid (RG w12 w.heap.size _ (rows ++ [g])) := Lib.hid k4
                        have HEND : Hid (∀ fs, grp (D6.crash fs) 2 4 9 0 [] [] = rows ∨ grp (D6.crash fs) 2 4 9 0 [] [] = rows ++ [g]) := Lib.hid (by
                          rcases HE6.out with h | h | h
                          · exact absurd h.1 (by decide)
                          · exact absurd rfl h.2.1
                          · intro fs
                            have := h.2.2 fs
                            rw [HFL.out.1, HFL.out.2.1, HFL.out.2.2] at this
                            exact this)
                        have HLO8 : Hid (D6.loose.length ≤ 1000000000) := Lib.hid (by
                          rcases HE6.out with h | h | h
                          · exact absurd h.1 (by decide)
                          · exact absurd rfl h.2.1
                          · have := h.2.1; omega)
                        have kc3 := k2.cell 3
                        have hcmp := fun w => some_eq ⟨gq, 0, none⟩ q2 cq w
                        clear hs k1 k2 k3 k4 k4' hr1 hr2 HE6 hq2
                        go_wp2_with (at_builtin; first
                          | refine Lib.wpList_append_run _ rfl (.tmp 117) (.tmp 118) 37 37 rfl _ _ rfl rfl v1 w11 HRUN1.out ?_
                          | refine Lib.wpList_append_run _ rfl (.tmp 119) (.tmp 121) 37 37 rfl _ _ rfl rfl _ w12 HRUN2.out ?_)
                        refine (Crash_fates2 HS8.out.1 fs A3 c3 nf HF.out.1 HLO8.out HF.out.2.1 HF.out.2.2.1 HF.out.2.2.2).mono ?_
                        rintro e w12 ⟨rfl, vl9, hk, hst⟩
                        have HT9 := Lib.hid (HT8.out.stepped2 HS8.out.1.dk.disk hst)
                        have HT9b := Lib.hid (HT8b.out.stepped2 HS8.out.1.dk.disk hst)
                        have HS9 := Lib.hid hk
                        clear hk hst HS8 HLO8 HT8
                        rcases HEND.out fs with hR | hR
                        · have HRD := Lib.hid (LRead_any HS9.out.dk.disk 2 9 4 (by show okAt (D6.crash fs) 2 9 = true; unfold okAt; rw [show (D6.crash fs).sectors = 12 from HF6.out.s]; rfl) rfl (by show ([] : List (Int × List Nat)).length ≤ _; decide) rfl rows hR)
                          clear hR
                          go_wp2_with fail
                          refine HRD.out.mono ?_
                          rintro e w13 ⟨gv9, rfl, ⟨B0, hG⟩, hb8⟩
                          have HTD := Lib.hid (told_rg hG (HT9.out.grew hb8) HRW.out.2.1 (by have := HRW.out.1; omega) (fun g hg => by have := HRW.out.2.2 g hg; omega))
                          have HB9 := Lib.hid (grow HS9.out.dk.low hb8)
                          clear hG hb8 HRD HS9 HT9 HT9b
                          go_wp2_with fail
                          refine HTD.out.mono ?_
                          rintro e w14 ⟨he, hb⟩
                          rw [decide_eq_true trivial] at he
                          subst he
                          have HB10 := Lib.hid (grow HB9.out hb)
                          clear hb HTD
                          go_wp2_with fail
                          refine (awake_any _).mono ?_
                          rintro e w15 ⟨rfl, hb⟩
                          have HB := Lib.hid (grow HB10.out hb)
                          clear hb
                          go_wp2
                          go_ret
                          exact ⟨rfl, HB.out⟩
                        · obtain ⟨R2, hR2⟩ : ∃ R2, R2 = rows ++ [g] := ⟨_, rfl⟩
                          rw [← hR2] at hR HT9b HRW2
                          have hne : ¬ R2 = rows := fun e => by rw [e] at hR2; have := congrArg List.length hR2; simp at this
                          have HNE := Lib.hid hne
                          have HRD := Lib.hid (LRead_any HS9.out.dk.disk 2 9 4 (by show okAt (D6.crash fs) 2 9 = true; unfold okAt; rw [show (D6.crash fs).sectors = 12 from HF6.out.s]; rfl) rfl (by show ([] : List (Int × List Nat)).length ≤ _; decide) rfl R2 hR)
                          clear hR hR2 hne
                          go_wp2_with fail
                          refine HRD.out.mono ?_
                          rintro e w13 ⟨gv9, rfl, ⟨B0, hG⟩, hb8⟩
                          have HTD := Lib.hid (told_rg hG (HT9.out.grew hb8) HRW.out.2.1 (by have := HRW2.out.1; omega) (fun g hg => by have := HRW2.out.2.2 g hg; omega))
                          have HG := Lib.hid hG
                          have HT10 := Lib.hid (HT9b.out.grew hb8)
                          have HB9 := Lib.hid (grow HS9.out.dk.low hb8)
                          clear hG hb8 HRD HS9 HT9 HT9b
                          go_wp2_with fail
                          refine HTD.out.mono ?_
                          rintro e w14 ⟨he, hb⟩
                          rw [decide_eq_false HNE.out] at he
                          subst he
                          have HB10 := Lib.hid (grow HB9.out hb)
                          have HTE := Lib.hid (told_rg (HG.out.grew hb) (HT10.out.grew hb) HRW2.out.2.1 (by have := HRW2.out.1; omega) (fun g hg => by have := HRW2.out.2.2 g hg; omega))
                          clear hb HTD HG HT10
                          go_wp2_with fail
                          refine HTE.out.mono ?_
                          rintro e w15 ⟨he, hb⟩
                          rw [decide_eq_true trivial] at he
                          subst he
                          have HB11 := Lib.hid (grow HB10.out hb)
                          clear hb HTE
                          go_wp2_with fail
                          refine (awake_any _).mono ?_
                          rintro e w16 ⟨rfl, hb⟩
                          have HB := Lib.hid (grow HB11.out hb)
                          clear hb
                          go_wp2
                          go_ret
                          exact ⟨rfl, HB.out⟩
                      · have HWH6 : Hid (Whole D6 L6 rows) := Lib.hid (by
                          rcases HE6.out with h | h | h
                          · exact absurd h.1 hQ0
                          · exact h.2.2
                          · exact absurd h.1 hQ4)
                        have HG9 := Lib.hid hs.ag.st
                        have HG10 := Lib.hid hs.ag.wt.fresh
                        have HX9 := Lib.hid hs.box
                        have HRW3 : Hid (rows.length ≤ i + 1 ∧ BytesIn rows ∧ ∀ x ∈ rows, x.length ≤ 8) := Lib.hid ⟨by have := HRW.out.1; omega, HRW.out.2⟩
                        clear hs HE6
                        go_wp2
                        exact ⟨⟨i + 1, D6, L6, vl6, rows, by omega, by go_num, rfl, HG9, HWH6, HF6, HG10, HX9, HRW3⟩, by simp only [intOf]; omega⟩
              · obtain rfl : n2 = i := by omega
                have hk3 : ¬ (n2 : Int) < n2 := by omega
                have HS8 := Lib.hid (And.intro HS.out HX.out)
                have HT8 : Hid (RG wr w.heap.size ov rows) := Lib.hid (by obtain ⟨Bo, _, ho, _⟩ := HWT.out.out; exact ⟨Bo, ho⟩)
                have HEND : Hid (grp (D.crash fs) 2 4 9 0 [] [] = rows) := Lib.hid (by
                  have := HWH.out.end_ fs
                  rw [HFX.out.f, HFX.out.c, HFX.out.e] at this
                  exact this)
                have HLO8 : Hid (D.loose.length ≤ 1000000000) := Lib.hid (by rw [HWH.out.loose]; decide)
                have kc3 := HX.out.cell 3
                have hcmp := nil_eq
                clear HS HX HWT HWH
                go_wp2_with fail
                refine (Crash_fates2 HS8.out.1 fs A3 c3 nf HF.out.1 HLO8.out HF.out.2.1 HF.out.2.2.1 HF.out.2.2.2).mono ?_
                rintro e w12 ⟨rfl, vl9, hk, hst⟩
                have HT9 := Lib.hid (HT8.out.stepped2 HS8.out.1.dk.disk hst)
                have HS9 := Lib.hid hk
                clear hk hst HS8 HLO8 HT8
                have HRD := Lib.hid (LRead_any HS9.out.dk.disk 2 9 4 (by show okAt (D.crash fs) 2 9 = true; unfold okAt; rw [show (D.crash fs).sectors = 12 from HFX.out.s]; rfl) rfl (by show ([] : List (Int × List Nat)).length ≤ _; decide) rfl rows HEND.out)
                go_wp2_with fail
                refine HRD.out.mono ?_
                rintro e w13 ⟨gv9, rfl, ⟨B0, hG⟩, hb8⟩
                have HTD := Lib.hid (told_rg hG (HT9.out.grew hb8) HRW.out.2.1 (by have := HRW.out.1; omega) (fun g hg => by have := HRW.out.2.2 g hg; omega))
                have HB9 := Lib.hid (grow HS9.out.dk.low hb8)
                clear hG hb8 HRD HS9 HT9
                go_wp2_with fail
                refine HTD.out.mono ?_
                rintro e w14 ⟨he, hb⟩
                rw [decide_eq_true trivial] at he
                subst he
                have HB10 := Lib.hid (grow HB9.out hb)
                clear hb HTD
                go_wp2_with fail
                refine (awake_any _).mono ?_
                rintro e w15 ⟨rfl, hb⟩
                have HB := Lib.hid (grow HB10.out hb)
                clear hb
                go_wp2
                go_ret
                exact ⟨rfl, HB.out⟩
end Go.Proofs.Ytpomfokpmbblkaa
