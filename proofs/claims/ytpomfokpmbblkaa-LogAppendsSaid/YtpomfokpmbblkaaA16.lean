/- Walks: LogAppends. Printed by mk_a16.py. -/
import Derived.Test.YtpomfokpmbblkaaA15
namespace Go.Proofs.Ytpomfokpmbblkaa
open Go.RowKit Go.Maps
set_option maxRecDepth 8000

theorem lroom_in (z : Nat) (h1 : 64 ≤ z) (h2 : z ≤ 4096) : lroom (z : Int) = ((z - 45 : Nat) : Int) := by
  unfold lroom room okSize
  rw [if_pos (decide_eq_true (by omega))]
  omega
section
variable {w : World} {b m : Nat} {vl : Value} {D : Dsk}
theorem wrong_two {f c e : Int} (hs : D.sectors = 12) (h : rightB f c e = false) : okAt D f c = false ∨ (okAt D f c = true ∧ okEp e = false) := by
  have h' := of_decide_eq_false h
  cases hk : okAt D f c with
  | false => exact .inl rfl
  | true =>
    refine .inr ⟨rfl, decide_eq_false (fun he => h' ?_)⟩
    unfold okAt at hk
    have := of_decide_eq_true hk
    omega
theorem Start_wrong (h : DiskAt w b m vl D) {f c e : Int} (hs : D.sectors = 12) (hr : rightB f c e = false) (hf : -9223372036854775808 ≤ f ∧ f ≤ 9223372036854775807) (hc : -9223372036854775808 ≤ c ∧ c ≤ 9223372036854775807) :
    Calls Try.prog 11 #[.pointer (some ⟨b, 0, none⟩), .int .i64 f, .int .i64 c, .int .i64 e] w fun r w' => r = .returned (.tuple #[.pointer none, .int .i64 1]) ∧ Below w.heap.size w w' := by
  rcases wrong_two hs hr with hk | ⟨hk, he⟩
  · exact Start_not (AtNo.bad h f c hk hf hc) e
  · exact Start_ep h f c e hk he
theorem LRead_wrong (h : DiskAt w b m vl D) {f c e : Int} (hs : D.sectors = 12) (hr : rightB f c e = false) (hf : -9223372036854775808 ≤ f ∧ f ≤ 9223372036854775807) (hc : -9223372036854775808 ≤ c ∧ c ≤ 9223372036854775807) :
    Calls Try.prog 13 #[.pointer (some ⟨b, 0, none⟩), .int .i64 f, .int .i64 c, .int .i64 e] w fun r w' => r = .returned (.tuple #[.slice none 0 0, .int .i64 1]) ∧ Below w.heap.size w w' := by
  rcases wrong_two hs hr with hk | ⟨hk, he⟩
  · exact LRead_not (AtNo.bad h f c hk hf hc) e
  · exact LRead_ep h f c e hk he
end
/-- What the law finds wrong of a group, when so many changes have been looked at. -/
def wrongL (z : Nat) (g : List (Int × List Nat)) (k : Nat) : Int := if g.any badPage then 1 else if (g.take k).any (badLen z) then 3 else 0
theorem wrongL_end {z : Nat} {g : List (Int × List Nat)} {k : Nat} (h : k = g.length ∨ wrongL z g k ≠ 0) : wrongL z g k = if g.any badPage then 1 else if g.any (badLen z) then 3 else 0 := by
  rcases h with h | h
  · unfold wrongL; rw [h, List.take_length]
  · unfold wrongL at h ⊢
    split
    · rfl
    · rename_i h1
      rw [if_neg h1] at h
      split
      · rename_i h2
        have : g.any (badLen z) = true := by
          obtain ⟨x, hx, hb⟩ := List.any_eq_true.1 h2
          exact List.any_eq_true.2 ⟨x, List.mem_of_mem_take hx, hb⟩
        rw [if_pos this]
      · rename_i h2
        rw [if_neg h2] at h
        exact absurd rfl h
theorem wrongL_in (z : Nat) (g : List (Int × List Nat)) (k : Nat) : wrongL z g k = 0 ∨ wrongL z g k = 1 ∨ wrongL z g k = 3 := by
  unfold wrongL; split
  · exact .inr (.inl rfl)
  · split
    · exact .inr (.inr rfl)
    · exact .inl rfl
theorem wrongE_of {z : Nat} {left : Int} {g : List (Int × List Nat)} {x : Int} (hx : x = if g.any badPage then 1 else if g.any (badLen z) then 3 else 0) :
    wrongE z left g = if g.length = 0 then 1 else if x ≠ 0 then x else if left < g.length then 6 else 0 := by
  unfold wrongE
  cases g with
  | nil => rfl
  | cons c r =>
    rw [if_neg (by simp : ¬ (c :: r).length = 0), hx]
    simp only [List.isEmpty_cons, Bool.false_or]
    cases (c :: r).any badPage <;> cases (c :: r).any (badLen z) <;> simp

set_option maxHeartbeats 32000000 in
theorem Appends_wrong (A : Option Addr) (ls : List (List PutV)) (n cp mo z : Nat) (f c e : Int) (w : World) (hn : ls.length = n) (hr : PutRows w w.heap.size A ls) (hz : (z : Int) = 64 + (mo : Int) % 64) (hmo : mo < 256)
    (hf : -9223372036854775808 ≤ f ∧ f ≤ 9223372036854775807) (hc : -9223372036854775808 ≤ c ∧ c ≤ 9223372036854775807) (hlb : lightB ls = true) (hrb : rightB f c e = false) :
    Calls Try.prog 3 #[.agg #[.int .u8 mo, .int .i64 f, .int .i64 c, .int .i64 e, .slice A n cp]] w fun e w' => e = .returned (.bool true) ∧ Below w.heap.size w w' := by
  obtain ⟨w1, hw1⟩ : ∃ w1, w1 = w.alloc (.cells #[.int .u8 mo, .int .i64 f, .int .i64 c, .int .i64 e, .slice A n cp] 24) := ⟨_, rfl⟩
  have hb1 : Below w.heap.size w w1 := by subst hw1; exact grow_alloc (Below.refl _ _) _
  have hx1 : Blk w1 w.heap.size #[.int .u8 mo, .int .i64 f, .int .i64 c, .int .i64 e, .slice A n cp] 24 := by subst hw1; exact Blk.new _ _ _
  have HLT := Lib.hid (light_any (.int .u8 mo) (.int .i64 f) (.int .i64 c) (.int .i64 e) A ls n cp w.heap.size w1 hn hb1.size (hr.below hb1))
  rw [hlb] at HLT
  have HX0 := Lib.hid (And.intro hb1 hx1)
  have HW1 := Lib.hid hw1
  have HFC := Lib.hid (And.intro hf (And.intro hc hrb))
  clear hn hr hb1 hx1 hw1 hf hc hlb hrb
  go_enter Try.func3, Try.ntmps3
  go_wp2_with fail
  rw [← HW1.out]
  clear HW1
  refine HLT.out.mono ?_
  rintro r w2 ⟨rfl, hb⟩
  have HB := Lib.hid (grow HX0.out.1 hb)
  have HX2 := Lib.hid (HX0.out.2.grew hb)
  have k0 := HX2.out.cell 0
  have k1 := HX2.out.cell 1
  have k2 := HX2.out.cell 2
  have k3 := HX2.out.cell 3
  have k4 := HX2.out.cell 4
  clear hb HX0 HLT
  go_wp2_with fail
  rw [← hz]
  have HZ := Lib.hid hz
  have hz64 : (64 : Int) ≤ z := by omega
  have hz4 : (z : Int) ≤ 4096 := by omega
  clear hz
  refine (New_dk w 12 z (fun _ _ => trivial) HB.out (by decide) (by decide) hz64 hz4).mono ?_
  rintro r w3 ⟨b, m, rfl, hk, hb⟩
  have HK := Lib.hid hk
  have HX3 := Lib.hid (HX2.out.grew hb)
  clear k0 k1 k2 k3 k4
  have k1 := HX3.out.cell 1
  have k2 := HX3.out.cell 2
  have k3 := HX3.out.cell 3
  clear hk hb HX2 HB
  go_wp2_with fail
  refine (Start_wrong HK.out.disk rfl HFC.out.2.2 HFC.out.1 HFC.out.2.1).mono ?_
  rintro r w4 ⟨rfl, hb⟩
  have HK4 := Lib.hid (HK.out.grew hb)
  have HX4 := Lib.hid (HX3.out.grew hb)
  clear k1 k2 k3 hb HK HX3
  have k0 := HX4.out.cell 0
  have k1 := HX4.out.cell 1
  have k2 := HX4.out.cell 2
  have k3 := HX4.out.cell 3
  have k4 := HX4.out.cell 4
  go_wp2_with fail
  refine (rightW_any mo f c e _ w4 HFC.out.1 HFC.out.2.1).mono ?_
  rintro r w5 ⟨rfl, hb⟩
  rw [HFC.out.2.2]
  have HK5 := Lib.hid (HK4.out.grew hb)
  have HX5 := Lib.hid (HX4.out.grew hb)
  clear k0 k1 k2 k3 k4 hb HK4 HX4
  have k1 := HX5.out.cell 1
  have k2 := HX5.out.cell 2
  have k3 := HX5.out.cell 3
  go_wp2_with fail
  refine (LRead_wrong HK5.out.disk rfl HFC.out.2.2 HFC.out.1 HFC.out.2.1).mono ?_
  rintro r w6 ⟨rfl, hb⟩
  have HB6 := Lib.hid (grow HK5.out.low hb)
  clear k1 k2 k3 hb HK5 HX5
  go_wp2_with fail
  refine (awake_any _).mono ?_
  rintro r w7 ⟨rfl, hb⟩
  have HB := Lib.hid (grow HB6.out hb)
  clear hb
  go_wp2
  go_ret
  exact ⟨rfl, HB.out⟩
theorem Appends_heavy (A : Option Addr) (ls : List (List PutV)) (n cp mo : Nat) (f c e : Int) (w : World) (hn : ls.length = n) (hr : PutRows w w.heap.size A ls) (hlb : lightB ls = false) :
    Calls Try.prog 3 #[.agg #[.int .u8 mo, .int .i64 f, .int .i64 c, .int .i64 e, .slice A n cp]] w fun e w' => e = .returned (.bool true) ∧ Below w.heap.size w w' := by
  obtain ⟨w1, hw1⟩ : ∃ w1, w1 = w.alloc (.cells #[.int .u8 mo, .int .i64 f, .int .i64 c, .int .i64 e, .slice A n cp] 24) := ⟨_, rfl⟩
  have hb1 : Below w.heap.size w w1 := by subst hw1; exact grow_alloc (Below.refl _ _) _
  have HLT := Lib.hid (light_any (.int .u8 mo) (.int .i64 f) (.int .i64 c) (.int .i64 e) A ls n cp w.heap.size w1 hn hb1.size (hr.below hb1))
  rw [hlb] at HLT
  have HX0 := Lib.hid hb1
  have HW1 := Lib.hid hw1
  clear hn hr hb1 hw1 hlb
  go_enter Try.func3, Try.ntmps3
  go_wp2_with fail
  rw [← HW1.out]
  clear HW1
  refine HLT.out.mono ?_
  rintro r w2 ⟨rfl, hb⟩
  have HB := Lib.hid (grow HX0.out hb)
  clear hb
  go_wp2
  go_ret
  exact ⟨rfl, HB.out⟩

set_option maxHeartbeats 64000000 in
theorem Appends_right (A : Option Addr) (ls : List (List PutV)) (n cp mo z F C E : Nat) (w : World) (hn : ls.length = n) (hr : PutRows w w.heap.size A ls) (hz : (z : Int) = 64 + (mo : Int) % 64) (hmo : mo < 256) (hlb : lightB ls = true) (hrb : rightB F C E = true) :
    Calls Try.prog 3 #[.agg #[.int .u8 mo, .int .i64 F, .int .i64 C, .int .i64 E, .slice A n cp]] w fun e w' => e = .returned (.bool true) ∧ Below w.heap.size w w' := by
  obtain ⟨w1, hw1⟩ : ∃ w1, w1 = w.alloc (.cells #[.int .u8 mo, .int .i64 F, .int .i64 C, .int .i64 E, .slice A n cp] 24) := ⟨_, rfl⟩
  have hb1 : Below w.heap.size w w1 := by subst hw1; exact grow_alloc (Below.refl _ _) _
  have hx1 : Blk w1 w.heap.size #[.int .u8 mo, .int .i64 F, .int .i64 C, .int .i64 E, .slice A n cp] 24 := by subst hw1; exact Blk.new _ _ _
  have HLT := Lib.hid (light_any (.int .u8 mo) (.int .i64 F) (.int .i64 C) (.int .i64 E) A ls n cp w.heap.size w1 hn hb1.size (hr.below hb1))
  rw [hlb] at HLT
  have HL := Lib.hid (of_decide_eq_true hlb)
  have HX0 := Lib.hid (And.intro hb1 hx1)
  have HW1 := Lib.hid hw1
  have HRB := Lib.hid hrb
  have hrb2 := of_decide_eq_true hrb
  have hF : (F : Int) ≤ 12 := by omega
  have hC : (C : Int) ≤ 12 := by omega
  have hC1 : (1 : Int) ≤ C := by omega
  have hFC : (F : Int) + C ≤ 12 := by omega
  have hE1 : (1 : Int) ≤ E := by omega
  have hE2 : (E : Int) ≤ 1099511627776 := by omega
  have HOK : Hid (okAt (Dsk.new 12 z) F C = true ∧ okEp (E : Int) = true) := Lib.hid ⟨by unfold okAt; exact decide_eq_true (by show 0 ≤ (F : Int) ∧ 1 ≤ (C : Int) ∧ (C : Int) ≤ 1048576 ∧ (F : Int) ≤ ((12 : Nat) : Int) - C; omega), by unfold okEp; exact decide_eq_true (by omega)⟩
  have HR := Lib.hid hr
  have HN := Lib.hid hn
  clear hn hr hb1 hx1 hw1 hlb hrb hrb2
  go_enter Try.func3, Try.ntmps3
  go_wp2_with fail
  rw [← HW1.out]
  clear HW1
  refine HLT.out.mono ?_
  rintro r w2 ⟨rfl, hb⟩
  have HB := Lib.hid (grow HX0.out.1 hb)
  have HX2 := Lib.hid (HX0.out.2.grew hb)
  have k0 := HX2.out.cell 0
  clear hb HX0 HLT
  go_wp2_with fail
  rw [← hz]
  have HZ := Lib.hid hz
  have hz64 : (64 : Int) ≤ z := by omega
  have hz4 : (z : Int) ≤ 128 := by omega
  clear hz
  refine (New_dk w 12 z (fun _ _ => trivial) HB.out (by decide) (by decide) hz64 (by omega)).mono ?_
  rintro r w3 ⟨b, m, rfl, hk, hb⟩
  have HK := Lib.hid hk
  have HX3 := Lib.hid (HX2.out.grew hb)
  clear k0
  have k1 := HX3.out.cell 1
  have k2 := HX3.out.cell 2
  have k3 := HX3.out.cell 3
  clear hk hb HX2 HB
  go_wp2_with fail
  refine (Start_st HK.out F C E HOK.out.1 HOK.out.2).mono ?_
  rintro r w4 ⟨G, rfl, hk, -, hb⟩
  have HK4 := Lib.hid hk
  have HX4 := Lib.hid (HX3.out.grew hb)
  clear k1 k2 k3 hk hb HK HX3
  have k0 := HX4.out.cell 0
  have k1 := HX4.out.cell 1
  have k2 := HX4.out.cell 2
  have k3 := HX4.out.cell 3
  have k4 := HX4.out.cell 4
  go_wp2_with fail
  refine (rightW_any mo F C E _ w4 (by omega) (by omega)).mono ?_
  rintro r w5 ⟨rfl, hb⟩
  rw [HRB.out]
  have HK5 := Lib.hid (HK4.out.grew hb)
  have HX5 := Lib.hid (HX4.out.grew hb)
  clear k0 k1 k2 k3 k4 hb HK4 HX4
  go_wp2_with fail
  refine (refLRoom_any z w5).mono ?_
  rintro r w6 ⟨rfl, hw⟩
  subst hw
  have hlr := lroom_in z (by omega) (by omega)
  rw [hlr]
  have HLR := Lib.hid hlr
  clear hlr
  obtain ⟨rm, hrm⟩ : ∃ rm, rm = z - 45 := ⟨_, rfl⟩
  rw [← hrm] at HLR ⊢
  have hrmz : (rm : Int) + 45 = z := by omega
  clear hrm
  have HA0 := Lib.hid (appd_start z F C E (by omega) (by omega) (by omega) ⟨by omega, by omega⟩)
  have HF0 : Hid (Fix (Dsk.new 12 z) ⟨F, C, E, 0, false⟩ z 12 F C E) := Lib.hid ⟨rfl, rfl, rfl, rfl, rfl⟩
  have HW0 : Hid (WtSt w w6 [] nilv nilv []) := Lib.hid (WtSt.start HK5.out.dk.low)
  have hn8 : (n : Int) ≤ 8 := by have := HL.out.1; have := HN.out; omega
  go_wp2_with fail
  go_loopw [10, 11, 12] (fun ov nv iv wr => ∃ (i nx : Nat) (D : Dsk) (L : Lg) (vl : Value) (rows : List (List (Int × List Nat))), i ≤ n ∧ iv = .int .i64 i ∧ nv = .int .i64 nx ∧ Hid (L.next = nx) ∧ Hid (LSt w wr b m vl D G L) ∧ Hid (Appd D L rows) ∧ Hid (Fix D L z 12 F C E) ∧ Hid (WtSt w wr rows ov nilv []) ∧ Hid (Blk wr w.heap.size #[.int .u8 mo, .int .i64 F, .int .i64 C, .int .i64 E, .slice A n cp] 24) ∧ Hid (rows.length ≤ i ∧ BytesIn rows ∧ ∀ g ∈ rows, g.length ≤ 8)) (fun _ _ iv _ => n - (intOf iv).toNat)
  case atStart => exact ⟨0, 0, _, _, _, [], by omega, rfl, rfl, Lib.hid rfl, HK5, HA0, HF0, HW0, HX5, Lib.hid ⟨by simp, by intro g hg; simp at hg, by intro g hg; simp at hg⟩⟩
  case round =>
    clear HK5 HA0 HF0 HW0 HX5
    obtain ⟨i, nx, D, L, vl, rows, hi, rfl, rfl, HNXT, HS, HAP, HFX, HWT, HX, HRW⟩ := hrel
    obtain ⟨ov, hov⟩ : ∃ ov, ov = u10 := ⟨_, rfl⟩
    rw [← hov] at HWT ⊢
    clear hov
    have k4 := HX.out.cell 4
    have hnxb : (nx : Int) ≤ C := by have := HAP.out.has.lok.n; have := HFX.out.c; have := HNXT.out; omega
    by_cases hlt : i < n
    · have hig : i < ls.length := by rw [HN.out]; exact hlt
      obtain ⟨p, B, cb, e, hpb, d1, hp⟩ := (HR.out.below HS.out.dk.low).get hig
      subst e
      obtain ⟨ni, hni⟩ : ∃ ni, ni = ls[i].length := ⟨_, rfl⟩
      rw [← hni] at d1
      have hni8 : ni ≤ 8 := by rw [hni]; exact HL.out.2 _ (List.getElem_mem hig)
      have HGR := Lib.hid (group_any B ls[i] ni cb w.heap.size rm wr hni.symm (by omega) HS.out.dk.low.size (by omega) hp)
      have HBY := Lib.hid (chOfPut_bytes rm hp)
      have HG8 : Hid ((ls[i].map (chOfPut rm)).length ≤ 8) := Lib.hid (by rw [List.length_map, ← hni]; exact hni8)
      obtain ⟨g, hg⟩ : ∃ g, g = ls[i].map (chOfPut rm) := ⟨_, rfl⟩
      rw [← hg] at HGR HBY HG8
      have hst := HAP.out.step (g := g) (by rw [HFX.out.z]; omega) HBY.out
      rw [HFX.out.z, HFX.out.c, HNXT.out] at hst
      have HST := Lib.hid hst
      have HF6 := Lib.hid (HFX.out.step g)
      have HLO := Lib.hid HAP.out.loose
      clear hni hp hpb hg hst
      go_wp2_with fail
      refine HGR.out.mono ?_
      rintro r w9 ⟨gv, rfl, hc, -, hb5⟩
      have HS5 := Lib.hid (And.intro (HS.out.grew hb5) (And.intro hc (And.intro (HWT.out.grew hb5) (HX.out.grew hb5))))
      clear hc hb5 HS HGR HWT HX k4 d1
      go_wp2_with fail
      refine (append_puts HS5.out.1 HS5.out.2.1 HG8.out (by rw [HLO.out]; decide)).mono ?_
      rintro r w10 ⟨rfl, vl6, hk, hwent⟩
      have HAG : Hid (AgX w w10 b m vl6 (app D L g).2.1 G (app D L g).2.2 gv g rows ov nilv [] w.heap.size #[.int .u8 mo, .int .i64 F, .int .i64 C, .int .i64 E, .slice (some p) n cp] 24) := Lib.hid ⟨⟨hk, HS5.out.2.1.went hwent HS5.out.1.log HS5.out.1.dk.disk, HS5.out.2.2.1.went HS5.out.1 hwent⟩, HS5.out.2.2.2.went (.inr rfl) HS5.out.1 hwent, .inr rfl⟩
      clear hk hwent HS5 HLO
      obtain ⟨D6, hD6⟩ : ∃ D6, D6 = (app D L g).2.1 := ⟨_, rfl⟩
      obtain ⟨L6, hL6⟩ : ∃ L6, L6 = (app D L g).2.2 := ⟨_, rfl⟩
      rw [← hD6, ← hL6] at HST
      rw [← hD6, ← hL6] at HAG HF6
      rw [HST.out.1]
      clear hD6 hL6
      obtain ⟨Q, hQ⟩ : ∃ Q, Q = wrongE z ((C : Int) - nx) g := ⟨_, rfl⟩
      rw [← hQ] at HST ⊢
      have HQ := Lib.hid hQ
      clear hQ
      obtain ⟨Ag, cr, egv⟩ := HAG.out.ag.src.slice
      subst egv
      obtain ⟨nr, hnr⟩ : ∃ nr, nr = g.length := ⟨_, rfl⟩
      rw [← hnr] at HAG HST ⊢
      have hnr8 : (nr : Int) ≤ 8 := by have := HG8.out; omega
      have HNG := Lib.hid hnr
      have HRW2 : Hid ((rows ++ [g]).length ≤ i + 1 ∧ BytesIn (rows ++ [g]) ∧ ∀ x ∈ rows ++ [g], x.length ≤ 8) := Lib.hid ⟨by have := HRW.out.1; simp; omega, fun x hx => by
        rcases List.mem_append.1 hx with hx | hx
        · exact HRW.out.2.1 x hx
        · simp at hx; subst hx; exact HBY.out, fun x hx => by
        rcases List.mem_append.1 hx with hx | hx
        · exact HRW.out.2.2 x hx
        · simp at hx; subst hx; exact HG8.out⟩
      clear hnr
      go_wp2_with fail
      go_loopw [15, 16] (fun wv kv wk => ∃ (k : Nat) (x : Int), k ≤ nr ∧ kv = .int .i64 k ∧ wv = .int .i64 x ∧ wk = w10 ∧ Hid (x = if (g.take k).any badPage then 1 else 0)) (fun _ kv _ => nr - (intOf kv).toNat)
      case atStart => exact ⟨0, 0, by omega, rfl, rfl, rfl, Lib.hid rfl⟩
      case round =>
        obtain ⟨k, x, hk, rfl, rfl, rfl, HXX⟩ := hrel
        by_cases hk2 : k < nr
        · have hki : k < g.length := by rw [← HNG.out]; exact hk2
          obtain ⟨gr, _, pp, zz, d, e, e4, f1, f2, hy, e5⟩ := HAG.out.ag.src.at_ k hki
          injection e with e e2 e3
          subst e
          clear e2 e3 e4 e5
          obtain ⟨px, hpx⟩ : ∃ px, px = g[k].1 := ⟨_, rfl⟩
          rw [← hpx] at f1
          have HBP : Hid (badPage g[k] = decide (px < 0 ∨ 2147483647 < px)) := Lib.hid (by unfold badPage; rw [hpx])
          have hat := any_take_succ badPage g k hki
          rw [HBP.out] at hat
          have HAT := Lib.hid hat
          clear f2 hy hpx hat
          by_cases hp1 : px < 0
          · have HN1 : Hid ((1 : Int) = if (g.take (k + 1)).any badPage then 1 else 0) := Lib.hid (by rw [HAT.out, decide_eq_true (.inl hp1), Bool.or_true]; rfl)
            go_wp2
            go_round
            case rel => exact ⟨k + 1, 1, by omega, by go_num, rfl, trivial, HN1⟩
            case measure => simp only [intOf]; omega
          · by_cases hp2 : 2147483647 < px
            · have HN1 : Hid ((1 : Int) = if (g.take (k + 1)).any badPage then 1 else 0) := Lib.hid (by rw [HAT.out, decide_eq_true (.inr hp2), Bool.or_true]; rfl)
              go_wp2
              go_round
              case rel => exact ⟨k + 1, 1, by omega, by go_num, rfl, trivial, HN1⟩
              case measure => simp only [intOf]; omega
            · have HN1 : Hid (x = if (g.take (k + 1)).any badPage then 1 else 0) := Lib.hid (by rw [HAT.out, decide_eq_false (by omega), Bool.or_false]; exact HXX.out)
              go_wp2
              go_round
              case rel => exact ⟨k + 1, x, by omega, by go_num, rfl, trivial, HN1⟩
              case measure => simp only [intOf]; omega
        · obtain rfl : nr = k := by omega
          have hk3 : ¬ (nr : Int) < nr := by omega
          have HW1 : Hid (x = wrongL z g 0) := Lib.hid (by
            have := HXX.out
            rw [List.take_of_length_le (by rw [← HNG.out]; exact Nat.le_refl _)] at this
            rw [this]; rfl)
          clear HXX
          go_wp2_with fail
          go_loopw [15, 17] (fun wv kv wk => ∃ (k : Nat) (x : Int), k ≤ nr ∧ kv = .int .i64 k ∧ wv = .int .i64 x ∧ wk = wr ∧ Hid (x = wrongL z g k)) (fun _ kv _ => nr - (intOf kv).toNat)
          case atStart => exact ⟨0, x, by omega, rfl, rfl, rfl, HW1⟩
          case round =>
            clear HW1
            obtain ⟨k, x, hk, rfl, rfl, rfl, HXX⟩ := hrel
            by_cases hk2 : k < nr
            · by_cases hx0 : x = 0
              · subst hx0
                have hki : k < g.length := by rw [← HNG.out]; exact hk2
                obtain ⟨gr, _, pp, zz, d, e, e4, f1, f2, hy, e5⟩ := HAG.out.ag.src.at_ k hki
                injection e with e e2 e3
                subst e
                clear e2 e3 e4
                have HBL : Hid (badLen z g[k] = decide (zz ≠ rm)) := Lib.hid (by unfold badLen; rw [HLR.out, ← e5, decide_eq_decide]; omega)
                have hat := any_take_succ (badLen z) g k hki
                rw [HBL.out] at hat
                have HAT := Lib.hid hat
                have HP0 : Hid (g.any badPage = false ∧ (g.take k).any (badLen z) = false) := Lib.hid (by
                  have := HXX.out
                  unfold wrongL at this
                  split at this
                  · omega
                  · rename_i h1
                    split at this
                    · omega
                    · rename_i h2
                      exact ⟨by simpa using h1, by simpa using h2⟩)
                clear f1 hy hat e5 HXX
                by_cases hzr : zz = rm
                · have HN1 : Hid ((0 : Int) = wrongL z g (k + 1)) := Lib.hid (by unfold wrongL; rw [HP0.out.1, HAT.out, HP0.out.2, decide_eq_false (by simpa using hzr)]; rfl)
                  clear HP0 HAT HBL
                  subst hzr
                  go_wp2
                  exact ⟨⟨k + 1, 0, by omega, by go_num, rfl, trivial, HN1⟩, by simp only [intOf]; omega⟩
                · have HN1 : Hid ((3 : Int) = wrongL z g (k + 1)) := Lib.hid (by unfold wrongL; rw [HP0.out.1, HAT.out, HP0.out.2, decide_eq_true (by simpa using hzr)]; rfl)
                  have hzr2 : ¬ (zz : Int) = rm := by omega
                  clear HP0 HAT HBL
                  go_wp2
                  exact ⟨⟨k + 1, 3, by omega, by go_num, rfl, trivial, HN1⟩, by simp only [intOf]; omega⟩
              · have hq := HQ.out
                rw [wrongE_of (x := x) (by rw [HXX.out]; exact wrongL_end (.inr (by rw [← HXX.out]; exact hx0))), ← HNG.out, if_neg (by omega), if_pos hx0] at hq
                have hin := wrongL_in z g k
                rw [← HXX.out] at hin
                have HNO := Lib.hid (HST.out.2.1 (by rw [hq]; exact hx0))
                clear HST HXX
                rcases hin with h0 | h1 | h3
                · exact absurd h0 hx0
                · subst h1
                  subst hq
                  have HG9 := Lib.hid HAG.out.ag.st
                  have HG10 := Lib.hid HAG.out.ag.wt
                  have HX9 := Lib.hid HAG.out.box
                  have HAPN : Hid (Appd D6 L6 rows) := Lib.hid (by rw [HNO.out.1, HNO.out.2]; exact HAP.out)
                  have HNX : Hid (L6.next = nx) := Lib.hid (by rw [HNO.out.2]; exact HNXT.out)
                  have HRW3 : Hid (rows.length ≤ i + 1 ∧ BytesIn rows ∧ ∀ x ∈ rows, x.length ≤ 8) := Lib.hid ⟨by have := HRW.out.1; omega, HRW.out.2⟩
                  clear HAG HNO
                  go_wp2
                  exact ⟨⟨i + 1, nx, D6, L6, vl6, rows, by omega, by go_num, rfl, HNX, HG9, HAPN, HF6, HG10, HX9, HRW3⟩, by simp only [intOf]; omega⟩
                · subst h3
                  subst hq
                  have HG9 := Lib.hid HAG.out.ag.st
                  have HG10 := Lib.hid HAG.out.ag.wt
                  have HX9 := Lib.hid HAG.out.box
                  have HAPN : Hid (Appd D6 L6 rows) := Lib.hid (by rw [HNO.out.1, HNO.out.2]; exact HAP.out)
                  have HNX : Hid (L6.next = nx) := Lib.hid (by rw [HNO.out.2]; exact HNXT.out)
                  have HRW3 : Hid (rows.length ≤ i + 1 ∧ BytesIn rows ∧ ∀ x ∈ rows, x.length ≤ 8) := Lib.hid ⟨by have := HRW.out.1; omega, HRW.out.2⟩
                  clear HAG HNO
                  go_wp2
                  exact ⟨⟨i + 1, nx, D6, L6, vl6, rows, by omega, by go_num, rfl, HNX, HG9, HAPN, HF6, HG10, HX9, HRW3⟩, by simp only [intOf]; omega⟩
            · obtain rfl : nr = k := by omega
              have hk3 : ¬ (nr : Int) < nr := by omega
              have hq := HQ.out
              rw [wrongE_of (x := x) (by rw [HXX.out]; exact wrongL_end (.inl HNG.out)), ← HNG.out] at hq
              have hin := wrongL_in z g nr
              rw [← HXX.out] at hin
              clear HXX
              by_cases hn0 : nr = 0
              · rw [if_pos hn0] at hq
                have HNO := Lib.hid (HST.out.2.1 (by rw [hq]; decide))
                clear HST hin
                subst hq
                subst hn0
                have HG9 := Lib.hid HAG.out.ag.st
                have HG10 := Lib.hid HAG.out.ag.wt
                have HX9 := Lib.hid HAG.out.box
                have HAPN : Hid (Appd D6 L6 rows) := Lib.hid (by rw [HNO.out.1, HNO.out.2]; exact HAP.out)
                have HNX : Hid (L6.next = nx) := Lib.hid (by rw [HNO.out.2]; exact HNXT.out)
                have HRW3 : Hid (rows.length ≤ i + 1 ∧ BytesIn rows ∧ ∀ x ∈ rows, x.length ≤ 8) := Lib.hid ⟨by have := HRW.out.1; omega, HRW.out.2⟩
                clear HAG HNO
                go_wp2
                exact ⟨⟨i + 1, nx, D6, L6, vl6, rows, by omega, by go_num, rfl, HNX, HG9, HAPN, HF6, HG10, HX9, HRW3⟩, by simp only [intOf]; omega⟩
              · rw [if_neg hn0] at hq
                by_cases hx0 : x = 0
                · subst hx0
                  rw [if_neg (by simp)] at hq
                  have k2 := HAG.out.box.cell 2
                  by_cases hfull : (C : Int) - nx < nr
                  · rw [if_pos hfull] at hq
                    have HNO := Lib.hid (HST.out.2.1 (by rw [hq]; decide))
                    clear HST hin
                    subst hq
                    have HG9 := Lib.hid HAG.out.ag.st
                    have HG10 := Lib.hid HAG.out.ag.wt
                    have HX9 := Lib.hid HAG.out.box
                    have HAPN : Hid (Appd D6 L6 rows) := Lib.hid (by rw [HNO.out.1, HNO.out.2]; exact HAP.out)
                    have HNX : Hid (L6.next = nx) := Lib.hid (by rw [HNO.out.2]; exact HNXT.out)
                    have HRW3 : Hid (rows.length ≤ i + 1 ∧ BytesIn rows ∧ ∀ x ∈ rows, x.length ≤ 8) := Lib.hid ⟨by have := HRW.out.1; omega, HRW.out.2⟩
                    clear HAG HNO
                    go_wp2
                    exact ⟨⟨i + 1, nx, D6, L6, vl6, rows, by omega, by go_num, rfl, HNX, HG9, HAPN, HF6, HG10, HX9, HRW3⟩, by simp only [intOf]; omega⟩
                  · rw [if_neg hfull] at hq
                    have hok := HST.out.2.2 hq
                    have HAP6 := Lib.hid hok.1
                    have HLN6 := Lib.hid hok.2.1
                    have HFIT := Lib.hid hok.2.2.1
                    have HCH := Lib.hid hok.2.2.2
                    have hfit : (nx : Int) + nr ≤ C := by omega
                    clear HST hin hok
                    subst hq
                    go_wp2_with fail
                    go_loopw [11, 18, 19] (fun nv lv kv wk => ∃ k : Nat, k ≤ nr ∧ kv = .int .i64 k ∧ nv = .int .i64 ((nx + k : Nat) : Int) ∧ Hid (AgX w wk b m vl6 D6 G L6 (.slice Ag nr cr) g rows ov lv (g.take k) w.heap.size #[.int .u8 mo, .int .i64 F, .int .i64 C, .int .i64 E, .slice (some p) n cp] 24)) (fun _ _ kv _ => nr - (intOf kv).toNat)
                    case atStart => exact ⟨0, by omega, rfl, rfl, HAG⟩
                    case round =>
                      clear HAG k2
                      obtain ⟨k, hk, rfl, rfl, HS⟩ := hrel
                      obtain ⟨lv, hlv⟩ : ∃ lv, lv = u18 := ⟨_, rfl⟩
                      rw [← hlv] at HS ⊢
                      clear hlv
                      by_cases hk2 : k < nr
                      · have hki : k < g.length := by rw [← HNG.out]; exact hk2
                        obtain ⟨gr, _, pp, zz, d, e, e4, f1, f2, hy, e5⟩ := HS.out.ag.src.at_ k hki
                        injection e with e e2 e3
                        subst e
                        clear e2 e3 e4 e5
                        have hck := HCH.out g[k] (List.getElem_mem hki)
                        obtain ⟨pN, hpN⟩ : ∃ pN : Nat, (pN : Int) = g[k].1 := ⟨g[k].1.toNat, by have := hck.p0; omega⟩
                        have hp9 : (pN : Int) ≤ 2147483647 := by have := hck.p1; omega
                        obtain ⟨ll, hll⟩ : ∃ ll, ll = g[k].2 := ⟨_, rfl⟩
                        rw [← hpN] at f1
                        rw [← hll] at hy
                        have hl9 : ll.length + 45 = z := by have := hck.len; rw [hll]; exact this
                        have HTK : Hid (g.take k ++ [((pN : Int), ll)] = g.take (k + 1)) := Lib.hid (by rw [List.take_add_one, List.getElem?_eq_getElem hki, hpN, hll]; rfl)
                        obtain ⟨lst, hlst0⟩ : ∃ lst, lst = decide (k + 1 = nr) := ⟨_, rfl⟩
                        have hlst : ((k : Int) == IntKind.i64.wrap ((nr : Int) - 1)) = lst := by rw [IntKind.wrap_i64, show (((nr : Int) - 1 + 9223372036854775808) % 18446744073709551616 - 9223372036854775808) = (nr : Int) - 1 by omega, hlst0, Bool.eq_iff_iff]; simp; omega
                        have hslot := HAP6.out.slot k hki
                        rw [HF6.out.f, HF6.out.z, HF6.out.e] at hslot
                        have hfn : (flat rows).length = nx := by have := HAP.out.has.nx; rw [HNXT.out] at this; exact this.symm
                        rw [hfn, ← HNG.out, ← hlst0] at hslot
                        obtain ⟨SB, hSB⟩ : ∃ SB, SB = secAt z E (nx + k) (g[k], lst) := ⟨_, rfl⟩
                        rw [← hSB] at hslot
                        have hSB2 : SB = sector z (E * 2097152 + (nx + k) + 1) (leb pN 8 ++ [if lst then 1 else 0] ++ ll) := by
                          rw [hSB]
                          unfold secAt
                          rw [← hll, show (g[k].1.toNat) = pN by omega]
                        have HSLOT := Lib.hid hslot
                        have HSN : Hid (SB ≠ []) := Lib.hid (fun e => by
                          have := (secAt_ok (z := z) (e := E) (i := nx + k) (x := (g[k], lst)) hck).1
                          rw [← hSB, e] at this
                          simp at this; omega)
                        have HSEC : Hid (∀ u, Calls Try.prog 19 #[.int .i64 z, .int .i64 E, .int .i64 ((nx + k : Nat) : Int), .agg #[.int .i64 pN, .string (str ll)], .bool lst] u fun r w' => ∃ v', r = .returned v' ∧ Own w' u.heap.size v' SB ∧ Below u.heap.size u w') := Lib.hid (fun u => by
                          rw [hSB2]
                          exact refSector_any z E (nx + k) pN ll lst u (by omega) (by omega) ⟨by omega, by omega⟩ (by omega) (by omega) (by omega) hy.1)
                        have hcell : D6.ready ((F : Int) + ((nx + k : Nat) : Int)) = 0 := by unfold Dsk.ready; rw [HAP6.out.has.up, if_neg (by simp), HF6.out.s, if_neg (by omega)]
                        have HRDY := Lib.hid hcell
                        have HC := Lib.hid (And.intro f1 (And.intro f2 hy))
                        have HNB := Lib.hid (show k ≤ 1000000000 by omega)
                        clear f1 f2 hy hpN hll hck hslot hfn hSB hSB2 hcell hlst0
                        go_wp2_with fail
                        refine wp_region_H (fun v => (v.cell? ⟨gr, k * 2, none⟩ = some (.int .i64 (pN : Int)) ∧ v.cell? ⟨gr, k * 2 + 1, none⟩ = some (.slice (some pp) zz d)) ∧ Byt v (.slice (some pp) zz d) ll) (by kernel_rfl) (fun u0 hu0 => ?_)
                        have hSa0 : (fun v => (v.cell? ⟨gr, k * 2, none⟩ = some (.int .i64 (pN : Int)) ∧ v.cell? ⟨gr, k * 2 + 1, none⟩ = some (.slice (some pp) zz d)) ∧ Byt v (.slice (some pp) zz d) ll) u0 := by subst hu0; exact ⟨⟨HC.out.1, HC.out.2.1⟩, HC.out.2.2.drew⟩
                        have g0 : AgX w u0 b m vl6 D6 G L6 (.slice (some ⟨gr, 0, none⟩) nr cr) g rows ov lv (g.take k) w.heap.size #[.int .u8 mo, .int .i64 F, .int .i64 C, .int .i64 E, .slice (some p) n cp] 24 := by subst hu0; exact HS.out.drew
                        have hsz0 : wr.heap.size ≤ u0.heap.size := by subst hu0; exact Nat.le_refl _
                        clear hu0
                        have HC9 := Lib.hid hSa0
                        refine wpH_take (i := 0) (v := ?_) rfl rfl (by kernel_rfl) (by kernel_rfl) (by kernel_rfl) (fun _ _ _ h => h) (Or.inl ⟨by rfl, ?_⟩) hSa0 ?_
                        rotate_left
                        · (intro w_ hw_; go_simp; try with_reducible rfl)
                        simp only [List.setIfInBounds_toArray, List.set_cons_zero, List.set_cons_succ]
                        refine wpH_take (i := 1) (v := ?_) rfl rfl (by kernel_rfl) (by kernel_rfl) (by kernel_rfl) (fun _ _ _ h => h) (Or.inl ⟨by rfl, ?_⟩) hSa0 ?_
                        rotate_left
                        · (intro w_ hw_; go_simp; try with_reducible rfl)
                        simp only [List.setIfInBounds_toArray, List.set_cons_zero, List.set_cons_succ]
                        refine wpH_take (i := 2) (v := ?_) rfl rfl (by kernel_rfl) (by kernel_rfl) (by kernel_rfl) (fun _ _ _ h => h) (Or.inl ⟨by rfl, ?_⟩) hSa0 ?_
                        rotate_left
                        · (intro w_ hw_; go_simp; try with_reducible rfl)
                        simp only [List.setIfInBounds_toArray, List.set_cons_zero, List.set_cons_succ]
                        refine wpH_take (i := 3) (v := ?_) rfl rfl (by kernel_rfl) (by kernel_rfl) (by kernel_rfl) (fun _ _ _ h => h) (Or.inl ⟨by rfl, ?_⟩) hSa0 ?_
                        rotate_left
                        · (intro w_ hw_; go_simp; try with_reducible rfl)
                        simp only [List.setIfInBounds_toArray, List.set_cons_zero, List.set_cons_succ]
                        refine wpH_take (i := 4) (v := ?_) rfl rfl (by kernel_rfl) (by kernel_rfl) (by kernel_rfl) (fun _ _ _ h => h) (Or.inl ⟨by rfl, ?_⟩) hSa0 ?_
                        rotate_left
                        · (intro w_ hw_; (have q2 := hw_.1.1; have q3 := hw_.1.2; clear hw_); go_simp; try with_reducible rfl)
                        simp only [List.setIfInBounds_toArray, List.set_cons_zero, List.set_cons_succ]
                        refine wpH_take (i := 5) (v := ?_) rfl rfl (by kernel_rfl) (by kernel_rfl) (by kernel_rfl) (fun _ _ _ h => h) (Or.inl ⟨by rfl, ?_⟩) hSa0 ?_
                        rotate_left
                        · (intro w_ hw_; go_simp; try with_reducible rfl)
                        simp only [List.setIfInBounds_toArray, List.set_cons_zero, List.set_cons_succ]
                        refine wpH_take (i := 6) (v := ?_) rfl rfl (by kernel_rfl) (by kernel_rfl) (by kernel_rfl) (fun _ _ _ h => h) (Or.inl ⟨by rfl, ?_⟩) hSa0 ?_
                        rotate_left
                        · (intro w_ hw_; go_simp; try with_reducible rfl)
                        simp only [List.setIfInBounds_toArray, List.set_cons_zero, List.set_cons_succ]
                        refine wpH_take (i := 7) (v := ?_) rfl rfl (by kernel_rfl) (by kernel_rfl) (by kernel_rfl) (fun _ _ _ h => h) (Or.inl ⟨by rfl, ?_⟩) hSa0 ?_
                        rotate_left
                        · (intro w_ hw_; go_simp; try with_reducible rfl)
                        simp only [List.setIfInBounds_toArray, List.set_cons_zero, List.set_cons_succ]
                        refine wpH_take (i := 8) (v := ?_) rfl rfl (by kernel_rfl) (by kernel_rfl) (by kernel_rfl) (fun _ _ _ h => h) (Or.inl ⟨by rfl, ?_⟩) hSa0 ?_
                        rotate_left
                        · (intro w_ hw_; go_simp; try with_reducible rfl)
                        simp only [List.setIfInBounds_toArray, List.set_cons_zero, List.set_cons_succ]
                        refine wpH_take (i := 9) (v := ?_) rfl rfl (by kernel_rfl) (by kernel_rfl) (by kernel_rfl) (fun _ _ _ h => h) (Or.inl ⟨by rfl, ?_⟩) hSa0 ?_
                        rotate_left
                        · (intro w_ hw_; (have q2 := hw_.1.1; have q3 := hw_.1.2; clear hw_); go_simp; try with_reducible rfl)
                        simp only [List.setIfInBounds_toArray, List.set_cons_zero, List.set_cons_succ]
                        refine wpH_take (i := 10) (v := (.string (str ll))) rfl rfl (by kernel_rfl) (by kernel_rfl) (by kernel_rfl) (fun _ _ _ h => h) (Or.inl ⟨by rfl, ?_⟩) hSa0 ?_
                        · (intro w_ hw_; exact exec_convert 42 9 (.tmp 172) rfl rfl (hw_.2.strv))
                        simp only [List.setIfInBounds_toArray, List.set_cons_zero, List.set_cons_succ]
                        refine wpH_take (i := 11) (v := ?_) rfl rfl (by kernel_rfl) (by kernel_rfl) (by kernel_rfl) (fun _ _ _ h => h) (Or.inl ⟨by rfl, ?_⟩) hSa0 ?_
                        rotate_left
                        · (intro w_ hw_; go_simp; try with_reducible rfl)
                        simp only [List.setIfInBounds_toArray, List.set_cons_zero, List.set_cons_succ]
                        obtain ⟨u1, hu1⟩ : ∃ u1, u1 = u0.alloc (.cells #[.int .i64 0, .string ⟨#[]⟩] 47) := ⟨_, rfl⟩
                        have hb1 : Below u0.heap.size u0 u1 := by subst hu1; exact grow_alloc (Below.refl _ _) _
                        have hSa1 : (fun v => (v.cell? ⟨gr, k * 2, none⟩ = some (.int .i64 (pN : Int)) ∧ v.cell? ⟨gr, k * 2 + 1, none⟩ = some (.slice (some pp) zz d)) ∧ Byt v (.slice (some pp) zz d) ll) u1 := ⟨⟨cell_grew hSa0.1.1 hb1, cell_grew hSa0.1.2 hb1⟩, hSa0.2.grew hb1⟩
                        clear hSa0
                        refine wpH_run (i := 12) (v := (.pointer (some ⟨u0.heap.size, 0, none⟩))) (w' := u1) (by kernel_rfl) rfl rfl (by rfl) (by rw [hu1]; go_simp) hSa1 ?_
                        simp only [List.setIfInBounds_toArray, List.set_cons_zero, List.set_cons_succ]
                        obtain ⟨u2, hu2⟩ : ∃ u2, u2 = (u1.setCell ⟨u0.heap.size, 0, none⟩ (.int .i64 (pN : Int))).setCell ⟨u0.heap.size, 1, none⟩ (.string (str ll)) := ⟨_, rfl⟩
                        have gf := g0.fill (x := (pN : Int)) (s := str ll)
                        rw [← hu1] at gf
                        dsimp only at gf
                        rw [← hu2] at gf
                        obtain ⟨g2, hB2, hb2⟩ := gf
                        have hf0 : u1.frozen? ⟨u0.heap.size, 0, none⟩ = false := by rw [hu1]; exact (Blk.new u0 _ _).free 0
                        have hf1 : u1.frozen? ⟨u0.heap.size, 1, none⟩ = false := by rw [hu1]; exact (Blk.new u0 _ _).free 1
                        have hk0 : u1.cell? ⟨u0.heap.size, 0, none⟩ = some (.int .i64 0) := by rw [hu1]; exact (Blk.new u0 _ _).cell 0
                        have hk1 : u1.cell? ⟨u0.heap.size, 1, none⟩ = some (.string ⟨#[]⟩) := by rw [hu1]; exact (Blk.new u0 _ _).cell 1
                        have hS9 : (fun v => (v.cell? ⟨gr, k * 2, none⟩ = some (.int .i64 (pN : Int)) ∧ v.cell? ⟨gr, k * 2 + 1, none⟩ = some (.slice (some pp) zz d)) ∧ Byt v (.slice (some pp) zz d) ll) u2 := ⟨⟨cell_grew HC9.out.1.1 hb2, cell_grew HC9.out.1.2 hb2⟩, HC9.out.2.grew hb2⟩
                        refine wpH_store (i := 13) (w' := u2) (by kernel_rfl) rfl rfl (by rfl) (by rw [hu2]; go_simp) hS9 ?_
                        clear hSa1 hS9 hf0 hf1 hk0 hk1 hu1 hb1 hu2 g0
                        refine wpAnyH_done (by kernel_rfl) ?_ _
                        obtain ⟨CB, hCB⟩ : ∃ CB, CB = u0.heap.size := ⟨_, rfl⟩
                        rw [← hCB] at hB2 ⊢
                        have HSZ : Hid (CB = u0.heap.size ∧ wr.heap.size ≤ u0.heap.size) := Lib.hid ⟨hCB, hsz0⟩

                        have hne : lv.ownBlock ≠ some CB := fun e => by
                          have := (HS.out.ag.wt.row.lt e).2
                          have := HSZ.out
                          omega
                        have hg3 := grow_alloc (Below.refl u2.heap.size u2) (.cells #[.int .i64 (pN : Int), .string (str ll)] 47)
                        obtain ⟨v', u4, hrun, g4, hkeep⟩ := (g2.grew hg3).push3 (Blk.new u2 _ _) (by have := HNB.out; rw [List.length_take]; omega)
                        have hB4 := hkeep CB _ _ (hB2.grew hg3) hne
                        rw [HTK.out] at g4
                        obtain ⟨Av, cv, ev⟩ := g4.ag.wt.row.form
                        obtain ⟨q8, hq8⟩ : ∃ q8, q8 = (g.take (k + 1)).length := ⟨_, rfl⟩
                        rw [← hq8] at ev
                        clear hq8
                        subst ev
                        have c20 := hB2.cell 0
                        have c21 := hB2.cell 1
                        have HRUN := Lib.hid hrun
                        have HS4 := Lib.hid (And.intro g4 hB4)
                        have k1 := g4.box.cell 1
                        clear hg3 hrun g4 hkeep hB4 g2 hB2 hb2 hCB HS HC HC9
                        go_wp2_with (at_builtin; refine Lib.wpList_append_run _ rfl (.tmp 175) (.tmp 177) 45 45 rfl _ _ rfl rfl _ u4 HRUN.out ?_)
                        refine (Read_dk HS4.out.1.ag.st.dk ((F : Int) + ((nx + k : Nat) : Int)) (by rw [HAP6.out.loose]; decide) HRDY.out).mono ?_
                        rintro r w5 ⟨gR, cR, rfl, ho5, _, hb5⟩
                        rw [HF6.out.z, HSLOT.out] at ho5
                        rw [HF6.out.z]
                        have HS5 := Lib.hid (HS4.out.1.grew hb5)
                        have HC5 := Lib.hid (And.intro (Byt.of_own' ho5) (And.intro (HS5.out.box.cell 3) (And.intro ((HS4.out.2.grew hb5).cell 0) ((HS4.out.2.grew hb5).cell 1))))
                        clear ho5 hb5 HS4 k1 c20 c21
                        go_wp2_with fail
                        refine wp_region_H (fun v => Byt v (.slice (some ⟨gR, 0, none⟩) z cR) SB ∧ v.cell? ⟨w.heap.size, 3, none⟩ = some (.int .i64 E) ∧ v.cell? ⟨CB, 0, none⟩ = some (.int .i64 (pN : Int)) ∧ v.cell? ⟨CB, 1, none⟩ = some (.string (str ll))) (by kernel_rfl) (fun u5 hu5 => ?_)
                        have hSb0 : (fun v => Byt v (.slice (some ⟨gR, 0, none⟩) z cR) SB ∧ v.cell? ⟨w.heap.size, 3, none⟩ = some (.int .i64 E) ∧ v.cell? ⟨CB, 0, none⟩ = some (.int .i64 (pN : Int)) ∧ v.cell? ⟨CB, 1, none⟩ = some (.string (str ll))) u5 := by subst hu5; exact ⟨HC5.out.1.drew, HC5.out.2⟩
                        have g5 := HS5.out.drew
                        rw [← hu5] at g5
                        clear hu5
                        refine wpH_take (i := 0) (v := ?_) rfl rfl (by kernel_rfl) (by kernel_rfl) (by kernel_rfl) (fun _ _ _ h => h) (Or.inl ⟨by rfl, ?_⟩) hSb0 ?_
                        rotate_left
                        · (intro w_ hw_; go_simp; try with_reducible rfl)
                        simp only [List.setIfInBounds_toArray, List.set_cons_zero, List.set_cons_succ]
                        refine wpH_take (i := 1) (v := ?_) rfl rfl (by kernel_rfl) (by kernel_rfl) (by kernel_rfl) (fun _ _ _ h => h) (Or.inl ⟨by rfl, ?_⟩) hSb0 ?_
                        rotate_left
                        · (intro w_ hw_; go_simp; try with_reducible rfl)
                        simp only [List.setIfInBounds_toArray, List.set_cons_zero, List.set_cons_succ]
                        refine wpH_take (i := 2) (v := ?_) rfl rfl (by kernel_rfl) (by kernel_rfl) (by kernel_rfl) (fun _ _ _ h => h) (Or.inl ⟨by rfl, ?_⟩) hSb0 ?_
                        rotate_left
                        · (intro w_ hw_; go_simp; try with_reducible rfl)
                        simp only [List.setIfInBounds_toArray, List.set_cons_zero, List.set_cons_succ]
                        refine wpH_take (i := 3) (v := ?_) rfl rfl (by kernel_rfl) (by kernel_rfl) (by kernel_rfl) (fun _ _ _ h => h) (Or.inl ⟨by rfl, ?_⟩) hSb0 ?_
                        rotate_left
                        · (intro w_ hw_; go_simp; try with_reducible rfl)
                        simp only [List.setIfInBounds_toArray, List.set_cons_zero, List.set_cons_succ]
                        refine wpH_take (i := 4) (v := (.string (str SB))) rfl rfl (by kernel_rfl) (by kernel_rfl) (by kernel_rfl) (fun _ _ _ h => h) (Or.inl ⟨by rfl, ?_⟩) hSb0 ?_
                        · (intro w_ hw_; exact exec_convert 42 9 (.tmp 191) rfl rfl (hw_.1.strv))
                        simp only [List.setIfInBounds_toArray, List.set_cons_zero, List.set_cons_succ]
                        refine wpH_take (i := 5) (v := ?_) rfl rfl (by kernel_rfl) (by kernel_rfl) (by kernel_rfl) (fun _ _ _ h => h) (Or.inl ⟨by rfl, ?_⟩) hSb0 ?_
                        rotate_left
                        · (intro w_ hw_; go_simp; try with_reducible rfl)
                        simp only [List.setIfInBounds_toArray, List.set_cons_zero, List.set_cons_succ]
                        refine wpH_take (i := 6) (v := ?_) rfl rfl (by kernel_rfl) (by kernel_rfl) (by kernel_rfl) (fun _ _ _ h => h) (Or.inl ⟨by rfl, ?_⟩) hSb0 ?_
                        rotate_left
                        · (intro w_ hw_; go_simp; try with_reducible rfl)
                        simp only [List.setIfInBounds_toArray, List.set_cons_zero, List.set_cons_succ]
                        refine wpH_take (i := 7) (v := ?_) rfl rfl (by kernel_rfl) (by kernel_rfl) (by kernel_rfl) (fun _ _ _ h => h) (Or.inl ⟨by rfl, ?_⟩) hSb0 ?_
                        rotate_left
                        · (intro w_ hw_; (have q2 := hw_.2.1; have q3 := hw_.2.2.1; have q4 := hw_.2.2.2; clear hw_); go_simp; try with_reducible rfl)
                        simp only [List.setIfInBounds_toArray, List.set_cons_zero, List.set_cons_succ]
                        refine wpH_take (i := 8) (v := ?_) rfl rfl (by kernel_rfl) (by kernel_rfl) (by kernel_rfl) (fun _ _ _ h => h) (Or.inl ⟨by rfl, ?_⟩) hSb0 ?_
                        rotate_left
                        · (intro w_ hw_; go_simp; try with_reducible rfl)
                        simp only [List.setIfInBounds_toArray, List.set_cons_zero, List.set_cons_succ]
                        refine wpH_take (i := 9) (v := ?_) rfl rfl (by kernel_rfl) (by kernel_rfl) (by kernel_rfl) (fun _ _ _ h => h) (Or.inl ⟨by rfl, ?_⟩) hSb0 ?_
                        rotate_left
                        · (intro w_ hw_; (have q2 := hw_.2.1; have q3 := hw_.2.2.1; have q4 := hw_.2.2.2; clear hw_); go_simp; try with_reducible rfl)
                        simp only [List.setIfInBounds_toArray, List.set_cons_zero, List.set_cons_succ]
                        refine wpH_take (i := 10) (v := ?_) rfl rfl (by kernel_rfl) (by kernel_rfl) (by kernel_rfl) (fun _ _ _ h => h) (Or.inl ⟨by rfl, ?_⟩) hSb0 ?_
                        rotate_left
                        · (intro w_ hw_; go_simp; try with_reducible rfl)
                        simp only [List.setIfInBounds_toArray, List.set_cons_zero, List.set_cons_succ]
                        refine wpH_take (i := 11) (v := ?_) rfl rfl (by kernel_rfl) (by kernel_rfl) (by kernel_rfl) (fun _ _ _ h => h) (Or.inl ⟨by rfl, ?_⟩) hSb0 ?_
                        rotate_left
                        · (intro w_ hw_; go_simp; try with_reducible rfl)
                        simp only [List.setIfInBounds_toArray, List.set_cons_zero, List.set_cons_succ]
                        refine wpH_take (i := 12) (v := ?_) rfl rfl (by kernel_rfl) (by kernel_rfl) (by kernel_rfl) (fun _ _ _ h => h) (Or.inl ⟨by rfl, ?_⟩) hSb0 ?_
                        rotate_left
                        · (intro w_ hw_; (have q2 := hw_.2.1; have q3 := hw_.2.2.1; have q4 := hw_.2.2.2; clear hw_); go_simp; try with_reducible rfl)
                        simp only [List.setIfInBounds_toArray, List.set_cons_zero, List.set_cons_succ]
                        refine wpH_take (i := 13) (v := ?_) rfl rfl (by kernel_rfl) (by kernel_rfl) (by kernel_rfl) (fun _ _ _ h => h) (Or.inl ⟨by rfl, ?_⟩) hSb0 ?_
                        rotate_left
                        · (intro w_ hw_; go_simp; try with_reducible rfl)
                        simp only [List.setIfInBounds_toArray, List.set_cons_zero, List.set_cons_succ]
                        refine wpH_take (i := 14) (v := ?_) rfl rfl (by kernel_rfl) (by kernel_rfl) (by kernel_rfl) (fun _ _ _ h => h) (Or.inl ⟨by rfl, ?_⟩) hSb0 ?_
                        rotate_left
                        · (intro w_ hw_; go_simp; try with_reducible rfl)
                        simp only [List.setIfInBounds_toArray, List.set_cons_zero, List.set_cons_succ]
                        have hsec := HSEC.out u5
                        refine wpH_callv (i := 15) (by kernel_rfl) rfl rfl (by rfl) (hsec) (by go_simp) ?_
                        rintro v9 u6 ⟨ho9, hb9⟩
                        have hSb1 : (fun v => Byt v (.slice (some ⟨gR, 0, none⟩) z cR) SB ∧ v.cell? ⟨w.heap.size, 3, none⟩ = some (.int .i64 E) ∧ v.cell? ⟨CB, 0, none⟩ = some (.int .i64 (pN : Int)) ∧ v.cell? ⟨CB, 1, none⟩ = some (.string (str ll))) u6 := ⟨hSb0.1.grew hb9, cell_grew hSb0.2.1 hb9, cell_grew hSb0.2.2.1 hb9, cell_grew hSb0.2.2.2 hb9⟩
                        clear hSb0
                        refine ⟨hSb1, ?_⟩
                        simp only [List.setIfInBounds_toArray, List.set_cons_zero, List.set_cons_succ]
                        have hst := (Byt.of_own ho9 HSN.out).strw
                        have g6 := g5.grew hb9
                        clear hsec hb9 g5
                        have hSb2 : (fun v => Byt v (.slice (some ⟨gR, 0, none⟩) z cR) SB ∧ v.cell? ⟨w.heap.size, 3, none⟩ = some (.int .i64 E) ∧ v.cell? ⟨CB, 0, none⟩ = some (.int .i64 (pN : Int)) ∧ v.cell? ⟨CB, 1, none⟩ = some (.string (str ll))) u6 := hSb1
                        clear hSb1
                        refine wpH_run (i := 16) (v := (.string (str SB))) (w' := u6) (by kernel_rfl) rfl rfl (by rfl) (by exact exec_convert 42 9 (.tmp 203) rfl rfl hst) hSb2 ?_
                        simp only [List.setIfInBounds_toArray, List.set_cons_zero, List.set_cons_succ]
                        clear hst ho9
                        refine wpH_take (i := 17) (v := ?_) rfl rfl (by kernel_rfl) (by kernel_rfl) (by kernel_rfl) (fun _ _ _ h => h) (Or.inl ⟨by rfl, ?_⟩) hSb2 ?_
                        rotate_left
                        · (intro w_ hw_; go_simp; try with_reducible rfl)
                        simp only [List.setIfInBounds_toArray, List.set_cons_zero, List.set_cons_succ]
                        refine wpH_take (i := 18) (v := ?_) rfl rfl (by kernel_rfl) (by kernel_rfl) (by kernel_rfl) (fun _ _ _ h => h) (Or.inl ⟨by rfl, ?_⟩) hSb2 ?_
                        rotate_left
                        · (intro w_ hw_; go_simp; try with_reducible rfl)
                        simp only [List.setIfInBounds_toArray, List.set_cons_zero, List.set_cons_succ]
                        have HS6 := Lib.hid g6
                        clear g6
                        clear hSb2
                        refine wpAnyH_done (by kernel_rfl) ?_ _

                        go_wp2
                        go_round
                        case rel => exact ⟨k + 1, by omega, by go_num, by go_num, HS6⟩
                        case measure => simp only [intOf]; omega
                      · obtain rfl : nr = k := by omega
                        have hk3 : ¬ (nr : Int) < nr := by omega
                        have hs := HS.out
                        rw [List.take_of_length_le (by rw [← HNG.out]; exact Nat.le_refl _)] at hs
                        clear HS
                        have hrl : rows.length ≤ 8 := by have := HRW.out.1; omega
                        have hg8 := grow_alloc (Below.refl _ wr) (.cells #[lv] 45)
                        obtain ⟨v', w11, hrun, h9⟩ := (hs.grew hg8).close (Blk.new wr _ _) (by omega)
                        obtain ⟨Al, cl, rfl⟩ := hs.ag.wt.row.form
                        have HRUN := Lib.hid hrun
                        have HLN : Hid ((L6.count : Int) - L6.next = (C : Int) - ((nx : Int) + (nr : Int))) := Lib.hid (by rw [HF6.out.c, HLN6.out]; omega)
                        have hw1 : IntKind.i64.wrap ((C : Int) - ((nx + nr : Nat) : Int)) = (C : Int) - ((nx : Int) + (nr : Int)) := by rw [IntKind.wrap_i64]; omega
                        have hw2 : IntKind.i64.wrap ((C : Int) - ((nx : Int) + (nr : Int))) = (C : Int) - ((nx : Int) + (nr : Int)) := by rw [IntKind.wrap_i64]; omega
                        clear hs hg8 hrun
                        go_wp2_with (at_builtin; refine Lib.wpList_append_run _ rfl (.tmp 209) (.tmp 211) 37 37 rfl _ _ rfl rfl v' w11 HRUN.out ?_)
                        refine wp_region_H (fun v => v.cell? ⟨w.heap.size, 2, none⟩ = some (.int .i64 C) ∧ LSt w v b m vl6 D6 G L6) (by kernel_rfl) (fun u5 hu5 => ?_)
                        have hSc0 : (fun v => v.cell? ⟨w.heap.size, 2, none⟩ = some (.int .i64 C) ∧ LSt w v b m vl6 D6 G L6) u5 := by subst hu5; exact ⟨h9.box.cell 2, h9.ag.st.drew⟩
                        have g5 := h9.drew
                        rw [← hu5] at g5
                        clear hu5 h9
                        refine wpH_take (i := 0) (v := ?_) rfl rfl (by kernel_rfl) (by kernel_rfl) (by kernel_rfl) (fun _ _ _ h => h) (Or.inl ⟨by rfl, ?_⟩) hSc0 ?_
                        rotate_left
                        · (intro w_ hw_; go_simp; try with_reducible rfl)
                        simp only [List.setIfInBounds_toArray, List.set_cons_zero, List.set_cons_succ]
                        refine wpH_take (i := 2) (v := ?_) rfl rfl (by kernel_rfl) (by kernel_rfl) (by kernel_rfl) (fun _ _ _ h => h) (Or.inl ⟨by rfl, ?_⟩) hSc0 ?_
                        rotate_left
                        · (intro w_ hw_; go_simp; try with_reducible rfl)
                        simp only [List.setIfInBounds_toArray, List.set_cons_zero, List.set_cons_succ]
                        refine wpH_take (i := 3) (v := ?_) rfl rfl (by kernel_rfl) (by kernel_rfl) (by kernel_rfl) (fun _ _ _ h => h) (Or.inl ⟨by rfl, ?_⟩) hSc0 ?_
                        rotate_left
                        · (intro w_ hw_; (have q2 := hw_.1; clear hw_); go_simp; try with_reducible rfl)
                        simp only [List.setIfInBounds_toArray, List.set_cons_zero, List.set_cons_succ]
                        refine wpH_take (i := 4) (v := ?_) rfl rfl (by kernel_rfl) (by kernel_rfl) (by kernel_rfl) (fun _ _ _ h => h) (Or.inl ⟨by rfl, ?_⟩) hSc0 ?_
                        rotate_left
                        · (intro w_ hw_; go_simp; try with_reducible rfl)
                        simp only [List.setIfInBounds_toArray, List.set_cons_zero, List.set_cons_succ]
                        refine wpH_take (i := 5) (v := ?_) rfl rfl (by kernel_rfl) (by kernel_rfl) (by kernel_rfl) (fun _ _ _ h => h) (Or.inl ⟨by rfl, ?_⟩) hSc0 ?_
                        rotate_left
                        · (intro w_ hw_; go_simp; try with_reducible rfl)
                        simp only [List.setIfInBounds_toArray, List.set_cons_zero, List.set_cons_succ]
                        have hlv : Calls Try.prog 20 #[.pointer (some ⟨G, 0, none⟩)] u5 fun e w' => ∃ v, e = .returned v ∧ v = .int .i64 ((L6.count : Int) - L6.next) ∧ Below u5.heap.size u5 w' := (Left_any hSc0.2.log hSc0.2.ok).mono (by rintro e w' ⟨rfl, hb⟩; exact ⟨_, rfl, rfl, hb⟩)
                        refine wpH_callv (i := 1) (by kernel_rfl) rfl rfl (by rfl) (hlv) (by go_simp) ?_
                        rintro _ u6 ⟨rfl, hb9⟩
                        have hSc1 : (fun v => v.cell? ⟨w.heap.size, 2, none⟩ = some (.int .i64 C) ∧ LSt w v b m vl6 D6 G L6) u6 := ⟨cell_grew hSc0.1 hb9, hSc0.2.grew hb9⟩
                        clear hSc0
                        refine ⟨hSc1, ?_⟩
                        simp only [List.setIfInBounds_toArray, List.set_cons_zero, List.set_cons_succ]
                        have g6 := g5.grew hb9
                        clear hlv hb9 g5
                        rw [HLN.out]
                        refine wpH_take (i := 6) (v := ?_) rfl rfl (by kernel_rfl) (by kernel_rfl) (by kernel_rfl) (fun _ _ _ h => h) (Or.inl ⟨by rfl, ?_⟩) hSc1 ?_
                        rotate_left
                        · (intro w_ hw_; go_simp; try with_reducible rfl)
                        simp only [List.setIfInBounds_toArray, List.set_cons_zero, List.set_cons_succ]
                        refine wpH_take (i := 7) (v := ?_) rfl rfl (by kernel_rfl) (by kernel_rfl) (by kernel_rfl) (fun _ _ _ h => h) (Or.inl ⟨by rfl, ?_⟩) hSc1 ?_
                        rotate_left
                        · (intro w_ hw_; go_simp; try with_reducible rfl)
                        simp only [List.setIfInBounds_toArray, List.set_cons_zero, List.set_cons_succ]
                        refine wpH_take (i := 8) (v := ?_) rfl rfl (by kernel_rfl) (by kernel_rfl) (by kernel_rfl) (fun _ _ _ h => h) (Or.inl ⟨by rfl, ?_⟩) hSc1 ?_
                        rotate_left
                        · (intro w_ hw_; go_simp; try with_reducible rfl)
                        simp only [List.setIfInBounds_toArray, List.set_cons_zero, List.set_cons_succ]
                        have hdd : Calls Try.prog 21 #[.pointer (some ⟨G, 0, none⟩)] u6 fun e w' => ∃ v, e = .returned v ∧ v = .bool false ∧ Below u6.heap.size u6 w' := (Dead_any hSc1.2.log).mono (by rintro e w' ⟨rfl, rfl⟩; exact ⟨_, rfl, by rw [HAP6.out.live], Below.refl _ _⟩)
                        refine wpH_callv (i := 9) (by kernel_rfl) rfl rfl (by rfl) (hdd) (by go_simp) ?_
                        rintro _ u7 ⟨rfl, hb9⟩
                        have hSc2 : (fun v => v.cell? ⟨w.heap.size, 2, none⟩ = some (.int .i64 C) ∧ LSt w v b m vl6 D6 G L6) u7 := ⟨cell_grew hSc1.1 hb9, hSc1.2.grew hb9⟩
                        clear hSc1
                        refine ⟨hSc2, ?_⟩
                        simp only [List.setIfInBounds_toArray, List.set_cons_zero, List.set_cons_succ]
                        have g7 := g6.grew hb9
                        clear hdd hb9 g6
                        refine wpH_take (i := 10) (v := ?_) rfl rfl (by kernel_rfl) (by kernel_rfl) (by kernel_rfl) (fun _ _ _ h => h) (Or.inl ⟨by rfl, ?_⟩) hSc2 ?_
                        rotate_left
                        · (intro w_ hw_; go_simp; try with_reducible rfl)
                        simp only [List.setIfInBounds_toArray, List.set_cons_zero, List.set_cons_succ]
                        have HG9 := Lib.hid g7.ag.st
                        have HG10 := Lib.hid g7.ag.wt
                        have HX9 := Lib.hid g7.box
                        clear g7
                        clear hSc2
                        refine wpAnyH_done (by kernel_rfl) ?_ _

                        go_wp2
                        exact ⟨⟨i + 1, nx + nr, D6, L6, vl6, rows ++ [g], by omega, by go_num, rfl, HLN6, HG9, HAP6, HF6, HG10, HX9, HRW2⟩, by simp only [intOf]; omega⟩
                · rw [if_pos hx0] at hq
                  have HNO := Lib.hid (HST.out.2.1 (by rw [hq]; exact hx0))
                  clear HST
                  rcases hin with h0 | h1 | h3
                  · exact absurd h0 hx0
                  · subst h1
                    subst hq
                    have HG9 := Lib.hid HAG.out.ag.st
                    have HG10 := Lib.hid HAG.out.ag.wt
                    have HX9 := Lib.hid HAG.out.box
                    have HAPN : Hid (Appd D6 L6 rows) := Lib.hid (by rw [HNO.out.1, HNO.out.2]; exact HAP.out)
                    have HNX : Hid (L6.next = nx) := Lib.hid (by rw [HNO.out.2]; exact HNXT.out)
                    have HRW3 : Hid (rows.length ≤ i + 1 ∧ BytesIn rows ∧ ∀ x ∈ rows, x.length ≤ 8) := Lib.hid ⟨by have := HRW.out.1; omega, HRW.out.2⟩
                    clear HAG HNO
                    go_wp2
                    exact ⟨⟨i + 1, nx, D6, L6, vl6, rows, by omega, by go_num, rfl, HNX, HG9, HAPN, HF6, HG10, HX9, HRW3⟩, by simp only [intOf]; omega⟩
                  · subst h3
                    subst hq
                    have HG9 := Lib.hid HAG.out.ag.st
                    have HG10 := Lib.hid HAG.out.ag.wt
                    have HX9 := Lib.hid HAG.out.box
                    have HAPN : Hid (Appd D6 L6 rows) := Lib.hid (by rw [HNO.out.1, HNO.out.2]; exact HAP.out)
                    have HNX : Hid (L6.next = nx) := Lib.hid (by rw [HNO.out.2]; exact HNXT.out)
                    have HRW3 : Hid (rows.length ≤ i + 1 ∧ BytesIn rows ∧ ∀ x ∈ rows, x.length ≤ 8) := Lib.hid ⟨by have := HRW.out.1; omega, HRW.out.2⟩
                    clear HAG HNO
                    go_wp2
                    exact ⟨⟨i + 1, nx, D6, L6, vl6, rows, by omega, by go_num, rfl, HNX, HG9, HAPN, HF6, HG10, HX9, HRW3⟩, by simp only [intOf]; omega⟩
    · obtain rfl : n = i := by omega
      have hk3 : ¬ (n : Int) < n := by omega
      have k1 := HX.out.cell 1
      have k2 := HX.out.cell 2
      have k3 := HX.out.cell 3
      have hgs := HAP.out.has.groups
      rw [HFX.out.f, HFX.out.c, HFX.out.e] at hgs
      have HOK2 : Hid (okAt D F C = true) := Lib.hid (by have := HOK.out.1; unfold okAt at this ⊢; rw [HFX.out.s]; exact this)
      have HRD := Lib.hid (LRead_any HS.out.dk.disk F C E HOK2.out HOK.out.2 (by rw [HAP.out.loose]; decide) HAP.out.has.up rows hgs)
      have hla := HAP.out.latest (by rw [HFX.out.c]; omega)
      rw [HFX.out.f, HFX.out.c, HFX.out.e, HNXT.out] at hla
      have HLA := Lib.hid hla
      clear hgs hla
      go_wp2_with fail
      refine HRD.out.mono ?_
      rintro r w7 ⟨gv, rfl, ⟨B0, hG⟩, hb8⟩
      have HS7 := Lib.hid (HS.out.grew hb8)
      have HX7 := Lib.hid (HX.out.grew hb8)
      have HG := Lib.hid hG
      have HW7 := Lib.hid (HWT.out.grew hb8)
      clear hG hb8 HRD HS HX HWT k1 k2 k3 k4
      have k1 := HX7.out.cell 1
      have k2 := HX7.out.cell 2
      have k3 := HX7.out.cell 3
      have HLT2 := Lib.hid (Latest_any HS7.out.dk.disk F C HOK2.out (by rw [HAP.out.loose]; decide) HAP.out.has.up)
      rw [HLA.out] at HLT2
      go_wp2_with fail
      refine HLT2.out.mono ?_
      rintro r w8 ⟨rfl, hb8⟩
      have HX8 := Lib.hid (HX7.out.grew hb8)
      obtain ⟨Bo, _, ho, _⟩ := HW7.out.out
      have HTD := Lib.hid (told_any (HG.out.grew hb8) (ho.grew hb8) HRW.out.2.1 (by have := HRW.out.1; omega) (fun g hg => by have := HRW.out.2.2 g hg; omega))
      have HB8 := Lib.hid (grow HS7.out.dk.low hb8)
      clear ho hb8 HLT2 HS7 HX7 HG HW7 HAP k1 k2 k3 HLA
      have k3 := HX8.out.cell 3
      by_cases hx0 : nx = 0
      · subst hx0
        go_wp2_with fail
        refine HTD.out.mono ?_
        rintro r w9 ⟨he, hb⟩
        rw [decide_eq_true trivial] at he
        subst he
        have HB9 := Lib.hid (grow HB8.out hb)
        clear hb HTD
        go_wp2_with fail
        refine (LRoom_any z w9).mono ?_
        rintro r w10 ⟨rfl, hw⟩
        subst hw
        rw [HLR.out]
        go_wp2_with fail
        refine (awake_any _).mono ?_
        rintro r w11 ⟨rfl, hb⟩
        have HB := Lib.hid (grow HB9.out hb)
        clear hb
        go_wp2
        go_ret
        exact ⟨rfl, HB.out⟩
      · rw [if_neg hx0]
        have hx1 : (0 : Int) < nx := by omega
        go_wp2_with fail
        refine HTD.out.mono ?_
        rintro r w9 ⟨he, hb⟩
        rw [decide_eq_true trivial] at he
        subst he
        have HB9 := Lib.hid (grow HB8.out hb)
        clear hb HTD
        go_wp2_with fail
        refine (LRoom_any z w9).mono ?_
        rintro r w10 ⟨rfl, hw⟩
        subst hw
        rw [HLR.out]
        go_wp2_with fail
        refine (awake_any _).mono ?_
        rintro r w11 ⟨rfl, hb⟩
        have HB := Lib.hid (grow HB9.out hb)
        clear hb
        go_wp2
        go_ret
        exact ⟨rfl, HB.out⟩
theorem Appends_any (A : Option Addr) (ls : List (List PutV)) (n cp mo : Nat) (f c e : Int) (w : World) (hn : ls.length = n) (hr : PutRows w w.heap.size A ls) (hmo : mo < 256)
    (hf : -9223372036854775808 ≤ f ∧ f ≤ 9223372036854775807) (hc : -9223372036854775808 ≤ c ∧ c ≤ 9223372036854775807) :
    Calls Try.prog 3 #[.agg #[.int .u8 mo, .int .i64 f, .int .i64 c, .int .i64 e, .slice A n cp]] w fun e w' => e = .returned (.bool true) ∧ Below w.heap.size w w' := by
  cases hlb : lightB ls with
  | false => exact Appends_heavy A ls n cp mo f c e w hn hr hlb
  | true =>
    obtain ⟨z, hz⟩ : ∃ z : Nat, (z : Int) = 64 + (mo : Int) % 64 := ⟨64 + mo % 64, by omega⟩
    cases hrb : rightB f c e with
    | false => exact Appends_wrong A ls n cp mo z f c e w hn hr hz hmo hf hc hlb hrb
    | true =>
      have h := of_decide_eq_true hrb
      obtain ⟨F, rfl⟩ := Int.eq_ofNat_of_zero_le (show 0 ≤ f by omega)
      obtain ⟨C, rfl⟩ := Int.eq_ofNat_of_zero_le (show 0 ≤ c by omega)
      obtain ⟨E, rfl⟩ := Int.eq_ofNat_of_zero_le (show 0 ≤ e by omega)
      exact Appends_right A ls n cp mo z F C E w hn hr hz hmo hlb hrb
end Go.Proofs.Ytpomfokpmbblkaa
