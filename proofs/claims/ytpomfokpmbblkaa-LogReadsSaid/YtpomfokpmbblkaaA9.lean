/- Walks: LogDead. -/
import Derived.Test.YtpomfokpmbblkaaA8
import Derived.Test.YtpomfokpmbblkaaA5
namespace Go.Proofs.Ytpomfokpmbblkaa
open Go.RowKit Go.Maps
set_option maxRecDepth 8000

theorem crashed_nil (z : Nat) (f : Int → List Nat) (L : List (Int × List Nat)) : ∀ k a, crashed z [] f L k a = f a
  | 0, _ => rfl
  | k + 1, a => by
    rcases Nat.lt_or_ge k L.length with hk | hk
    · rw [crashed_step hk]
      have hc : cutAt z [] k L.length = 0 := by
        unfold cutAt
        rw [List.drop_nil]
        split
        · exact Nat.mul_zero _
        · rfl
      rw [hc, List.take_zero, List.drop_zero, List.nil_append]
      unfold upd
      split
      · rename_i h; rw [h]; exact crashed_nil z f L k _
      · exact crashed_nil z f L k a
    · rw [crashed_over hk]
      exact crashed_nil z f L k a
theorem tells_crash0 (D : Dsk) (a : Int) : (D.crash []).tells a = D.fast a := by
  show crashed D.size [] D.fast D.loose D.loose.length a = _
  exact crashed_nil _ _ _ _ _
theorem rightE_not4 (D : Dsk) (L : Lg) (g : List (Int × List Nat)) : rightE D L g ≠ 4 := by
  unfold rightE
  split
  · decide
  · split
    · decide
    · split
      · decide
      · split <;> decide

def dL0 : Lg := ⟨0, 12, 1, 0, false⟩
/-- A log of LogDead's play: as it was started, its disk armed; or dead. -/
def DeadSt (D : Dsk) (L : Lg) (died : Bool) : Prop :=
  (died = false ∧ D = (Dsk.new 12 64).arm 1 ∧ L = dL0) ∨
  (died = true ∧ L.dead = true ∧ D.fast = (fun _ => List.replicate 64 0) ∧ D.size = 64 ∧ D.sectors = 12 ∧ D.loose.length ≤ 8)
theorem dead_has : LogHas (Dsk.new 12 64) dL0 [] :=
  LogHas.start rfl (by decide) ⟨by decide, by decide, by decide, by decide⟩ rfl (by decide) (fun i _ => by
    show slotEp (List.replicate 64 0) i ≠ 1
    rw [slotEp_zeros (by decide)]; decide)
theorem DeadSt.lo {D : Dsk} {L : Lg} {died : Bool} (h : DeadSt D L died) : D.loose.length ≤ 8 := by
  rcases h with ⟨_, rfl, _⟩ | ⟨_, _, _, _, _, h⟩
  · exact Nat.zero_le _
  · exact h
theorem DeadSt.step {D : Dsk} {L : Lg} {died : Bool} (h : DeadSt D L died) (g : List (Int × List Nat)) (hb : ∀ c ∈ g, ∀ b ∈ c.2, b < 256) (hn : g.length ≤ 8) :
    (died = true → (app D L g).1 = 21) ∧ DeadSt (app D L g).2.1 (app D L g).2.2 (died || decide ((app D L g).1 = 4)) := by
  rcases h with ⟨rfl, rfl, rfl⟩ | ⟨rfl, hd, hf, hz, hs, hl⟩
  · refine ⟨by simp, ?_⟩
    rw [Bool.false_or]
    by_cases h0 : rightE ((Dsk.new 12 64).arm 1) dL0 g = 0
    · have hh : LogHas ((Dsk.new 12 64).arm 1) dL0 [] := dead_has.change rfl rfl rfl (fun _ => rfl)
      rcases hh.apps (g := g) (by decide) (by decide) hb h0 with ⟨_, _, _, _, q, _⟩ | ⟨q1, _, j, q2, q3, q4, q5⟩
      · rcases goApp_cases g ((Dsk.new 12 64).arm 1) dL0 rfl (by decide) (by have := (rightE_ok h0 hb (by decide) (by decide)).2.2.2; show 0 + 0 + g.length ≤ 12; have h3 : 0 + g.length ≤ 12 := this; omega) (rightE_ok h0 hb (by decide) (by decide)).2.2.1 with ⟨_, _, _, q | q⟩ | ⟨q1, _, j, q2, q3, q4, q5⟩
        · exact absurd q (by decide)
        · have : ((g.length : Int) + 1 < 1) := q
          omega
        · have e : app ((Dsk.new 12 64).arm 1) dL0 g = goApp ((Dsk.new 12 64).arm 1) dL0 g := by unfold app; rw [if_pos h0]
          rw [e, q1]
          refine .inr ⟨by decide, by rw [q5], by rw [q4]; rfl, by rw [q4]; rfl, by rw [q4]; rfl, ?_⟩
          rw [q4]
          show ([] ++ List.take j _).length ≤ 8
          rw [List.nil_append, List.length_take, wr_length, fl_length]; omega
      · rw [q1]
        refine .inr ⟨by decide, by rw [q5], by rw [q4]; rfl, by rw [q4]; rfl, by rw [q4]; rfl, ?_⟩
        rw [q4]
        show ([] ++ List.take j _).length ≤ 8
        rw [List.nil_append, List.length_take, wr_length, fl_length]; omega
    · have e : app ((Dsk.new 12 64).arm 1) dL0 g = (rightE ((Dsk.new 12 64).arm 1) dL0 g, (Dsk.new 12 64).arm 1, dL0) := by unfold app; rw [if_neg h0]
      rw [e]
      exact .inl ⟨decide_eq_false (fun h => rightE_not4 ((Dsk.new 12 64).arm 1) dL0 g h), rfl, rfl⟩
  · have e : app D L g = (21, D, L) := by
      have : rightE D L g = 21 := by unfold rightE; rw [if_pos hd]
      unfold app
      rw [this, if_neg (by decide)]
    rw [e]
    exact ⟨fun _ => rfl, .inr ⟨rfl, hd, hf, hz, hs, hl⟩⟩
/-- Behind the crash. -/
theorem DeadSt.end_ {D : Dsk} {L : Lg} {died : Bool} (h : DeadSt D L died) (g : List (Int × List Nat)) (hb : ∀ c ∈ g, ∀ b ∈ c.2, b < 256) :
    (died = true → (app (D.crash []) L g).1 = 21 ∧ (app (D.crash []) L g).2.2.dead = true ∧ grp (app (D.crash []) L g).2.1 0 1 12 0 [] [] = []) ∧ (app (D.crash []) L g).2.1.down = false ∧ (app (D.crash []) L g).2.1.sectors = 12 := by
  rcases h with ⟨rfl, rfl, rfl⟩ | ⟨rfl, hd, hf, hz, hs, hl⟩
  · refine ⟨by simp, ?_⟩
    have hh : LogHas (((Dsk.new 12 64).arm 1).crash []) dL0 [] := dead_has.change rfl rfl rfl (fun a => tells_crash0 _ a)
    by_cases h0 : rightE (((Dsk.new 12 64).arm 1).crash []) dL0 g = 0
    · rcases hh.apps (g := g) (by decide) (by decide) hb h0 with ⟨_, q, _, _, _, _, q2, _⟩ | ⟨_, q, _⟩
      · exact ⟨q.up, q2⟩
      · exact absurd q (by decide)
    · have e : app (((Dsk.new 12 64).arm 1).crash []) dL0 g = (rightE (((Dsk.new 12 64).arm 1).crash []) dL0 g, ((Dsk.new 12 64).arm 1).crash [], dL0) := by unfold app; rw [if_neg h0]
      rw [e]
      exact ⟨rfl, rfl⟩
  · have e : app (D.crash []) L g = (21, D.crash [], L) := by
      have : rightE (D.crash []) L g = 21 := by unfold rightE; rw [if_pos hd]
      unfold app
      rw [this, if_neg (by decide)]
    rw [e]
    refine ⟨fun _ => ⟨rfl, hd, ?_⟩, rfl, hs⟩
    show grp (D.crash []) 0 1 (11 + 1) 0 [] [] = []
    rw [grp_succ, tells_crash0, hf]
    exact grpL_other (by rw [slotEp_zeros (by decide)]; decide) _ _ _ _
theorem putLen_le {room : Nat} (h : room ≤ 5000) (x : PutV) : putLen room x ≤ 5000 := by unfold putLen; split <;> omega
theorem chOfPut_bytes (room : Nat) {w : World} {N : Nat} {A : Option Addr} {l : List PutV} (h : Puts w N A l) : ∀ c ∈ l.map (chOfPut room), ∀ b ∈ c.2, b < 256 := by
  intro c hc b hb
  obtain ⟨x, hx, rfl⟩ := List.mem_map.1 hc
  obtain ⟨k, hk, rfl⟩ := List.getElem_of_mem hx
  obtain ⟨p, _, _, hB, _⟩ := h.get hk
  have hb' : b ∈ List.replicate (putLen room l[k]) l[k].B := hb
  rw [List.eq_of_mem_replicate hb']; exact hB

section
variable {w0 v : World} {b m G : Nat} {vl : Value} {D : Dsk} {L : Lg}
theorem log_own {w : World} {b m G : Nat} {vl : Value} {D : Dsk} {L : Lg} (hl : LogIn w G b L) (hd : DiskAt w b m vl D) : G ∉ own b m vl := fun h => log_apart hl hd _ h rfl
/-- A step of the disk alone leaves the log. -/
theorem LSt.stepped (h : LSt w0 v b m vl D G L) {v' : World} {vl' : Value} {D' : Dsk} (hk : Dk w0 v' b m vl' D') (hs : Step v v' (own b m vl) (own b m vl')) : LSt w0 v' b m vl' D' G L :=
  ⟨hk, (hs.turn.block G (Blk.lt h.log) (log_own h.log h.dk.disk)).trans h.log, h.ok, h.gl⟩
theorem Arm_lst (h : LSt w0 v b m vl D G L) (n : Int) (hn : n ≤ 9223372036854775807) :
    Calls Try.prog 25 #[.pointer (some ⟨b, 0, none⟩), .int .i64 n] v fun e v' => e = .returned (.tuple #[]) ∧ LSt w0 v' b m vl (D.arm n) G L := by
  refine (Arm_dk h.dk n hn).mono ?_
  rintro e v' ⟨rfl, hk, hs⟩
  exact ⟨rfl, h.stepped hk hs⟩
theorem Crash_lst (h : LSt w0 v b m vl D G L) (hL : D.loose.length ≤ 1000000000) :
    Calls Try.prog 26 #[.pointer (some ⟨b, 0, none⟩), .slice none 0 0] v fun e v' => e = .returned (.tuple #[]) ∧ ∃ vl', LSt w0 v' b m vl' (D.crash []) G L := by
  refine (Crash_dk h.dk [] none 0 0 rfl hL (Nat.le_refl _) (IRd.nil _ _) (by simp)).mono ?_
  rintro e v' ⟨rfl, vl', hk, hs⟩
  exact ⟨rfl, vl', h.stepped hk hs⟩
end
/-- A group of puts is appended. -/
theorem append_puts {w0 v : World} {b m G : Nat} {vl : Value} {D : Dsk} {L : Lg} (h : LSt w0 v b m vl D G L) {gv : Value} {g : List (Int × List Nat)} (hc : Chg v gv g) (hn : g.length ≤ 8) (hL : D.loose.length ≤ 900000000) :
    Calls Try.prog 17 #[.pointer (some ⟨G, 0, none⟩), gv] v fun e v' => e = .returned (.int .i64 (app D L g).1) ∧ ∃ vl', LSt w0 v' b m vl' (app D L g).2.1 G (app D L g).2.2 ∧ Went v v' G b m vl vl' := by
  obtain ⟨A, c, e, _⟩ := hc.form
  subst e
  exact Append_st h rfl hc (by omega) hL
set_option maxHeartbeats 8000000 in
theorem Dead_play (A A2 : Option Addr) (ls : List (List PutV)) (l2 : List PutV) (n n2 c c2 : Nat) (w : World) (hn : ls.length = n) (hn2 : l2.length = n2) (hr : PutRows w w.heap.size A ls) (hr2 : Puts w w.heap.size A2 l2) :
    Calls Try.prog 6 #[.slice A n c, .slice A2 n2 c2] w fun e w' => e = .returned (.bool true) ∧ Below w.heap.size w w' := by
  have HR := Lib.hid hr
  have HR2 := Lib.hid hr2
  have HN := Lib.hid (And.intro hn hn2)
  have HLT := Lib.hid (light_any (.int .u8 0) (.int .i64 0) (.int .i64 0) (.int .i64 0) A ls n c w.heap.size w hn (Nat.le_refl _) hr)
  clear hn hn2 hr hr2
  cases hlb : lightB ls with
  | false =>
    rw [hlb] at HLT
    go_enter Try.func6, Try.ntmps6
    go_wp2_with fail
    refine HLT.out.mono ?_
    rintro e w1 ⟨rfl, hb⟩
    have HB := Lib.hid hb
    clear hb
    go_wp2
    go_ret
    exact ⟨rfl, HB.out⟩
  | true =>
    rw [hlb] at HLT
    have hl := of_decide_eq_true hlb
    have HL := Lib.hid hl
    clear hlb hl
    by_cases h8 : (8 : Int) < n2
    · go_enter Try.func6, Try.ntmps6
      go_wp2_with fail
      refine HLT.out.mono ?_
      rintro e w1 ⟨rfl, hb⟩
      have HB := Lib.hid hb
      clear hb
      go_wp2
      go_ret
      exact ⟨rfl, HB.out⟩
    · go_enter Try.func6, Try.ntmps6
      go_wp2_with fail
      refine HLT.out.mono ?_
      rintro e w1 ⟨rfl, hb⟩
      have HB := Lib.hid hb
      clear hb HLT
      go_wp2_with fail
      refine (New_dk w 12 64 (fun _ _ => trivial) HB.out (by decide) (by decide) (by decide) (by decide)).mono ?_
      rintro e w2 ⟨b, m, rfl, hk, -⟩
      have HK := Lib.hid hk
      clear hk HB
      go_wp2_with fail
      refine (Start_st HK.out 0 12 1 rfl rfl).mono ?_
      rintro e w3 ⟨G, rfl, hk, -, -⟩
      have HK := Lib.hid hk
      clear hk
      go_wp2_with fail
      refine (Arm_lst HK.out 1 (by decide)).mono ?_
      rintro e w4 ⟨rfl, hk⟩
      have HK := Lib.hid hk
      clear hk
      have hn8 : (n : Int) ≤ 8 := by have := HL.out.1; have := HN.out.1; omega
      have HD0 : Hid (DeadSt ((Dsk.new 12 64).arm 1) ⟨0, 12, 1, 0, false⟩ false) := Lib.hid (.inl ⟨rfl, rfl, rfl⟩)
      go_wp2_with fail
      go_loopw [8, 9] (fun dv iv wr => ∃ (i : Nat) (died : Bool) (D : Dsk) (L : Lg) (vl : Value), i ≤ n ∧ dv = .bool died ∧ iv = .int .i64 i ∧ Hid (LSt w wr b m vl D G L) ∧ Hid (DeadSt D L died)) (fun _ iv _ => n - (intOf iv).toNat)
      case atStart => exact ⟨0, false, _, _, _, by omega, rfl, rfl, HK, HD0⟩
      case round =>
        clear HK HD0
        obtain ⟨i, died, D, L, vl, hi, rfl, rfl, HS, HD⟩ := hrel
        by_cases hlt : i < n
        · have hig : i < ls.length := by rw [HN.out.1]; exact hlt
          obtain ⟨p, B, cb, e, hpb, c1, hp⟩ := (HR.out.below HS.out.dk.low).get hig
          subst e
          obtain ⟨ni, hni⟩ : ∃ ni, ni = ls[i].length := ⟨_, rfl⟩
          rw [← hni] at c1
          have hni8 : ni ≤ 8 := by rw [hni]; exact HL.out.2 _ (List.getElem_mem hig)
          have HGR := Lib.hid (group_any B ls[i] ni cb w.heap.size 19 wr hni.symm (by omega) HS.out.dk.low.size (by decide) hp)
          have HBY := Lib.hid (chOfPut_bytes 19 hp)
          have HG8 : Hid ((ls[i].map (chOfPut 19)).length ≤ 8) := Lib.hid (by rw [List.length_map, ← hni]; exact hni8)
          obtain ⟨g, hg⟩ : ∃ g, g = ls[i].map (chOfPut 19) := ⟨_, rfl⟩
          rw [← hg] at HGR HBY HG8
          have HST := Lib.hid (HD.out.step g HBY.out HG8.out)
          have HLO := Lib.hid HD.out.lo
          clear hni hp hpb hg HBY HD
          go_wp2_with fail
          refine HGR.out.mono ?_
          rintro e w5 ⟨gv, rfl, hc, -, hb5⟩
          have HS5 := Lib.hid (And.intro (HS.out.grew hb5) hc)
          clear hc hb5 HS HGR
          go_wp2_with fail
          refine (append_puts HS5.out.1 HS5.out.2 HG8.out (by have := HLO.out; omega)).mono ?_
          rintro e w6 ⟨rfl, vl6, hk, -⟩
          have HS6 := Lib.hid hk
          clear hk HS5 HLO
          obtain ⟨E, hE⟩ : ∃ E, E = (app D L g).1 := ⟨_, rfl⟩
          obtain ⟨D6, hD6⟩ : ∃ D6, D6 = (app D L g).2.1 := ⟨_, rfl⟩
          obtain ⟨L6, hL6⟩ : ∃ L6, L6 = (app D L g).2.2 := ⟨_, rfl⟩
          rw [← hE, ← hD6, ← hL6] at HST
          rw [← hD6, ← hL6] at HS6
          rw [← hE]
          clear hE hD6 hL6 HG8
          cases died with
          | true =>
            have hE : E = 21 := HST.out.1 rfl
            subst hE
            have HD6 : Hid (DeadSt D6 L6 true) := Lib.hid HST.out.2
            clear HST
            go_wp2
            go_round
            case rel => exact ⟨i + 1, true, D6, L6, vl6, by omega, rfl, by go_num, HS6, HD6⟩
            case measure => simp only [intOf]; omega
          | false =>
            by_cases hE4 : E = 4
            · subst hE4
              have HD6 : Hid (DeadSt D6 L6 true) := Lib.hid HST.out.2
              clear HST
              go_wp2
              go_round
              case rel => exact ⟨i + 1, true, D6, L6, vl6, by omega, rfl, by go_num, HS6, HD6⟩
              case measure => simp only [intOf]; omega
            · have HD6 : Hid (DeadSt D6 L6 false) := Lib.hid (by
                have := HST.out.2
                rw [decide_eq_false hE4] at this
                exact this)
              clear HST
              go_wp2
              go_round
              case rel => exact ⟨i + 1, false, D6, L6, vl6, by omega, val_bool (by simpa using hE4), by go_num, HS6, HD6⟩
              case measure => simp only [intOf]; omega
        · obtain rfl : i = n := by omega
          have hk3 : ¬ (i : Int) < i := by omega
          have hp2 := HR2.out.below HS.out.dk.low
          have HG8 : Hid ((l2.map (chOfPut 19)).length ≤ 8) := Lib.hid (by rw [List.length_map, HN.out.2]; omega)
          have HBY := Lib.hid (chOfPut_bytes 19 hp2)
          clear hp2
          obtain ⟨g, hg⟩ : ∃ g, g = l2.map (chOfPut 19) := ⟨_, rfl⟩
          rw [← hg] at HBY HG8
          have HG := Lib.hid hg
          clear hg
          have HEN := Lib.hid (HD.out.end_ g HBY.out)
          go_wp2_with fail
          refine (Crash_lst HS.out (by have := HD.out.lo; omega)).mono ?_
          rintro e w5 ⟨rfl, vl5, hk⟩
          have HS5 := Lib.hid hk
          clear hk HS
          have HGR := Lib.hid (group_any A2 l2 n2 c2 w.heap.size 19 w5 HN.out.2 (by omega) HS5.out.dk.low.size (by decide) (HR2.out.below HS5.out.dk.low))
          rw [← HG.out] at HGR
          clear HD HG
          go_wp2_with fail
          refine HGR.out.mono ?_
          rintro e w6 ⟨gv, rfl, hc, -, hb6⟩
          have HS6 := Lib.hid (And.intro (HS5.out.grew hb6) hc)
          clear hc hb6 HS5 HGR
          go_wp2_with fail
          refine (append_puts HS6.out.1 HS6.out.2 HG8.out (by show ([] : List (Int × List Nat)).length ≤ _; decide)).mono ?_
          rintro e w7 ⟨rfl, vl7, hk, -⟩
          have hlo7 := (app_keeps (D.crash []) L g).1
          obtain ⟨E, hE⟩ : ∃ E, E = (app (D.crash []) L g).1 := ⟨_, rfl⟩
          obtain ⟨D7, hD7⟩ : ∃ D7, D7 = (app (D.crash []) L g).2.1 := ⟨_, rfl⟩
          obtain ⟨L7, hL7⟩ : ∃ L7, L7 = (app (D.crash []) L g).2.2 := ⟨_, rfl⟩
          rw [← hE, ← hD7, ← hL7] at HEN
          rw [← hD7, ← hL7] at hk
          rw [← hD7] at hlo7
          rw [← hE]
          have HS7 := Lib.hid hk
          have hlo8 : D7.loose.length ≤ 1000000000 := by have := HG8.out; have h0 : (D.crash []).loose.length = 0 := rfl; omega
          have HRD := Lib.hid (LRead_any hk.dk.disk 0 12 1 (by unfold okAt; rw [HEN.out.2.2]; rfl) rfl hlo8 HEN.out.2.1 _ rfl)
          clear hk HS6 hlo7 hlo8 hE hD7 hL7 HG8
          go_wp2_with fail
          refine HRD.out.mono ?_
          rintro e w8 ⟨ov, rfl, ⟨B0, hG⟩, hb8⟩
          obtain ⟨Ao, co, rfl⟩ := hG.form
          have HS8 := Lib.hid (HS7.out.grew hb8)
          clear hG hb8 HS7 HRD
          cases died with
          | true =>
            obtain ⟨rfl, hd, hgr⟩ := HEN.out.1 rfl
            rw [hgr]
            have HDD := Lib.hid hd
            clear HEN hd hgr
            go_wp2_with fail
            refine (Dead_any HS8.out.log).mono ?_
            rintro e w9 ⟨rfl, hw⟩
            subst hw
            rw [HDD.out]
            go_wp2_with fail
            refine (awake_any _).mono ?_
            rintro e w10 ⟨rfl, hb⟩
            have HB := Lib.hid (grow HS8.out.dk.low hb)
            clear hb
            go_wp2
            go_ret
            exact ⟨rfl, HB.out⟩
          | false =>
            clear HEN
            generalize (grp D7 0 1 12 0 [] []).length = q
            go_wp2_with fail
            refine (Dead_any HS8.out.log).mono ?_
            rintro e w9 ⟨rfl, hw⟩
            subst hw
            go_wp2_with fail
            refine (Dead_any HS8.out.log).mono ?_
            rintro e w9 ⟨rfl, hw⟩
            subst hw
            generalize L7.dead = dd
            cases dd
            all_goals
              go_wp2_with fail
              refine (awake_any _).mono ?_
              rintro e w10 ⟨rfl, hb⟩
              have HB := Lib.hid (grow HS8.out.dk.low hb)
              clear hb
              go_wp2
              go_ret
              exact ⟨rfl, HB.out⟩
end Go.Proofs.Ytpomfokpmbblkaa
