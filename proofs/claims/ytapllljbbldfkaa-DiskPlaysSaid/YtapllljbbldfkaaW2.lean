/- Walks: New, Sectors, Size, Down, Loose, Arm, ready, act, kept. -/
import Derived.Test.YtapllljbbldfkaaW1
namespace Go.Proofs.Ytapllljbbldfkaa
open Go.RowKit Go.Maps
variable {ι : Type} [Bar ι]

theorem beq_dec (x : Int) : (x == 0) = decide (x = 0) := by by_cases h : x = 0 <;> simp [h]

section
variable {b m : Nat} {vl : Value} {D : Dsk} {w : World}

theorem Sectors_any (h : DiskAt w b m vl D) : Calls Try.prog 16 #[.pointer (some ⟨b, 0, none⟩)] w fun e w' => e = .returned (.int .i64 D.sectors) ∧ w' = w := by
  have hs := h.six.1
  clear h
  go_enter Try.func16, Try.ntmps16
  go_wp2
  go_ret
  exact ⟨rfl, rfl⟩
theorem Size_any (h : DiskAt w b m vl D) : Calls Try.prog 17 #[.pointer (some ⟨b, 0, none⟩)] w fun e w' => e = .returned (.int .i64 D.size) ∧ w' = w := by
  have hs := h.six.2.1
  clear h
  go_enter Try.func17, Try.ntmps17
  go_wp2
  go_ret
  exact ⟨rfl, rfl⟩
theorem Down_any (h : DiskAt w b m vl D) : Calls Try.prog 11 #[.pointer (some ⟨b, 0, none⟩)] w fun e w' => e = .returned (.bool D.down) ∧ w' = w := by
  have hs := h.six.2.2.2.2.2.1
  clear h
  go_enter Try.func11, Try.ntmps11
  go_wp2
  go_ret
  exact ⟨rfl, rfl⟩
theorem Loose_any (h : DiskAt w b m vl D) : Calls Try.prog 26 #[.pointer (some ⟨b, 0, none⟩)] w fun e w' => e = .returned (.int .i64 D.loose.length) ∧ w' = w := by
  obtain ⟨A, c, e, _, _⟩ := h.loose.form
  have hs := h.six.2.2.2.1
  rw [e] at hs
  clear h e
  go_enter Try.func26, Try.ntmps26
  go_wp2
  go_ret
  exact ⟨rfl, rfl⟩

/-- The cells for what goes down are written. -/
theorem DiskAt.write (h : DiskAt w b m vl D) {D' : Dsk} (hD : D'.Ok) (h1 : D'.sectors = D.sectors) (h2 : D'.size = D.size) (h3 : D'.fast = D.fast) (h4 : D'.loose = D.loose) {w' : World} (k : Turn [b] w w')
    {x : Int} {z : Bool} (hx : x = D'.armed) (hz : z = D'.down) (hb : Blk w' b #[.int .i64 D.sectors, .int .i64 D.size, .map (some m), vl, .int .i64 x, .bool z] 64) : DiskAt w' b m vl D' :=
  h.sets hD h1 h2 h3 h4 k (by rw [← hx, ← hz]; exact hb)

theorem Arm_any (n : Int) (hn : n ≤ 9223372036854775807) (h : DiskAt w b m vl D) :
    Calls Try.prog 21 #[.pointer (some ⟨b, 0, none⟩), .int .i64 n] w fun e w' => e = .returned (.tuple #[]) ∧ DiskAt w' b m vl (D.arm n) ∧ Turn [b] w w' := by
  obtain ⟨c0, c1, c2, c3, c4, c5, f3, f4, f5⟩ := h.six
  have H := Lib.hid h
  clear h
  have hk : DiskAt (w.setCell ⟨b, 4, none⟩ (.int .i64 (max n 0))) b m vl (D.arm n) ∧ Turn [b] w (w.setCell ⟨b, 4, none⟩ (.int .i64 (max n 0))) := by
    have ht : Turn [b] w (w.setCell ⟨b, 4, none⟩ (.int .i64 (max n 0))) := (Turn.refl [b] w).set (.inl (by simp)) _
    refine ⟨H.out.write (H.out.ok.arm hn) rfl rfl rfl rfl ht (x := max n 0) (z := D.down) rfl rfl ?_, ht⟩
    have := H.out.blk.set 4 (.int .i64 (max n 0))
    simpa using this
  have K := Lib.hid hk
  clear hk
  go_enter Try.func21, Try.ntmps21
  by_cases hp : 0 ≤ n
  · have e : max n 0 = n := by omega
    rw [e] at K
    go_wp2
    all_goals (go_end0; exact ⟨rfl, K.out⟩)
  · have e : max n 0 = 0 := by omega
    rw [e] at K
    go_wp2
    all_goals (go_end0; exact ⟨rfl, K.out⟩)

theorem ready_any (a : Int) (h : DiskAt w b m vl D) : Calls Try.prog 30 #[.pointer (some ⟨b, 0, none⟩), .int .i64 a] w fun e w' => e = .returned (.int .i64 (D.ready a)) ∧ w' = w := by
  obtain ⟨c0, c1, c2, c3, c4, c5, f3, f4, f5⟩ := h.six
  obtain ⟨r, hr⟩ : ∃ r, r = D.ready a := ⟨_, rfl⟩
  rw [← hr]
  unfold Dsk.ready at hr
  clear h c2 c3 c4 f3 f4 f5
  cases hd : D.down with
  | true =>
    rw [hd] at hr c5
    simp only [if_true] at hr
    subst hr
    go_enter Try.func30, Try.ntmps30
    go_wp2
    go_ret
    exact ⟨rfl, rfl⟩
  | false =>
    rw [hd] at hr c5
    simp only [Bool.false_eq_true, if_false] at hr
    by_cases h0 : a < 0
    · rw [if_pos (.inl h0)] at hr
      subst hr
      go_enter Try.func30, Try.ntmps30
      go_wp2
      go_ret
      exact ⟨rfl, rfl⟩
    · by_cases h1 : (D.sectors : Int) ≤ a
      · rw [if_pos (.inr h1)] at hr
        subst hr
        go_enter Try.func30, Try.ntmps30
        go_wp2
        go_ret
        exact ⟨rfl, rfl⟩
      · rw [if_neg (by omega)] at hr
        subst hr
        go_enter Try.func30, Try.ntmps30
        go_wp2
        go_ret
        exact ⟨rfl, rfl⟩

theorem act_any (h : DiskAt w b m vl D) : Calls Try.prog 29 #[.pointer (some ⟨b, 0, none⟩)] w fun e w' => e = .returned (.bool D.act.down) ∧ DiskAt w' b m vl D.act ∧ Turn [b] w w' := by
  obtain ⟨c0, c1, c2, c3, c4, c5, f3, f4, f5⟩ := h.six
  have h0 := h.ok.arm0
  have h1 := h.ok.arm1
  have H := Lib.hid h
  clear h c0 c1 c2 c3 f3
  by_cases hp : 0 < D.armed
  · have e : D.act = { D with armed := D.armed - 1, down := decide (D.armed - 1 = 0) } := by unfold Dsk.act; rw [if_pos hp]
    have hk : DiskAt ((w.setCell ⟨b, 4, none⟩ (.int .i64 (D.armed - 1))).setCell ⟨b, 5, none⟩ (.bool (D.armed - 1 == 0))) b m vl D.act ∧ Turn [b] w ((w.setCell ⟨b, 4, none⟩ (.int .i64 (D.armed - 1))).setCell ⟨b, 5, none⟩ (.bool (D.armed - 1 == 0))) := by
      have ht : Turn [b] w ((w.setCell ⟨b, 4, none⟩ (.int .i64 (D.armed - 1))).setCell ⟨b, 5, none⟩ (.bool (D.armed - 1 == 0))) := ((Turn.refl [b] w).set (.inl (by simp)) _).set (.inl (by simp)) _
      refine ⟨H.out.write H.out.ok.act Dsk.act_sectors Dsk.act_size Dsk.act_fast Dsk.act_loose ht (x := D.armed - 1) (z := D.armed - 1 == 0) (by rw [e]) (by rw [e]; exact beq_dec _) ?_, ht⟩
      have := (H.out.blk.set 4 (.int .i64 (D.armed - 1))).set 5 (.bool (D.armed - 1 == 0))
      simpa using this
    have hd : D.act.down = (D.armed - 1 == 0) := by rw [e]; exact (beq_dec _).symm
    rw [hd]
    have K := Lib.hid hk
    clear hk hd e
    generalize D.armed = x at *
    generalize D.down = z at *
    go_enter Try.func29, Try.ntmps29
    go_wp2
    all_goals (go_ret; exact ⟨rfl, K.out⟩)
  · have e : D.act = D := by unfold Dsk.act; rw [if_neg hp]
    rw [e]
    have K := Lib.hid (And.intro H.out (Turn.refl [b] w))
    clear e
    generalize D.armed = x at *
    generalize D.down = z at *
    go_enter Try.func29, Try.ntmps29
    go_wp2
    all_goals (go_ret; exact ⟨rfl, K.out⟩)

theorem kept_any (a : Int) (h0 : -9223372036854775808 ≤ a) (h1 : a ≤ 9223372036854775807) (h : DiskAt w b m vl D) :
    Calls Try.prog 33 #[.pointer (some ⟨b, 0, none⟩), .int .i64 a] w fun e w' => ∃ v, e = .returned v ∧ Byt w' v (D.fast a) ∧ Below w.heap.size w w' := by
  obtain ⟨c0, c1, c2, c3, c4, c5, f3, f4, f5⟩ := h.six
  obtain ⟨v, is, hrun, hv⟩ := h.fast.look h0 h1
  have hz1 := h.ok.z1
  have hz2 := h.ok.z2
  clear h c0 c3 c4 c5 f3 f4 f5
  obtain ⟨w1, hmk, ho, hg⟩ := run_makeN (w := w) w.heap.size D.size (Nat.le_refl _) (by omega)
  have HB := Lib.hid ((Below.refl w.heap.size w).grown hg (Nat.le_refl _) (by simp))
  cases is with
  | true =>
    simp only [if_true] at hv
    have HV := Lib.hid hv
    clear hv hmk ho hg
    go_enter Try.func33, Try.ntmps33
    go_wp2
    go_ret
    exact ⟨v, rfl, HV.out.1, Below.refl _ _⟩
  | false =>
    simp only [Bool.false_eq_true, if_false] at hv
    have HO := Lib.hid (Byt.of_own ho (by intro e; have := congrArg List.length e; simp at this; omega))
    rw [← hv] at HO
    clear hv ho hg
    go_enter Try.func33, Try.ntmps33
    go_wp2
    go_ret
    exact ⟨_, rfl, HO.out, HB.out⟩

theorem DiskAt.new (w : World) (hbar : ∀ k, w.heap.size ≤ k → Bar.P k) (s z : Nat) (h1 : 1 ≤ s) (h2 : s ≤ 1048576) (h3 : 64 ≤ z) (h4 : z ≤ 4096) :
    DiskAt ((w.alloc (.map #[] 0)).alloc (.cells #[.int .i64 s, .int .i64 z, .map (some w.heap.size), nilv, .int .i64 0, .bool false] 64)) (w.heap.size + 1) w.heap.size nilv (Dsk.new s z) := by
  have hm := Fast.new w s z
  refine ⟨Dsk.Ok.new h1 h2 h3 h4, Blk.new' _ _ _ (by simp), ?_, Loose.nil _, fun k hk => hbar k (by simp at hk; omega)⟩
  exact hm.turn (Turn.of_below ((Below.refl _ _).alloc (Nat.le_refl _) _) []) (by intro _ h; simp at h) (by simp)

theorem New_any (s z : Nat) (w : World) (hbar : ∀ k, w.heap.size ≤ k → Bar.P k) (h1 : (1 : Int) ≤ s) (h2 : (s : Int) ≤ 1048576) (h3 : (64 : Int) ≤ z) (h4 : (z : Int) ≤ 4096) :
    Calls Try.prog 8 #[.int .i64 s, .int .i64 z] w fun e w' => ∃ b m, e = .returned (.pointer (some ⟨b, 0, none⟩)) ∧ DiskAt w' b m nilv (Dsk.new s z) ∧ Below w.heap.size w w' ∧ w.heap.size ≤ b ∧ w.heap.size ≤ m := by
  have hn := Lib.hid (DiskAt.new w hbar s z (by omega) (by omega) (by omega) (by omega))
  have hb := Lib.hid (((Below.refl w.heap.size w).alloc (Nat.le_refl _) (.map #[] 0)).alloc (by simp) (.cells #[.int .i64 s, .int .i64 z, .map (some w.heap.size), nilv, .int .i64 0, .bool false] 64))
  have hmm := @run_makeMap Try.prog
  clear hbar
  go_enter Try.func8, Try.ntmps8
  go_wp2
  go_ret
  exact ⟨_, _, rfl, hn.out, hb.out, by omega, Nat.le_refl _⟩

theorem New_no (s z : Int) (w : World) (h : s < 1 ∨ 1048576 < s ∨ z < 64 ∨ 4096 < z) :
    Calls Try.prog 8 #[.int .i64 s, .int .i64 z] w fun e w' => e = .returned (.pointer none) ∧ w' = w := by
  by_cases h1 : s < 1
  · clear h; go_enter Try.func8, Try.ntmps8
    go_wp2
    all_goals (go_ret; exact ⟨rfl, rfl⟩)
  · by_cases h2 : 1048576 < s
    · clear h; go_enter Try.func8, Try.ntmps8
      go_wp2
      all_goals (go_ret; exact ⟨rfl, rfl⟩)
    · by_cases h3 : z < 64
      · clear h; go_enter Try.func8, Try.ntmps8
        go_wp2
        all_goals (go_ret; exact ⟨rfl, rfl⟩)
      · have h4 : 4096 < z := by omega
        clear h; go_enter Try.func8, Try.ntmps8
        go_wp2
        all_goals (go_ret; exact ⟨rfl, rfl⟩)
end
end Go.Proofs.Ytapllljbbldfkaa
