/- Walks: the document's slot, and the latest epoch of sectors. -/
import Derived.Test.YtpomfokpmbblkaaA15
namespace Go.Proofs.Ytpomfokpmbblkaa
open Go.RowKit Go.Maps
set_option maxRecDepth 8000

theorem refRead_m (p : Addr) (l : List Nat) (n c : Nat) (w : World) (hu : Byt w (.slice (some p) n c) l) (h1 : (64 : Int) ≤ n) (h2 : (n : Int) ≤ 4096) :
    Calls Try.prog 53 #[.slice (some p) n c] w fun e w' => ∃ v', e = .returned (.tuple #[.int .i64 (readMark l), v', .int .i64 (readErr l)]) ∧ Own w' w.heap.size v' (readLoad l) ∧ Below w.heap.size w w' := by
  have hl := hu.len_val
  have hc := hu.cap_val
  subst hl
  refine (refRead_any p l c w hu.rdv h1 h2 (by omega)).mono ?_
  rintro e w' ⟨v', rfl, ho, hb⟩
  obtain ⟨q1, q2⟩ := readOk_eq l hu.1 (by omega)
  refine ⟨v', ?_, ?_, hb⟩
  · unfold readErr
    cases hk : readOk l with
    | true =>
      rw [q2 hk, ← q1, hk]; rfl
    | false =>
      unfold readMark
      rw [← q1, hk]; rfl
  · unfold readLoad
    rw [q1]
    exact ho
/-- What a slot is, by cases of its mark. -/
theorem slot_cases (s : List Nat) (i : Nat) :
    (slotEp s i = 0 ∧ slotLoad s i = [] ∧ (readErr s = 5 ∨ (readErr s = 0 ∧ readMark s - (i : Int) - 1 < 2097152) ∨ (readErr s = 0 ∧ ¬ readMark s - (i : Int) - 1 < 2097152 ∧ ((readMark s - (i : Int) - 1) % 2097152 ≠ 0 ∨ ((readMark s - (i : Int) - 1) % 2097152 = 0 ∧ 1099511627776 < (readMark s - (i : Int) - 1) / 2097152))))) ∨
    (slotEp s i = (readMark s - (i : Int) - 1) / 2097152 ∧ slotLoad s i = readLoad s ∧ readErr s = 0 ∧ ¬ readMark s - (i : Int) - 1 < 2097152 ∧ (readMark s - (i : Int) - 1) % 2097152 = 0 ∧ ¬ 1099511627776 < (readMark s - (i : Int) - 1) / 2097152) := by
  have hE : slotE s i = (readMark s - (i : Int) - 1) / 2097152 := rfl
  have hS : slotOk s i = ((readErr s == 0) && okEp (slotE s i) && (readMark s == slotE s i * 2097152 + i + 1)) := rfl
  have h5 := readErr_two s
  have no : slotOk s i = false → slotEp s i = 0 ∧ slotLoad s i = [] := fun h => ⟨(slot_no h).1, (slot_no h).2.1⟩
  generalize slotE s i = e at hE hS
  have yes : slotOk s i = true → slotEp s i = e ∧ slotLoad s i = readLoad s := fun h => by
    have := slot_yes h
    exact ⟨by rw [this.1, hE]; rfl, this.2.1⟩
  generalize readErr s = R at *
  generalize readMark s = M at *
  have hep : okEp e = decide (1 ≤ e ∧ e ≤ 1099511627776) := rfl
  rcases h5 with rfl | rfl
  · by_cases a1 : M - (i : Int) - 1 < 2097152
    · have : okEp e = false := by rw [hep]; exact decide_eq_false (by omega)
      rw [this] at hS
      have := no (by rw [hS]; simp)
      exact .inl ⟨this.1, this.2, .inr (.inl ⟨rfl, a1⟩)⟩
    · by_cases a2 : (M - (i : Int) - 1) % 2097152 = 0
      · by_cases a3 : 1099511627776 < (M - (i : Int) - 1) / 2097152
        · have : okEp e = false := by rw [hep]; exact decide_eq_false (by omega)
          rw [this] at hS
          have := no (by rw [hS]; simp)
          exact .inl ⟨this.1, this.2, .inr (.inr ⟨rfl, a1, .inr ⟨a2, a3⟩⟩)⟩
        · have h1 : okEp e = true := by rw [hep]; exact decide_eq_true (by omega)
          have h2 : (M == e * 2097152 + i + 1) = true := by rw [beq_iff_eq]; omega
          rw [h1, h2] at hS
          have := yes (by rw [hS]; simp)
          exact .inr ⟨by rw [this.1, hE], this.2, rfl, a1, a2, a3⟩
      · have h2 : (M == e * 2097152 + i + 1) = false := by rw [beq_eq_false_iff_ne]; omega
        rw [h2] at hS
        have := no (by rw [hS]; simp)
        exact .inl ⟨this.1, this.2, .inr (.inr ⟨rfl, a1, .inl a2⟩)⟩
  · have := no (by rw [hS]; simp)
    exact .inl ⟨this.1, this.2, .inl rfl⟩
section
variable {p : Addr} {n c i : Nat} {w : World} {M : Int} {Ld : List Nat}
def SlotIn (p : Addr) (n c : Nat) (w : World) (M R : Int) (Ld : List Nat) : Prop := Calls Try.prog 53 #[.slice (some p) n c] w fun e w' => ∃ v', e = .returned (.tuple #[.int .i64 M, v', .int .i64 R]) ∧ Own w' w.heap.size v' Ld ∧ Below w.heap.size w w'
def SlotOut (p : Addr) (n c i : Nat) (w : World) (E : Int) (LD : List Nat) : Prop := Calls Try.prog 31 #[.slice (some p) n c, .int .i64 i] w fun e w' => ∃ v, e = .returned (.tuple #[.int .i64 E, v]) ∧ Own w' w.heap.size v LD ∧ Below w.heap.size w w'
theorem slot_w5 (h : SlotIn p n c w M 5 Ld) : SlotOut p n c i w 0 [] := by
  have HRD := Lib.hid h
  clear h
  unfold SlotOut
  go_enter Try.func31, Try.ntmps31
  go_wp2_with fail
  refine HRD.out.mono ?_
  rintro e w' ⟨v', rfl, ho, hb⟩
  obtain ⟨A, c9, rfl, _⟩ := ho.form
  have HB := Lib.hid hb
  clear ho hb
  generalize Ld.length = q9
  go_wp2
  go_ret2
  exact ⟨_, rfl, Own.none_ _ _, HB.out⟩
theorem slot_w1 (h : SlotIn p n c w M 0 Ld) (hm0 : 0 ≤ M) (hm1 : M ≤ 4611686018427387904) (hi : (i : Int) ≤ 1048576) (a1 : M - (i : Int) - 1 < 2097152) : SlotOut p n c i w 0 [] := by
  have HRD := Lib.hid h
  clear h
  unfold SlotOut
  go_enter Try.func31, Try.ntmps31
  go_wp2_with fail
  refine HRD.out.mono ?_
  rintro e w' ⟨v', rfl, ho, hb⟩
  obtain ⟨A, c9, rfl, _⟩ := ho.form
  have HB := Lib.hid hb
  clear ho hb
  generalize Ld.length = q9
  go_wp2
  go_ret2
  exact ⟨_, rfl, Own.none_ _ _, HB.out⟩
theorem slot_w2 (h : SlotIn p n c w M 0 Ld) (hm0 : 0 ≤ M) (hm1 : M ≤ 4611686018427387904) (hi : (i : Int) ≤ 1048576) (N : Int) (hq : M - (i : Int) - 1 = N) (a1 : ¬ N < 2097152) (a2 : ¬ N % 2097152 = 0) : SlotOut p n c i w 0 [] := by
  have HRD := Lib.hid h
  clear h
  unfold SlotOut
  go_enter Try.func31, Try.ntmps31
  go_wp2_with fail
  refine HRD.out.mono ?_
  rintro e w' ⟨v', rfl, ho, hb⟩
  obtain ⟨A, c9, rfl, _⟩ := ho.form
  have HO := Lib.hid (And.intro ho hb)
  clear ho hb
  obtain ⟨q9, hq9⟩ : ∃ q9, q9 = Ld.length := ⟨_, rfl⟩
  rw [← hq9] at HO ⊢
  clear hq9
  go_wp2
  go_ret2
  exact ⟨_, rfl, Own.none_ _ _, HO.out.2⟩
theorem slot_w3 (h : SlotIn p n c w M 0 Ld) (hm0 : 0 ≤ M) (hm1 : M ≤ 4611686018427387904) (hi : (i : Int) ≤ 1048576) (N : Int) (hq : M - (i : Int) - 1 = N) (a1 : ¬ N < 2097152) (a2 : N % 2097152 = 0) (a3 : 1099511627776 < N / 2097152) : SlotOut p n c i w 0 [] := by
  have HRD := Lib.hid h
  clear h
  unfold SlotOut
  go_enter Try.func31, Try.ntmps31
  go_wp2_with fail
  refine HRD.out.mono ?_
  rintro e w' ⟨v', rfl, ho, hb⟩
  obtain ⟨A, c9, rfl, _⟩ := ho.form
  have HO := Lib.hid (And.intro ho hb)
  clear ho hb
  obtain ⟨q9, hq9⟩ : ∃ q9, q9 = Ld.length := ⟨_, rfl⟩
  rw [← hq9] at HO ⊢
  clear hq9
  go_wp2
  go_ret2
  exact ⟨_, rfl, Own.none_ _ _, HO.out.2⟩
theorem slot_w4 (h : SlotIn p n c w M 0 Ld) (N : Int) (hq : M - (i : Int) - 1 = N) (a1 : ¬ N < 2097152) (a2 : N % 2097152 = 0) (a3 : ¬ 1099511627776 < N / 2097152) : SlotOut p n c i w (N / 2097152) Ld := by
  have HRD := Lib.hid h
  clear h
  unfold SlotOut
  go_enter Try.func31, Try.ntmps31
  go_wp2_with fail
  refine HRD.out.mono ?_
  rintro e w' ⟨v', rfl, ho, hb⟩
  obtain ⟨A, c9, rfl, _⟩ := ho.form
  have HO := Lib.hid (And.intro ho hb)
  clear ho hb
  obtain ⟨q9, hq9⟩ : ∃ q9, q9 = Ld.length := ⟨_, rfl⟩
  rw [← hq9] at HO ⊢
  clear hq9
  go_wp2
  go_ret2
  exact ⟨_, rfl, HO.out⟩
end
theorem refSlot_any (p : Addr) (s : List Nat) (n c i : Nat) (w : World) (hu : Byt w (.slice (some p) n c) s) (h1 : (64 : Int) ≤ n) (h2 : (n : Int) ≤ 4096) (hi : (i : Int) ≤ 1048576) :
    Calls Try.prog 31 #[.slice (some p) n c, .int .i64 i] w fun e w' => ∃ v, e = .returned (.tuple #[.int .i64 (slotEp s i), v]) ∧ Own w' w.heap.size v (slotLoad s i) ∧ Below w.heap.size w w' := by
  have hr : SlotIn p n c w (readMark s) (readErr s) (readLoad s) := refRead_m p s n c w hu h1 h2
  obtain ⟨hm0, hm1⟩ := readMark_le s hu.1 (by have := hu.len_val; omega)
  have hc := slot_cases s i
  show SlotOut p n c i w (slotEp s i) (slotLoad s i)
  generalize slotEp s i = E at hc ⊢
  generalize slotLoad s i = LD at hc ⊢
  generalize readErr s = R at hc hr
  generalize readMark s = M at hc hr hm0 hm1
  rcases hc with ⟨rfl, rfl, rfl | ⟨rfl, a1⟩ | ⟨rfl, a1, a2 | ⟨a2, a3⟩⟩⟩ | ⟨rfl, rfl, rfl, a1, a2, a3⟩
  · exact slot_w5 hr
  · exact slot_w1 hr hm0 hm1 hi a1
  · exact slot_w2 hr hm0 hm1 hi _ rfl a1 a2
  · exact slot_w3 hr hm0 hm1 hi _ rfl a1 a2 a3
  · exact slot_w4 hr _ rfl a1 a2 a3

/-! ### sectors in a row -/
/-- The slice at A is a row of sectors of z bytes, all below block N. -/
def Secs (w : World) (N z : Nat) (A : Option Addr) (ss : List (List Nat)) : Prop :=
  ∀ k (h : k < ss.length), ∃ g q c, A = some ⟨g, 0, none⟩ ∧ g < N ∧ w.cell? ⟨g, k, none⟩ = some (.slice (some q) z c) ∧ q.block < N ∧ Byt w (.slice (some q) z c) ss[k]
theorem Secs.grew {w w' : World} {N z : Nat} {A : Option Addr} {ss : List (List Nat)} (h : Secs w N z A ss) (hb : Below w.heap.size w w') : Secs w' N z A ss := by
  intro k hk
  obtain ⟨g, q, c, e, h1, h2, h3, h4⟩ := h k hk
  exact ⟨g, q, c, e, h1, cell_grew h2 hb, h3, h4.grew hb⟩
def latS : List (List Nat) → Nat → Int
  | _, 0 => 0
  | ss, k + 1 => max (latS ss k) (slotEp (ss[k]?.getD []) k)
theorem latS_in (ss : List (List Nat)) : ∀ k, 0 ≤ latS ss k ∧ latS ss k ≤ 1099511627776
  | 0 => by simp [latS]
  | k + 1 => by
    have h1 := latS_in ss k
    have h2 := slotEp_in (ss[k]?.getD []) k
    simp only [latS]
    omega
set_option maxHeartbeats 4000000 in
theorem refLatest_any (A : Option Addr) (ss : List (List Nat)) (n c z N : Nat) (w : World) (hn : ss.length = n) (hnb : (n : Int) ≤ 1048576) (hs : Secs w N z A ss) (h1 : (64 : Int) ≤ z) (h2 : (z : Int) ≤ 4096) :
    Calls Try.prog 33 #[.slice A n c] w fun e w' => e = .returned (.int .i64 (latS ss n)) ∧ Below w.heap.size w w' := by
  have HS0 := Lib.hid hs
  have HN := Lib.hid hn
  clear hs hn
  go_enter Try.func33, Try.ntmps33
  go_wp2_with fail
  go_loopw [3, 4] (fun ov iv wr => ∃ i : Nat, i ≤ n ∧ iv = .int .i64 i ∧ ov = .int .i64 (latS ss i) ∧ Hid (Below w.heap.size w wr)) (fun _ iv _ => n - (intOf iv).toNat)
  case atStart => exact ⟨0, by omega, rfl, rfl, Lib.hid (Below.refl _ _)⟩
  case round =>
    obtain ⟨i, hi, rfl, rfl, HB⟩ := hrel
    by_cases hlt : i < n
    · have hig : i < ss.length := by rw [HN.out]; exact hlt
      obtain ⟨g, q, cq, e, _, c1, _, hy⟩ := (HS0.out.grew HB.out) i hig
      subst e
      have HSL := Lib.hid (refSlot_any q ss[i] z cq i wr hy h1 h2 (by omega))
      have hls : latS ss (i + 1) = max (latS ss i) (slotEp ss[i] i) := by
        show max (latS ss i) (slotEp (ss[i]?.getD []) i) = _
        rw [List.getElem?_eq_getElem hig]; rfl
      have hin := slotEp_in ss[i] i
      obtain ⟨x, hx⟩ : ∃ x, x = slotEp ss[i] i := ⟨_, rfl⟩
      rw [← hx] at HSL hls hin
      have HLS := Lib.hid hls
      have HIN := Lib.hid hin
      clear hy hx hls hin
      obtain ⟨o, ho⟩ : ∃ o, o = latS ss i := ⟨_, rfl⟩
      rw [← ho] at HLS ⊢
      clear ho
      go_wp2_with fail
      refine HSL.out.mono ?_
      rintro e w2 ⟨v, rfl, ho2, hb⟩
      obtain ⟨A2, c2, rfl, _⟩ := ho2.form
      have HB2 := Lib.hid (grow HB.out hb)
      clear ho2 hb HSL c1
      generalize (slotLoad ss[i] i).length = q9
      by_cases hgt : o < x
      · have hmx : Hid (latS ss (i + 1) = x) := Lib.hid (by rw [HLS.out]; omega)
        go_wp2
        go_round
        case rel => exact ⟨i + 1, by omega, by go_num, by rw [hmx.out], HB2⟩
        case measure => simp only [intOf]; omega
      · have hmx : Hid (latS ss (i + 1) = o) := Lib.hid (by rw [HLS.out]; omega)
        go_wp2
        go_round
        case rel => exact ⟨i + 1, by omega, by go_num, by rw [hmx.out], HB2⟩
        case measure => simp only [intOf]; omega
    · obtain rfl : n = i := by omega
      have hk3 : ¬ (n : Int) < n := by omega
      go_wp2
      go_ret
      exact ⟨rfl, HB.out⟩
end Go.Proofs.Ytpomfokpmbblkaa
