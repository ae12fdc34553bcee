/- Walks: FrameReads. -/
import Derived.Test.YtipijjlajhofkaaPlain
namespace Go.Proofs.Ytipijjlajhofkaa
open Go.RowKit

set_option maxHeartbeats 1000000 in
theorem Reads_walk (x E : Int) (s : List Nat) (A : Option Addr) (l : List Nat) (c : Nat) (w : World) (hr : Rd w w.heap.size A l) (hl : (l.length : Int) ≤ 5000)
    (hB : ∀ (w : World) (A : Option Addr) (c : Nat), Rd w w.heap.size A l → (l.length : Int) ≤ c → Calls Try.prog 16 #[.slice A l.length c] w fun e w' => ∃ v', e = .returned (.tuple #[.int .i64 x, v', .int .i64 E]) ∧ Own w' w.heap.size v' s ∧ Below w.heap.size w w')
    (hR : ∀ (w : World) (A : Option Addr) (c : Nat), Rd w w.heap.size A l → (l.length : Int) ≤ c → Calls Try.prog 17 #[.slice A l.length c] w fun e w' => ∃ v', e = .returned (.tuple #[.int .i64 x, v', .int .i64 E]) ∧ Own w' w.heap.size v' s ∧ Below w.heap.size w w')
    (hc : (l.length : Int) ≤ c) :
    Calls Try.prog 5 #[.slice A l.length c] w fun e w' => e = .returned (.bool true) ∧ Below w.heap.size w w' := by
  obtain ⟨v1, w1, hrun, ho, hb⟩ := run_copy c hr (by omega)
  obtain ⟨A1, c1, rfl, hr1⟩ := ho.form
  have hcap := ho.cap
  have hC := hB w1 A1 c1 hr1 (by simpa using hcap)
  have RUN := Lib.hid hrun
  have HR := Lib.hid (hr.below hb hb.size)
  have HBW := Lib.hid hb
  have HD := Lib.hid hR
  clear hrun ho hb hr hB hR hr1 hcap
  go_enter Try.func5, Try.ntmps5
  go_wp2_with (at_builtin; refine Lib.wpList_append_run _ rfl (.tmp 13) (.tmp 14) 22 22 rfl _ _ rfl rfl _ w1 RUN.out ?_)
  refine hC.mono ?_
  clear hC
  rintro e w2 ⟨v2, rfl, ho2, hb2⟩
  have HO2 := Lib.hid ho2
  have HB2 := Lib.hid hb2
  have hD := HD.out w2 A c (HR.out.below hb2 hb2.size) hc
  clear ho2 hb2
  go_wp2_with fail
  refine hD.mono ?_
  clear hD
  rintro e w3 ⟨v3, rfl, ho3, hb3⟩
  have HO3 := Lib.hid ho3
  have HB3 := Lib.hid hb3
  have HO2' := Lib.hid (HO2.out.below hb3)
  clear ho3 hb3
  obtain ⟨A2, c2, rfl, r2⟩ := HO2'.out.form
  obtain ⟨A3, c3, rfl, r3⟩ := HO3.out.form
  have R2 := Lib.hid r2
  have R3 := Lib.hid r3
  clear r2 r3
  have k2 := run_str c2 R2.out
  have k3 := run_str c3 R3.out
  generalize str s = S at *
  go_wp2_with fail
  refine (awake_any w3).mono ?_
  rintro e w4 ⟨rfl, hb4⟩
  go_wp2
  go_ret
  exact ⟨rfl, grow (grow (grow HBW.out HB2.out) HB3.out) hb4⟩

theorem Reads_long (A : Option Addr) (k : Nat) (c : Nat) (w : World) (hl : (5000 : Int) < k) :
    Calls Try.prog 5 #[.slice A k c] w fun e w' => e = .returned (.bool true) ∧ Below w.heap.size w w' := by
  go_enter Try.func5, Try.ntmps5
  go_wp2
  go_ret
  exact ⟨rfl, Below.refl _ _⟩

theorem nothing3 {f : FuncId} {args : Array Value} {w : World} {x E : Int} (h : Calls Try.prog f args w fun e w' => e = .returned (.tuple #[.int .i64 x, .slice none 0 0, .int .i64 E]) ∧ w = w') :
    Calls Try.prog f args w fun e w' => ∃ v', e = .returned (.tuple #[.int .i64 x, v', .int .i64 E]) ∧ Own w' w.heap.size v' [] ∧ Below w.heap.size w w' := by
  refine h.mono ?_
  rintro e w' ⟨rfl, rfl⟩
  exact ⟨_, rfl, Own.none_ _ _, Below.refl _ _⟩

theorem str_inj {a b : List Nat} (ha : ∀ x ∈ a, x < 256) (hb : ∀ x ∈ b, x < 256) (h : str a = str b) : a = b := by
  have h : a.map UInt8.ofNat = b.map UInt8.ofNat := by
    have := congrArg (fun z : ByteArray => z.data.toList) h
    simpa [str] using this
  have k : ∀ l : List Nat, (∀ x ∈ l, x < 256) → (l.map UInt8.ofNat).map UInt8.toNat = l := fun l hl => by
    rw [List.map_map]
    have : l.map (UInt8.toNat ∘ UInt8.ofNat) = l.map id := List.map_congr_left fun x hx => by
      have := hl x hx
      simp; omega
    rw [this, List.map_id]
  rw [← k a ha, ← k b hb, h]

theorem some_of_Rd {w : World} {L : Nat} {A : Option Addr} {l : List Nat} (hr : Rd w L A l) (h1 : (64 : Int) ≤ l.length) : ∃ p, A = some p := by
  obtain ⟨p, e, _⟩ := hr.2 (by intro e; rw [e] at h1; simp at h1)
  exact ⟨p, e⟩

theorem sector_lt {n m : Nat} {l : List Nat} (h : ∀ b ∈ l, b < 256) : ∀ b ∈ sector n m l, b < 256 := by
  intro b hb
  unfold sector body at hb
  simp only [List.mem_append, List.mem_replicate] at hb
  rcases hb with (((hb | hb) | hb) | hb) | hb
  · exact head_lt _ b hb
  · exact h b hb
  · omega
  · exact leb_lt _ _ b hb
  · exact head_lt _ b hb

theorem num_drop_le : ∀ (j : Nat) (l : List Nat), 1 ≤ j → 256 * num (l.drop j) ≤ num l
  | 0, _, h => by omega
  | 1, [], _ => by simp [num]
  | 1, b :: l, _ => by simp [num]
  | j + 2, [], _ => by simp [num]
  | j + 2, b :: l, _ => by
    have := num_drop_le (j + 1) l (by omega)
    show 256 * num (l.drop (j + 1)) ≤ b + 256 * num l
    omega

theorem refRead_any (p : Addr) (l : List Nat) (c : Nat) (w : World) (hr : Rd w w.heap.size (some p) l) (h1 : (64 : Int) ≤ l.length) (h2 : (l.length : Int) ≤ 4096) (hc : (l.length : Int) ≤ c) :
    Calls Try.prog 17 #[.slice (some p) l.length c] w fun e w' => ∃ v', e = .returned (.tuple #[.int .i64 (if refOk l then (num (l.take 8) : Nat) else 0), v', .int .i64 (if refOk l then 0 else 5)]) ∧ Own w' w.heap.size v' (if refOk l then (l.take (l.length - 20)).drop 16 else []) ∧ Below w.heap.size w w' := by
  have hbig : ∀ j, j ≤ 8 → 1 ≤ j → (18014398509481984 : Int) < (num ((l.take 8).drop j) : Nat) → refOk l = false := fun j _ hj hx => by
    have := num_drop_le j (l.take 8) hj
    refine decide_eq_false fun q => ?_
    have := q.2.1
    omega
  have hll : ((l.take (l.length - 20)).drop 16).length = l.length - 20 - 16 := by simp
  have hlb : ∀ b ∈ (l.take (l.length - 20)).drop 16, b < 256 := mem_drop (mem_take hr.1 _) _
  by_cases hm : (num (l.take 8) : Int) < 1 ∨ 4611686018427387904 < (num (l.take 8) : Int)
  · have hk : okSize l.length = true := by simp [okSize]; omega
    have hno : refOk l = false := decide_eq_false fun q => by have := q.2.1; omega
    exact refRead_road p l l.length c w rfl hr h1 h2 hc 2 [] (refOk l) _ rfl hbig (fun _ => hno) (fun e => absurd e (by decide))
      fun w A c _ => nothing (refBuild_mark l.length _ A _ c w hk hm)
  · refine refRead_road p l l.length c w rfl hr h1 h2 hc 0 (sector l.length (num (l.take 8)) ((l.take (l.length - 20)).drop 16)) (refOk l) _ rfl hbig (fun e => absurd rfl e) (fun _ => ?_) ?_
    · unfold refOk
      rw [decide_eq_decide]
      constructor
      · rintro ⟨_, _, q⟩; rw [← q]
      · intro q
        exact ⟨by omega, by omega, (str_inj (sector_lt hlb) hr.1 q).symm⟩
    · intro w A c hr'
      have := refBuild_ok l.length (num (l.take 8)) A _ c w hr' h1 h2 (by omega) (by omega) (by omega)
      rw [hll] at this
      exact this

theorem Reads_any (A : Option Addr) (l : List Nat) (c : Nat) (w : World) (hr : Rd w w.heap.size A l) (hc : (l.length : Int) ≤ c) :
    Calls Try.prog 5 #[.slice A l.length c] w fun e w' => e = .returned (.bool true) ∧ Below w.heap.size w w' := by
  by_cases h : (l.length : Int) ≤ 5000
  · cases hk : okSize l.length with
    | false => exact Reads_walk 0 3 [] A l c w hr h (fun w A c _ _ => nothing3 (Read_size A l.length c w hk)) (fun w A c _ _ => nothing3 (refRead_size A l.length c w hk)) hc
    | true =>
      have hn : 64 ≤ (l.length : Int) ∧ (l.length : Int) ≤ 4096 := by simpa [okSize] using hk
      have hq := readOk_eq l hr.1 (by omega)
      refine Reads_walk (readMark l) (readErr l) (readLoad l) A l c w hr h (fun w A c hr hc => ?_) (fun w A c hr hc => ?_) hc
      · obtain ⟨p, rfl⟩ := some_of_Rd hr hn.1
        exact Read_any p l c w hr hn.1 hn.2 hc
      · obtain ⟨p, rfl⟩ := some_of_Rd hr hn.1
        have := refRead_any p l c w hr hn.1 hn.2 hc
        rw [← hq.1] at this
        have e1 : (if readOk l then ((num (l.take 8) : Nat) : Int) else 0) = readMark l := by
          cases hk : readOk l
          · simp [readMark, hk]
          · rw [hq.2 hk]; rfl
        have e2 : (if readOk l then (l.take (l.length - 20)).drop 16 else []) = readLoad l := by
          unfold readLoad
          rw [show l.length - 16 - 4 = l.length - 20 by omega]
        rw [e1, e2] at this
        exact this
  · exact Reads_long A l.length c w (by omega)

end Go.Proofs.Ytipijjlajhofkaa
