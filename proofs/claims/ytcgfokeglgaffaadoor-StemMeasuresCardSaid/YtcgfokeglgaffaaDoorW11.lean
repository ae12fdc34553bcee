/- Walks: plain, Stem. -/
import Derived.Test.YtcgfokeglgaffaaDoorW10
namespace Go.Proofs.YtcgfokeglgaffaaDoor
open Go.RowKit

def letB (b : UInt8) : Bool := decide (97 ≤ b.toNat ∧ b.toNat ≤ 122)
theorem sign_letter (s : ByteArray) (i : Nat) (h : i < s.size) : (97 ≤ (Utf8.decode s i).1 ∧ (Utf8.decode s i).1 ≤ 122 ↔ letB s[i] = true) ∧ (letB s[i] = true → (Utf8.decode s i).2 = 1) := by
  by_cases ha : (s[i]'h).toNat < 128
  · rw [decode_ascii s i h ha]
    exact ⟨by unfold letB; simp, fun _ => rfl⟩
  · have := (decode_high s i h (by omega)).1
    refine ⟨⟨fun h => by omega, fun h => ?_⟩, fun h => ?_⟩ <;> (unfold letB at h; simp at h; omega)
theorem plain_eq (s : ByteArray) : plainB s.data.toList = (decide (∀ i (h : i < s.size), letB s[i] = true) && decide (3 ≤ s.size)) := by
  unfold plainB
  congr 1
  rw [decide_eq_decide]
  constructor
  · intro h i hi
    have := h s[i] (by
      show s.data[i]'hi ∈ s.data.toList
      exact Array.getElem_mem_toList hi)
    unfold letB
    exact decide_eq_true this
  · intro h b hb
    obtain ⟨i, hi, e⟩ := List.getElem_of_mem hb
    have hi' : i < s.size := by simpa using hi
    have := h i hi'
    unfold letB at this
    have e2 : s[i] = b := by rw [← e]; rfl
    rw [e2] at this
    exact of_decide_eq_true this
set_option maxHeartbeats 2000000 in
theorem plain_any (s : ByteArray) (hs : (s.size : Int) ≤ 100000) (w : World) : Calls Tryd.prog 13 #[.string s] w fun e w' => e = .returned (.bool (plainB s.data.toList)) ∧ Below w.heap.size w w' := by
  obtain ⟨B, hB⟩ : ∃ B, B = plainB s.data.toList := ⟨_, rfl⟩
  rw [← hB]
  rw [plain_eq] at hB
  have HB := Lib.hid hB
  clear hB
  go_enter Tryd.func13, Tryd.ntmps13
  go_wp2
  go_loopw [4] (fun _ wr => ∃ pos : Nat, Hid (pos ≤ s.size ∧ wr.heap[w.heap.size]? = some (.stringIter s pos) ∧ Below w.heap.size w wr ∧ ∀ i (h : i < s.size), i < pos → letB s[i] = true)) (fun _ wr => s.size - wr.iterPos w.heap.size)
  case atStart => exact ⟨0, Lib.hid ⟨by omega, World.iter_heap w s 0, (Below.refl _ _).alloc (Nat.le_refl _) _, fun i _ h => by omega⟩⟩
  case round =>
    obtain ⟨pos, HX⟩ := hrel
    have hp0 := iterPos_of HX.out.2.1
    have HP0 := Lib.hid hp0
    clear hp0
    by_cases hlt : pos < s.size
    · have hnx : ∀ ty, (Instr.next (.pointer (some ⟨w.heap.size, 0, none⟩)) true ty).run Tryd.prog wr = _ := fun ty => Lib.run_next_any_at wr w.heap.size s pos ty HX.out.2.1 hlt
      have hsl := sign_letter s pos hlt
      have hcb := decode_le s pos
      obtain ⟨W1, hW1⟩ : ∃ W1, wr.iterAt w.heap.size s (pos + (Utf8.decode s pos).2) = W1 := ⟨_, rfl⟩
      have HW : Hid (W1.heap[w.heap.size]? = some (.stringIter s (pos + (Utf8.decode s pos).2)) ∧ Below w.heap.size w W1) := Lib.hid (by
        rw [← hW1]
        exact ⟨Lib.iterAt_heap wr _ s pos _ HX.out.2.1, Lib.below_iterAt HX.out.2.2.1 (Nat.le_refl _) s _⟩)
      rw [hW1] at hnx
      clear hW1
      generalize (Utf8.decode s pos).1 = c at *
      generalize (Utf8.decode s pos).2 = n at *
      have HSL := Lib.hid hsl
      clear hsl
      by_cases h1 : 97 ≤ c ∧ c ≤ 122
      · have hle := HSL.out.1.1 h1
        obtain rfl : n = 1 := HSL.out.2 hle
        have HX2 : Hid (pos + 1 ≤ s.size ∧ W1.heap[w.heap.size]? = some (.stringIter s (pos + 1)) ∧ Below w.heap.size w W1 ∧ ∀ i (h : i < s.size), i < pos + 1 → letB s[i] = true) := Lib.hid ⟨hlt, HW.out.1, HW.out.2, fun i h hi => by
          by_cases e : i = pos
          · subst e; exact hle
          · exact HX.out.2.2.2 i h (by omega)⟩
        have hp1 := iterPos_of HW.out.1
        have HP1 := Lib.hid hp1
        have t1 : decide ((c : Int) < 97) = false := decide_eq_false (by omega)
        have t2 : decide ((122 : Int) < c) = false := decide_eq_false (by omega)
        clear hle HSL h1 hp1 HX HW
        go_wp2
        go_roundw
        case rel => exact ⟨pos + 1, HX2⟩
        case measure => rw [HP1.out, HP0.out]; omega
      · obtain rfl : B = false := by
          rw [HB.out]
          have : ¬ ∀ i (h : i < s.size), letB s[i] = true := fun h => h1 (HSL.out.1.2 (h pos hlt))
          rw [decide_eq_false this]; rfl
        clear HB HSL
        by_cases h2 : c < 97
        · have t1 : decide ((c : Int) < 97) = true := decide_eq_true (by omega)
          clear h1
          go_wp2
          go_ret
          exact ⟨rfl, HW.out.2⟩
        · have t1 : decide ((c : Int) < 97) = false := decide_eq_false (by omega)
          have t2 : decide ((122 : Int) < c) = true := decide_eq_true (by omega)
          clear h1
          go_wp2
          go_ret
          exact ⟨rfl, HW.out.2⟩
    · have hnx : ∀ ty, (Instr.next (.pointer (some ⟨w.heap.size, 0, none⟩)) true ty).run Tryd.prog wr = _ := fun ty => Lib.run_next_end_at wr w.heap.size s pos ty HX.out.2.1 hlt
      have hr : B = decide ((3 : Int) ≤ s.size) := by
        rw [HB.out, decide_eq_true (fun i h => HX.out.2.2.2 i h (by omega)), Bool.true_and, decide_eq_decide]
        omega
      subst hr
      clear HB
      go_wp2
      go_ret
      exact ⟨rfl, HX.out.2.2.1⟩
end Go.Proofs.YtcgfokeglgaffaaDoor
