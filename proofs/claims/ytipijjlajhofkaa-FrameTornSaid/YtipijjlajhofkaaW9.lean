/- Walks: FrameChecks. -/
import Derived.Test.YtipijjlajhofkaaW8
namespace Go.Proofs.Ytipijjlajhofkaa
open Go.RowKit

/-- 'append([]byte{}, b...)'. -/
theorem run_copy {w : World} {A : Option Addr} {l : List Nat} (c : Nat) (hr : Rd w w.heap.size A l) (hn : l.length ≤ 900000) :
    ∃ v' w', (Builtin.append_ #[22, 22] 22 #[.slice (some ⟨w.heap.size, 0, none⟩) 0 0, .slice A l.length c]).run Try.prog (w.alloc (.cells #[] 5)) = .ok v' w' ∧ Own w' w.heap.size v' l ∧ Below w.heap.size w w' := by
  have ho : Own (w.alloc (.cells #[] 5)) w.heap.size (.slice (some ⟨w.heap.size, 0, none⟩) 0 0) [] :=
    ⟨by simp, by simp [cells], .inr ⟨w.heap.size, 0, #[], rfl, Nat.le_refl _, by show (w.heap.push _)[w.heap.size]? = _; simp, Nat.le_refl _, by simp [maxLen], by simp, by simp [cells]⟩⟩
  have hb : Below w.heap.size w (w.alloc (.cells #[] 5)) := (Below.refl _ w).alloc (Nat.le_refl _) _
  obtain ⟨v', w', hrun, h1, h2⟩ := run_app 22 ho w.heap.size A c l (hr.below hb (Nat.le_refl _)) hb.size (by simp; omega)
  exact ⟨v', w', hrun, by simpa using h1, hb.trans h2⟩

set_option maxHeartbeats 1000000 in
theorem Checks_walk (A : Option Addr) (l : List Nat) (c : Nat) (w : World) (hr : Rd w w.heap.size A l) (hl : (l.length : Int) ≤ 2000) :
    Calls Try.prog 3 #[.slice A l.length c] w fun e w' => e = .returned (.bool true) ∧ Below w.heap.size w w' := by
  obtain ⟨v1, w1, hrun, ho, hb⟩ := run_copy c hr (by omega)
  have RUN := Lib.hid hrun
  have hC : Calls Try.prog 9 #[v1] w1 fun e w' => e = .returned (.int .u32 (M.crc l)) ∧ w1 = w' := by
    obtain ⟨A3, c3, e3, hr3⟩ := ho.form
    rw [e3]
    exact Check_any A3 l c3 w1 hr3 (by omega)
  have hD := refCheck_any A l c w1 (hr.below hb hb.size) (by omega)
  have HB := Lib.hid hb
  have hlt := M.crc_lt l
  clear hrun ho hb hr
  generalize M.crc l = cr at *
  have hlt' : (cr : Int) ≤ 4294967295 := by omega
  clear hlt
  go_enter Try.func3, Try.ntmps3
  go_wp2_with (at_builtin; refine Lib.wpList_append_run _ rfl (.tmp 6) (.tmp 7) 22 22 rfl _ _ rfl rfl v1 w1 RUN.out ?_)
  refine hC.mono ?_
  rintro e w2 ⟨rfl, rfl⟩
  go_wp2_with fail
  refine hD.mono ?_
  rintro e w2 ⟨rfl, rfl⟩
  go_wp2_with fail
  refine (awake_any w1).mono ?_
  rintro e w2 ⟨rfl, hb2⟩
  go_wp2
  go_ret
  exact ⟨rfl, grow HB.out hb2⟩

theorem Checks_long (A : Option Addr) (k : Nat) (c : Nat) (w : World) (hl : (2000 : Int) < k) :
    Calls Try.prog 3 #[.slice A k c] w fun e w' => e = .returned (.bool true) ∧ Below w.heap.size w w' := by
  go_enter Try.func3, Try.ntmps3
  go_wp2
  go_ret
  exact ⟨rfl, Below.refl _ _⟩

theorem Checks_any (A : Option Addr) (l : List Nat) (c : Nat) (w : World) (hr : Rd w w.heap.size A l) :
    Calls Try.prog 3 #[.slice A l.length c] w fun e w' => e = .returned (.bool true) ∧ Below w.heap.size w w' := by
  by_cases h : (l.length : Int) ≤ 2000
  · exact Checks_walk A l c w hr h
  · exact Checks_long A l.length c w (by omega)

end Go.Proofs.Ytipijjlajhofkaa
