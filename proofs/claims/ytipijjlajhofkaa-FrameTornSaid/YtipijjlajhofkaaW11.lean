/- Walks: FrameBuilds. -/
import Derived.Test.YtipijjlajhofkaaW10
import Derived.Laws.IdiomStrings
import Derived.Lib.BufferRead
namespace Go.Proofs.Ytipijjlajhofkaa
open Go.RowKit

/-- Bytes as a string. -/
def str (l : List Nat) : ByteArray := ⟨(l.map UInt8.ofNat).toArray⟩

theorem run_str {w : World} {L : Nat} {A : Option Addr} {l : List Nat} (c : Nat) (h : Rd w L A l) : (convert 22 9 (.slice A l.length c)).run Try.prog w = .ok (.string (str l)) w := by
  cases A with
  | none =>
    have hl : l = [] := by
      rcases l with _ | ⟨b, l⟩
      · rfl
      · obtain ⟨p, e, _⟩ := h.2 (by simp)
        cases e
    subst hl
    exact Lib.run_convert_nil_bytes w 22 9 5 c Try.underlying22 Try.underlying5 Try.underlying9
  | some p =>
    have := run_convert_bytes_back (P := Try.prog) w 22 9 5 p c (l.map UInt8.ofNat) Try.underlying22 Try.underlying5 Try.underlying9 (fun j hj => by
      have hj' : j < l.length := by simpa using hj
      obtain ⟨q, e, _, hc, hb⟩ := h.get hj'
      cases e
      rw [hc]
      simp only [List.getElem_map]
      have : (UInt8.ofNat l[j]).toNat = l[j] := by simp; omega
      rw [this])
    rw [List.length_map] at this
    exact this

set_option maxHeartbeats 1000000 in
theorem Builds_walk (n m E : Int) (s : List Nat) (A : Option Addr) (l : List Nat) (c : Nat) (w : World) (hr : Rd w w.heap.size A l) (hl : (l.length : Int) ≤ 5000)
    (hB : ∀ (w : World) (A : Option Addr) (c : Nat), Rd w w.heap.size A l → Calls Try.prog 12 #[.int .i64 n, .int .i64 m, .slice A l.length c] w fun e w' => ∃ v', e = .returned (.tuple #[v', .int .i64 E]) ∧ Own w' w.heap.size v' s ∧ Below w.heap.size w w')
    (hR : ∀ (w : World) (A : Option Addr) (c : Nat), Rd w w.heap.size A l → Calls Try.prog 13 #[.int .i64 n, .int .i64 m, .slice A l.length c] w fun e w' => ∃ v', e = .returned (.tuple #[v', .int .i64 E]) ∧ Own w' w.heap.size v' s ∧ Below w.heap.size w w') :
    Calls Try.prog 4 #[.int .i64 n, .int .i64 m, .slice A l.length c] w fun e w' => e = .returned (.bool true) ∧ Below w.heap.size w w' := by
  obtain ⟨v1, w1, hrun, ho, hb⟩ := run_copy c hr (by omega)
  obtain ⟨A1, c1, rfl, hr1⟩ := ho.form
  have hC := hB w1 A1 c1 hr1
  have RUN := Lib.hid hrun
  have HR := Lib.hid (hr.below hb hb.size)
  have HBW := Lib.hid hb
  have HD := Lib.hid hR
  clear hrun ho hb hr hB hR hr1
  go_enter Try.func4, Try.ntmps4
  go_wp2_with (at_builtin; refine Lib.wpList_append_run _ rfl (.tmp 17) (.tmp 18) 22 22 rfl _ _ rfl rfl _ w1 RUN.out ?_)
  refine hC.mono ?_
  clear hC
  rintro e w2 ⟨v2, rfl, ho2, hb2⟩
  have HO2 := Lib.hid ho2
  have HB2 := Lib.hid hb2
  have hD := HD.out w2 A c (HR.out.below hb2 hb2.size)
  clear ho2 hb2
  go_wp2_with fail
  refine hD.mono ?_
  clear hD
  rintro e w3 ⟨v3, rfl, ho3, hb3⟩
  have HO3 := Lib.hid ho3
  have HB3 := Lib.hid hb3
  have HO2' := Lib.hid (HO2.out.below hb3)
  clear ho3 hb3
  obtain ⟨A2, c2, rfl, r2⟩ := HO2'.out.form
  obtain ⟨A3, c3, rfl, r3⟩ := HO3.out.form
  have R2 := Lib.hid r2
  have R3 := Lib.hid r3
  clear r2 r3
  have k2 := run_str c2 R2.out
  have k3 := run_str c3 R3.out
  generalize str s = S at *
  go_wp2_with fail
  refine (Room_any n w3).mono ?_
  rintro e w4 ⟨rfl, rfl⟩
  go_wp2_with fail
  refine (refRoom_any n w3).mono ?_
  rintro e w4 ⟨rfl, rfl⟩
  go_wp2_with fail
  refine (awake_any w3).mono ?_
  rintro e w4 ⟨rfl, hb4⟩
  go_wp2
  go_ret
  exact ⟨rfl, grow (grow (grow HBW.out HB2.out) HB3.out) hb4⟩

theorem Builds_long (n m : Int) (A : Option Addr) (k : Nat) (c : Nat) (w : World) (hl : (5000 : Int) < k) :
    Calls Try.prog 4 #[.int .i64 n, .int .i64 m, .slice A k c] w fun e w' => e = .returned (.bool true) ∧ Below w.heap.size w w' := by
  go_enter Try.func4, Try.ntmps4
  go_wp2
  go_ret
  exact ⟨rfl, Below.refl _ _⟩

theorem nothing {f : FuncId} {args : Array Value} {w : World} {E : Int} (h : Calls Try.prog f args w fun e w' => e = .returned (.tuple #[.slice none 0 0, .int .i64 E]) ∧ w = w') :
    Calls Try.prog f args w fun e w' => ∃ v', e = .returned (.tuple #[v', .int .i64 E]) ∧ Own w' w.heap.size v' [] ∧ Below w.heap.size w w' := by
  refine h.mono ?_
  rintro e w' ⟨rfl, rfl⟩
  exact ⟨_, rfl, Own.none_ _ _, Below.refl _ _⟩

theorem Builds_any (n m : Int) (A : Option Addr) (l : List Nat) (c : Nat) (w : World) (hr : Rd w w.heap.size A l) :
    Calls Try.prog 4 #[.int .i64 n, .int .i64 m, .slice A l.length c] w fun e w' => e = .returned (.bool true) ∧ Below w.heap.size w w' := by
  by_cases h : (l.length : Int) ≤ 5000
  · cases hk : okSize n with
    | false => exact Builds_walk n m 3 [] A l c w hr h (fun w A c _ => nothing (Build_size n m A l.length c w hk)) (fun w A c _ => nothing (refBuild_size n m A l.length c w hk))
    | true =>
      by_cases hm : m < 1 ∨ 4611686018427387904 < m
      · exact Builds_walk n m 2 [] A l c w hr h (fun w A c _ => nothing (Build_mark n m A l.length c w hk hm)) (fun w A c _ => nothing (refBuild_mark n m A l.length c w hk hm))
      · by_cases hl : n - 36 < (l.length : Int)
        · exact Builds_walk n m 9 [] A l c w hr h (fun w A c _ => nothing (Build_long n m A l.length c w hk (by omega) (by omega) hl)) (fun w A c _ => nothing (refBuild_long n m A l.length c w hk (by omega) (by omega) hl))
        · have hn : 64 ≤ n ∧ n ≤ 4096 := by simpa [okSize] using hk
          obtain ⟨N, rfl⟩ := Int.eq_ofNat_of_zero_le (show 0 ≤ n by omega)
          obtain ⟨M', rfl⟩ := Int.eq_ofNat_of_zero_le (show 0 ≤ m by omega)
          exact Builds_walk N M' 0 (sector N M' l) A l c w hr h (fun w A c hr => Build_ok N M' A l c w hr hn.1 hn.2 (by omega) (by omega) (by omega)) (fun w A c hr => refBuild_ok N M' A l c w hr hn.1 hn.2 (by omega) (by omega) (by omega))
  · exact Builds_long n m A l.length c w (by omega)

end Go.Proofs.Ytipijjlajhofkaa
