/- Walks: the log's small functions: Room, may, mark, at. -/
import Derived.Test.YtpomfokpmbblkaaFr
namespace Go.Proofs.Ytpomfokpmbblkaa
open Go.RowKit Go.Maps
set_option maxRecDepth 8000
variable {ι : Type} [Bar ι]

def lroom (n : Int) : Int := max (room n - 9) 0
theorem room_le (n : Int) : 0 ≤ room n ∧ room n ≤ 4060 := by unfold room okSize; split <;> simp_all; omega
theorem LRoom_any (n : Int) (w : World) : Calls Try.prog 24 #[.int .i64 n] w fun e w' => e = .returned (.int .i64 (lroom n)) ∧ w' = w := by
  have h := room_le n
  have HR := Lib.hid (Room_any n w)
  unfold lroom
  generalize room n = r at *
  by_cases hr : 9 ≤ r
  · have e1 : max (r - 9) 0 = r - 9 := by omega
    rw [e1]
    go_enter Try.func24, Try.ntmps24
    go_wp2_with fail
    refine HR.out.mono ?_
    rintro e w1 ⟨rfl, rfl⟩
    clear HR
    go_wp2
    go_ret
    exact ⟨rfl, rfl⟩
  · have e1 : max (r - 9) 0 = 0 := by omega
    rw [e1]
    go_enter Try.func24, Try.ntmps24
    go_wp2_with fail
    refine HR.out.mono ?_
    rintro e w1 ⟨rfl, rfl⟩
    clear HR
    go_wp2
    go_ret
    exact ⟨rfl, rfl⟩
theorem refLRoom_any (n : Int) (w : World) : Calls Try.prog 15 #[.int .i64 n] w fun e w' => e = .returned (.int .i64 (lroom n)) ∧ w' = w := by
  have h := room_le n
  have HR := Lib.hid (refRoom_any n w)
  unfold lroom
  generalize room n = r at *
  by_cases hr : 9 ≤ r
  · have e1 : max (r - 9) 0 = r - 9 := by omega
    rw [e1]
    go_enter Try.func15, Try.ntmps15
    go_wp2_with fail
    refine HR.out.mono ?_
    rintro e w1 ⟨rfl, rfl⟩
    clear HR
    go_wp2
    go_ret
    exact ⟨rfl, rfl⟩
  · have e1 : max (r - 9) 0 = 0 := by omega
    rw [e1]
    go_enter Try.func15, Try.ntmps15
    go_wp2_with fail
    refine HR.out.mono ?_
    rintro e w1 ⟨rfl, rfl⟩
    clear HR
    go_wp2
    go_ret
    exact ⟨rfl, rfl⟩
def okEp (e : Int) : Bool := decide (1 ≤ e ∧ e ≤ 1099511627776)
theorem lmay_any (e : Int) (w : World) : Calls Try.prog 35 #[.int .i64 e] w fun r w' => r = .returned (.bool (okEp e)) ∧ w' = w := by
  unfold okEp
  by_cases h1 : 1 ≤ e
  · by_cases h2 : e ≤ 1099511627776
    · rw [decide_eq_true ⟨h1, h2⟩]
      go_enter Try.func35, Try.ntmps35
      go_wp2
      go_ret
      exact ⟨rfl, rfl⟩
    · rw [decide_eq_false (by omega)]
      go_enter Try.func35, Try.ntmps35
      go_wp2
      go_ret
      exact ⟨rfl, rfl⟩
  · rw [decide_eq_false (by omega)]
    go_enter Try.func35, Try.ntmps35
    go_wp2
    go_ret
    exact ⟨rfl, rfl⟩
theorem mark_any (e : Int) (s : Int) (he : 1 ≤ e ∧ e ≤ 1099511627776) (hs : 0 ≤ s ∧ s ≤ 1048576) (w : World) : Calls Try.prog 59 #[.int .i64 e, .int .i64 s] w fun r w' => r = .returned (.int .i64 (e * 2097152 + s + 1)) ∧ w' = w := by
  go_enter Try.func59, Try.ntmps59
  go_wp2
  go_ret
  exact ⟨rfl, rfl⟩

/-- Where a log may stand. -/
def okAt (D : Dsk) (f c : Int) : Bool := decide (0 ≤ f ∧ 1 ≤ c ∧ c ≤ 1048576 ∧ f ≤ D.sectors - c)
theorem at_nil (f c : Int) (w : World) : Calls Try.prog 34 #[.pointer none, .int .i64 f, .int .i64 c] w fun e w' => e = .returned (.tuple #[.agg #[.pointer none, .int .i64 0, .int .i64 0], .int .i64 1]) ∧ Below w.heap.size w w' := by
  have hb : Below w.heap.size w ((w.alloc (.cells #[.pointer none, .int .i64 0, .int .i64 0] 81)).setCell ⟨w.heap.size, 0, none⟩ (.pointer none)) := by
    exact ((Below.refl _ w).alloc (Nat.le_refl _) _).setCell (p := ⟨w.heap.size, 0, none⟩) (Nat.le_refl _) _
  go_enter Try.func34, Try.ntmps34
  go_wp2
  refine bodyPost_ret (v := .tuple #[.agg #[.pointer none, .int .i64 0, .int .i64 0], .int .i64 1]) ?_ rfl ⟨rfl, ?_⟩
  · simp [results, Try.results34, go_sem]
  · go_grown
section
variable {b m : Nat} {vl : Value} {D : Dsk} {w : World}
theorem at_ok (h : DiskAt w b m vl D) (f c : Int) (hk : okAt D f c = true) :
    Calls Try.prog 34 #[.pointer (some ⟨b, 0, none⟩), .int .i64 f, .int .i64 c] w fun e w' => e = .returned (.tuple #[.agg #[.pointer (some ⟨b, 0, none⟩), .int .i64 f, .int .i64 c], .int .i64 0]) ∧ Below w.heap.size w w' := by
  unfold okAt at hk
  obtain ⟨h0, h1, h2, h3⟩ := of_decide_eq_true hk
  have hs2 := h.ok.s2
  have HS := Lib.hid (Sectors_any (h.alloc (.cells #[.pointer none, .int .i64 0, .int .i64 0] 81)))
  clear hk h
  go_enter Try.func34, Try.ntmps34
  go_wp2_with fail
  refine HS.out.mono ?_
  rintro e w1 ⟨rfl, rfl⟩
  clear HS
  go_wp2
  refine bodyPost_ret (v := .tuple #[.agg #[.pointer (some ⟨b, 0, none⟩), .int .i64 f, .int .i64 c], .int .i64 0]) ?_ rfl ⟨rfl, ?_⟩
  · simp [results, Try.results34, go_sem]
  · go_grown
end
end Go.Proofs.Ytpomfokpmbblkaa
