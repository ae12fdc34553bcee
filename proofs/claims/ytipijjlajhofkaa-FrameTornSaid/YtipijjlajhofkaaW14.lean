/- Walks: the mark that stands at the beginning. -/
import Derived.Test.YtipijjlajhofkaaW13
namespace Go.Proofs.Ytipijjlajhofkaa
open Go.RowKit

theorem Rd.drop_ {w : World} {L : Nat} {p : Addr} {l : List Nat} (h : Rd w L (some p) l) (k : Nat) : Rd w L (some (p.add k)) (l.drop k) := by
  refine ⟨fun b hb => h.1 b (List.mem_of_mem_drop hb), fun hn => ?_⟩
  obtain ⟨q, e, hp, hc⟩ := h.2 (by intro e; rw [e] at hn; simp at hn)
  cases e
  refine ⟨_, rfl, by rw [add_block]; exact hp, fun j hj => ?_⟩
  have hj' : k + j < l.length := by simp at hj; omega
  have e : (p.add k).add j = p.add (k + j) := by
    unfold Addr.add
    by_cases hi : k = 0 <;> by_cases hj : j = 0 <;> simp [hi, hj, Nat.add_assoc]
  rw [e, hc (k + j) hj', List.getElem_drop]

def w64 (x : Int) : Int := IntKind.i64.wrap x
/-- The mark of bytes, 0 where there is none. -/
def markOf (l : List Nat) : Int :=
  if w64 (num (l.take 8)) < 1 ∨ 4611686018427387904 < w64 (num (l.take 8)) ∨ -1 - w64 (num (l.take 8)) ≠ w64 (num ((l.drop 8).take 8)) then 0 else w64 (num (l.take 8))

set_option maxHeartbeats 1000000 in
theorem marked_any (p : Addr) (l : List Nat) (n c : Nat) (w : World) (hn : l.length = n) (hr : Rd w w.heap.size (some p) l) (hl : (16 : Int) ≤ n) (hc : (n : Int) ≤ c) (hl2 : (n : Int) ≤ 1000000) :
    Calls Try.prog 23 #[.slice (some p) n c] w fun e w' => e = .returned (.int .i64 (markOf l)) ∧ w = w' := by
  have h1 := get_int p l n c w hn hr (by omega)
  have h2 := get_int (p.add 8) (l.drop 8) (n - 8) (c - 8) w (by simp; omega) (hr.drop_ 8) (by omega)
  have hm : markOf l = if w64 (num (l.take 8)) < 1 ∨ 4611686018427387904 < w64 (num (l.take 8)) ∨ -1 - w64 (num (l.take 8)) ≠ w64 (num ((l.drop 8).take 8)) then 0 else w64 (num (l.take 8)) := rfl
  change Calls Try.prog 27 #[.slice (some p) n c, .int .i64 8] w fun e w' => e = .returned (.int .i64 (w64 (num (l.take 8)))) ∧ w = w' at h1
  change Calls Try.prog 27 #[.slice (some (p.add 8)) (n - 8) (c - 8), .int .i64 8] w fun e w' => e = .returned (.int .i64 (w64 (num ((l.drop 8).take 8)))) ∧ w = w' at h2
  generalize markOf l = mk at *
  generalize w64 (num (l.take 8)) = x at *
  generalize w64 (num ((l.drop 8).take 8)) = y at *
  have HM := Lib.hid hm
  clear hm hr
  go_enter Try.func23, Try.ntmps23
  go_wp2_with fail
  refine h1.mono ?_
  rintro e w1 ⟨rfl, rfl⟩
  by_cases hx1 : x < 1
  · go_wp2
    go_ret
    exact ⟨ret_int (by rw [HM.out, if_pos (.inl hx1)]), rfl⟩
  by_cases hx2 : 4611686018427387904 < x
  · go_wp2
    go_ret
    exact ⟨ret_int (by rw [HM.out, if_pos (.inr (.inl hx2))]), rfl⟩
  obtain ⟨X, rfl⟩ := Int.eq_ofNat_of_zero_le (show 0 ≤ x by omega)
  have hp8 : p.add 8 = ⟨p.block, p.off + 8, none⟩ := by simp [Addr.add]
  rw [hp8] at h2
  have hnot : bits .xor .i64 (-1) (X : Int) = -1 - (X : Int) := i64_not X (by omega)
  by_cases hy : -1 - (X : Int) = y
  · have hv : (X : Int) = mk := by rw [HM.out, if_neg (by omega)]
    have HV := Lib.hid hv
    clear hv
    go_wp2_with fail
    refine h2.mono ?_
    rintro e w1 ⟨rfl, rfl⟩
    go_wp2
    go_ret
    exact ⟨ret_int HV.out, rfl⟩
  · have hv : (0 : Int) = mk := by rw [HM.out, if_pos (.inr (.inr hy))]
    have hy' : (-1 - (X : Int) != y) = true := by simpa using hy
    have HV := Lib.hid hv
    clear hv
    go_wp2_with fail
    refine h2.mono ?_
    rintro e w1 ⟨rfl, rfl⟩
    go_wp2
    go_ret
    exact ⟨ret_int HV.out, rfl⟩

end Go.Proofs.Ytipijjlajhofkaa
