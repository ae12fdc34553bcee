/- Walks: the reference's Sign, Compare. -/
import Derived.Test.YtogghmmokifnnaaW14
namespace Go.Proofs.Ytogghmmokifnnaa
open Go.RowKit

def zeros (f : Nat → Int) : Bool := (List.range 8).all fun j => f j == 0
theorem zeros_iff (f : Nat → Int) : zeros f = true ↔ ∀ j, j < 8 → f j = 0 := by
  unfold zeros
  simp
def signR (f : Nat → Int) : Int := if 32768 ≤ f 7 then -1 else if zeros f = true then 0 else 1

set_option maxRecDepth 20000 in
set_option maxHeartbeats 4000000 in
theorem refSign_any (f : Nat → Int) (w : World) :
    Calls Try.prog 24 #[.agg (rowC f)] w fun e w' => e = .returned (.int .i64 (signR f)) ∧ Below w.heap.size w w' := by
  obtain ⟨w0, hw0, p0, g0, z0⟩ := boxes1 w (rowC f) 32
  have B0 := Lib.hid (And.intro p0 g0)
  rw [rowC_eq f] at hw0
  have c0 := p0.eight
  clear p0 g0 z0
  rw [rowC_eq f]
  by_cases h7 : 32768 ≤ f 7
  · have e : signR f = -1 := if_pos h7
    rw [e]
    clear e
    have hd : decide (32768 ≤ f 7) = true := decide_eq_true h7
    go_enter Try.func24, Try.ntmps24
    go_wp2
    go_ret
    exact ⟨rfl, B0.out.2⟩
  · have HS : Hid (signR f = if zeros f = true then 0 else 1) := Lib.hid (if_neg h7)
    go_enter Try.func24, Try.ntmps24
    go_wp2
    clear c0
    go_loopw [3] (fun v wr => ∃ k : Nat, k ≤ 8 ∧ v = .int .i64 k ∧ Hid (∀ j, j < k → f j = 0) ∧ Hid (Blk wr w.heap.size (rowC f) 32 ∧ Below w.heap.size w wr)) (fun v _ => 8 - (intOf v).toNat)
    case atStart => exact ⟨0, by omega, rfl, Lib.hid (fun j hj => absurd hj (by omega)), B0⟩
    case round =>
      obtain ⟨k, hk, rfl, HZ, B⟩ := hrel
      clear B0 hw0
      by_cases hlt : k < 8
      · have hlti : (k : Int) < 8 := by omega
        have ca := (B.out.1.at k (rowC_get f k hlt)).1
        by_cases hz : f k = 0
        · have HZ2 : Hid (∀ j, j < k + 1 → f j = 0) := Lib.hid (fun j hj => by
            by_cases e : j = k
            · rw [e]; exact hz
            · exact HZ.out j (by omega))
          rw [hz] at ca
          clear hz
          go_wp2
          go_round
          case rel => exact ⟨k + 1, by omega, val_int rfl, HZ2, B⟩
          case measure => simp only [intOf]; omega
        · have e : signR f = 1 := by rw [HS.out]; exact if_neg (fun h => hz ((zeros_iff f).1 h k hlt))
          have HE := Lib.hid e
          clear e HS
          generalize f k = fk at *
          go_wp2
          go_ret
          exact ⟨ret_int HE.out.symm, B.out.2⟩
      · have hk8 : k = 8 := by omega
        subst hk8
        have e : signR f = 0 := by
          rw [HS.out]
          exact if_pos ((zeros_iff f).2 HZ.out)
        have HE := Lib.hid e
        clear e HS
        go_wp2
        go_ret
        exact ⟨ret_int HE.out.symm, B.out.2⟩
end Go.Proofs.Ytogghmmokifnnaa
