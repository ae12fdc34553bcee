/- Walks: the reference's MayAll. -/
import Derived.Test.YtkneohngbkmlpaaW15
namespace Go.Proofs.Ytkneohngbkmlpaa
open Go.RowKit

set_option maxHeartbeats 1000000 in
theorem refAll_any (A : Option Addr) (l : List Pt) (n c : Nat) (w : World) (hn : l.length = n) (hr : Pts w w.heap.size A l) (hl : (n : Int) ≤ 1000000) :
    Calls Try.prog 10 #[.slice A n c] w fun e w' => e = .returned (.bool (decide (∀ p ∈ l, May p))) ∧ Below w.heap.size w w' := by
  have HR := Lib.hid hr
  have HN := Lib.hid hn
  clear hr hn
  go_enter Try.func10, Try.ntmps10
  go_wp2
  go_loopw [3] (fun i wr => ∃ k : Nat, k ≤ n ∧ i = .int .i64 k ∧ Hid (Below w.heap.size w wr) ∧ Hid (∀ j (h : j < l.length), j < k → May l[j])) (fun i _ => n - (intOf i).toNat)
  case atStart => exact ⟨0, by omega, rfl, Lib.hid (Below.refl _ _), Lib.hid fun j _ h => absurd h (by omega)⟩
  case round =>
    obtain ⟨k, hk, rfl, HB, HM⟩ := hrel
    by_cases hlt : k < n
    · have hkl : k < l.length := by rw [HN.out]; exact hlt
      obtain ⟨p, e, _, h1, h2⟩ := (HR.out.below HB.out (Nat.le_refl _)).get hkl
      cases e
      obtain ⟨q, hq⟩ : ∃ q, l[k] = q := ⟨_, rfl⟩
      rw [hq] at h1 h2
      have HQ := Lib.hid hq
      clear hq
      have km := refMay_any q
      obtain ⟨qx, qy⟩ := q
      dsimp only at h1 h2
      have KM := Lib.hid km
      clear km
      rw [add_one] at h2
      by_cases hm : May ⟨qx, qy⟩
      · have hd : decide (May ⟨qx, qy⟩) = true := decide_eq_true hm
        go_wp2_with fail
        refine (KM.out _).mono ?_
        rintro e w1 ⟨rfl, hb1⟩
        have HB1 := Lib.hid (grow HB.out hb1)
        clear hb1
        rw [hd]
        have HM2 := Lib.hid hm
        clear hm hd
        go_wp2
        go_round
        case rel => exact ⟨k + 1, by omega, val_int rfl, HB1, Lib.hid fun j h hj => by
          by_cases e : j = k
          · subst e; rw [HQ.out]; exact HM2.out
          · exact HM.out j h (by omega)⟩
        case measure => simp only [intOf]; omega
      · have hd : decide (May ⟨qx, qy⟩) = false := decide_eq_false hm
        have hno : decide (∀ p ∈ l, May p) = false := decide_eq_false fun h => hm (by rw [← HQ.out]; exact h _ (List.getElem_mem _))
        have HNO := Lib.hid hno
        clear hno hm
        go_wp2_with fail
        refine (KM.out _).mono ?_
        rintro e w1 ⟨rfl, hb1⟩
        have HB1 := Lib.hid (grow HB.out hb1)
        clear hb1
        rw [hd]
        go_wp2
        go_ret
        exact ⟨ret_bool HNO.out.symm, HB1.out⟩
    · have hyes : decide (∀ p ∈ l, May p) = true := decide_eq_true fun p hp => by
        obtain ⟨j, hj, rfl⟩ := List.mem_iff_getElem.1 hp
        exact HM.out j hj (by have := HN.out; omega)
      have HY := Lib.hid hyes
      clear hyes
      go_wp2
      go_ret
      exact ⟨ret_bool HY.out.symm, HB.out⟩

/-- The reference's 'MayAll' of three points that are written out. -/
theorem refAll3 (x0 y0 x1 y1 x2 y2 : Int) (w0 : World) : ∀ b, b = w0.heap.size →
    Calls Try.prog 10 #[.slice (some ⟨b, 0, none⟩) 3 3] (w0.alloc (.cells #[.int .i64 x0, .int .i64 y0, .int .i64 x1, .int .i64 y1, .int .i64 x2, .int .i64 y2] 24)) fun e w' => e = .returned (.bool (decide (May ⟨x0, y0⟩ ∧ May ⟨x1, y1⟩ ∧ May ⟨x2, y2⟩))) ∧ Below w0.heap.size w0 w' := by
  intro b hb
  have h := refAll_any (some ⟨b, 0, none⟩) [⟨x0, y0⟩, ⟨x1, y1⟩, ⟨x2, y2⟩] 3 3 (w0.alloc (.cells #[.int .i64 x0, .int .i64 y0, .int .i64 x1, .int .i64 y1, .int .i64 x2, .int .i64 y2] 24)) rfl (pts3 (Blk.new' w0 _ 24 hb)) (by decide)
  have e : decide (∀ p ∈ [(⟨x0, y0⟩ : Pt), ⟨x1, y1⟩, ⟨x2, y2⟩], May p) = decide (May ⟨x0, y0⟩ ∧ May ⟨x1, y1⟩ ∧ May ⟨x2, y2⟩) := by
    rw [decide_eq_decide]; simp
  rw [e] at h
  exact h.mono fun e w' ⟨h1, h2⟩ => ⟨h1, grow (grow_alloc (Below.refl _ w0) _) h2⟩
end Go.Proofs.Ytkneohngbkmlpaa
