/- Walks: cross, all. -/
import Derived.Test.YtkneohngbkmlpaaW5
namespace Go.Proofs.Ytkneohngbkmlpaa
open Go.RowKit

theorem cross_any (s0 s1 s2 s3 : Int) (a0 : -1 ≤ s0 * s1) (a1 : s0 * s1 ≤ 1) (b0 : -1 ≤ s2 * s3) (b1 : s2 * s3 ≤ 1) (w : World) :
    Calls Try.prog 46 #[.agg #[.int .i64 s0, .int .i64 s1, .int .i64 s2, .int .i64 s3]] w fun e w' => e = .returned (.bool (decide (s0 * s1 < 0) && decide (s2 * s3 < 0))) ∧ Below w.heap.size w w' := by
  by_cases h : s0 * s1 < 0
  · rw [decide_eq_true h]
    go_enter Try.func46, Try.ntmps46
    go_wp2
    go_ret
    exact ⟨rfl, by go_grown⟩
  · rw [decide_eq_false h]
    go_enter Try.func46, Try.ntmps46
    go_wp2
    go_ret
    exact ⟨rfl, by go_grown⟩

theorem add_block (p : Addr) (k : Nat) : (p.add k).block = p.block := by
  unfold Addr.add; split <;> rfl
theorem add_one (p : Addr) : p.add 1 = ⟨p.block, p.off + 1, none⟩ := by
  show (if _ then _ else _) = _
  simp
/-- A slice reads as points, in a block below L. -/
def Pts (w : World) (L : Nat) (A : Option Addr) (l : List Pt) : Prop :=
  l ≠ [] → ∃ p, A = some p ∧ p.block < L ∧ ∀ k (h : k < l.length), w.cell? (p.add (k * 2)) = some (.int .i64 l[k].x) ∧ w.cell? ((p.add (k * 2)).add 1) = some (.int .i64 l[k].y)
theorem Pts.below {w w' : World} {L B : Nat} {A : Option Addr} {l : List Pt} (h : Pts w L A l) (hb : Below B w w') (hL : L ≤ B) : Pts w' L A l := by
  intro hn
  obtain ⟨p, e, hp, hc⟩ := h hn
  refine ⟨p, e, hp, fun k hk => ?_⟩
  rw [hb.cell (by rw [add_block]; omega), hb.cell (by rw [add_block, add_block]; omega)]
  exact hc k hk
theorem Pts.get {w : World} {L : Nat} {A : Option Addr} {l : List Pt} (h : Pts w L A l) {k : Nat} (hk : k < l.length) : ∃ p, A = some p ∧ p.block < L ∧ w.cell? (p.add (k * 2)) = some (.int .i64 l[k].x) ∧ w.cell? ((p.add (k * 2)).add 1) = some (.int .i64 l[k].y) := by
  obtain ⟨p, e, hp, hc⟩ := h (by intro e; rw [e] at hk; simp at hk)
  exact ⟨p, e, hp, hc k hk⟩

set_option maxHeartbeats 1000000 in
theorem all_any (A : Option Addr) (l : List Pt) (n c : Nat) (w : World) (hn : l.length = n) (hr : Pts w w.heap.size A l) (hl : (n : Int) ≤ 1000000) :
    Calls Try.prog 39 #[.slice A n c] w fun e w' => e = .returned (.bool (decide (∀ p ∈ l, May p))) ∧ Below w.heap.size w w' := by
  have HR := Lib.hid hr
  have HN := Lib.hid hn
  clear hr hn
  go_enter Try.func39, Try.ntmps39
  go_wp2
  go_loopw [7] (fun i wr => ∃ k : Nat, k ≤ n ∧ i = .int .i64 k ∧ Hid (Below w.heap.size w wr) ∧ Hid (∀ j (h : j < l.length), j < k → May l[j])) (fun i _ => n - (intOf i).toNat)
  case atStart => exact ⟨0, by omega, rfl, Lib.hid (Below.refl _ _), Lib.hid fun j _ h => absurd h (by omega)⟩
  case round =>
    obtain ⟨k, hk, rfl, HB, HM⟩ := hrel
    by_cases hlt : k < n
    · have hkl : k < l.length := by rw [HN.out]; exact hlt
      obtain ⟨p, e, _, h1, h2⟩ := (HR.out.below HB.out (Nat.le_refl _)).get hkl
      cases e
      obtain ⟨q, hq⟩ : ∃ q, l[k] = q := ⟨_, rfl⟩
      rw [hq] at h1 h2
      have HQ := Lib.hid hq
      clear hq
      have km := May_any q
      obtain ⟨qx, qy⟩ := q
      dsimp only at h1 h2
      have KM := Lib.hid km
      clear km
      rw [add_one] at h2
      by_cases hm : May ⟨qx, qy⟩
      · have hd : decide (May ⟨qx, qy⟩) = true := decide_eq_true hm
        go_wp2_with fail
        refine (KM.out _).mono ?_
        rintro e w1 ⟨rfl, hb1⟩
        have HB1 := Lib.hid (grow (grow_alloc HB.out (.cells #[.int .i64 qx, .int .i64 qy] 24)) hb1)
        clear hb1
        rw [hd]
        have HM2 := Lib.hid hm
        clear hm hd
        go_wp2
        go_round
        case rel => exact ⟨k + 1, by omega, val_int rfl, HB1, Lib.hid fun j h hj => by
          by_cases e : j = k
          · subst e; rw [HQ.out]; exact HM2.out
          · exact HM.out j h (by omega)⟩
        case measure => simp only [intOf]; omega
      · have hd : decide (May ⟨qx, qy⟩) = false := decide_eq_false hm
        have hno : decide (∀ p ∈ l, May p) = false := decide_eq_false fun h => hm (by rw [← HQ.out]; exact h _ (List.getElem_mem _))
        have HNO := Lib.hid hno
        clear hno hm
        go_wp2_with fail
        refine (KM.out _).mono ?_
        rintro e w1 ⟨rfl, hb1⟩
        have HB1 := Lib.hid (grow (grow_alloc HB.out (.cells #[.int .i64 qx, .int .i64 qy] 24)) hb1)
        clear hb1
        rw [hd]
        go_wp2
        go_ret
        exact ⟨ret_bool HNO.out.symm, HB1.out⟩
    · have hyes : decide (∀ p ∈ l, May p) = true := decide_eq_true fun p hp => by
        obtain ⟨j, hj, rfl⟩ := List.mem_iff_getElem.1 hp
        exact HM.out j hj (by have := HN.out; omega)
      have HY := Lib.hid hyes
      clear hyes
      go_wp2
      go_ret
      exact ⟨ret_bool HY.out.symm, HB.out⟩

end Go.Proofs.Ytkneohngbkmlpaa
