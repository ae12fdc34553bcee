/- Walks: same, awake. -/
import Derived.Test.YtmdmejfcknaokaaDoorW11
import Derived.Test.YtmdmejfcknaokaaDoorW12
import Derived.LoopTactic
namespace Go.Proofs.YtmdmejfcknaokaaDoor
open Go.RowKit

theorem WsAt.get {w : World} {L : Nat} {A : Option Addr} {l : List Wd} (h : WsAt w L A l) {k : Nat} (hk : k < l.length) : ∃ p, A = some p ∧ p.block < L ∧ w.cell? (p.add (k * 3)) = some (.string (str l[k].1)) ∧ w.cell? ⟨(p.add (k * 3)).block, (p.add (k * 3)).off + 1, none⟩ = some (.int .i64 l[k].2.1) ∧ w.cell? ⟨(p.add (k * 3)).block, (p.add (k * 3)).off + 2, none⟩ = some (.int .i64 l[k].2.2) := by
  obtain ⟨p, e, hp, hc⟩ := h (by intro e; rw [e] at hk; simp at hk)
  exact ⟨p, e, hp, hc k hk⟩

set_option maxHeartbeats 2000000 in
theorem same_any (A B : Option Addr) (c d n : Nat) (l : List Wd) (w : World) (hn : l.length = n) (hA : WsAt w w.heap.size A l) (hB : WsAt w w.heap.size B l) (hlen : (n : Int) ≤ 1000000) :
    Calls Tryd.prog 13 #[.slice A n c, .slice B n d] w fun e w' => e = .returned (.bool true) ∧ Below w.heap.size w w' := by
  have HN := Lib.hid hn
  have HA := Lib.hid hA
  have HB := Lib.hid hB
  clear hn hA hB
  go_enter Tryd.func13, Tryd.ntmps13
  go_wp2
  go_loopw [5] (fun i wr => ∃ k : Nat, k ≤ n ∧ i = .int .i64 k ∧ Below w.heap.size w wr) (fun i _ => n - (intOf i).toNat)
  case atStart => exact ⟨0, by omega, rfl, Below.refl _ _⟩
  case round =>
    obtain ⟨k, hk, rfl, hbel⟩ := hrel
    by_cases hlt : k < n
    · have hkl : k < l.length := by rw [HN.out]; exact hlt
      obtain ⟨p, hp, _, a1, a2, a3⟩ := (HA.out.grew hbel).get hkl
      obtain ⟨q, hq, _, b1, b2, b3⟩ := (HB.out.grew hbel).get hkl
      cases hp
      cases hq
      generalize l[k] = x at *
      have hlt' : (k : Int) < n := by omega
      go_wp2_with fail
      go_quiet (fail)
      go_wp2
      go_roundw
      case rel => exact ⟨k + 1, by omega, by go_num, below_drewN hbel nq⟩
      case measure => simp [intOf]; omega
    · have hlt' : ¬ (k : Int) < n := by omega
      go_wp2
      go_ret
      exact ⟨rfl, hbel⟩

theorem OwnW.at_ {et : TypeId} {w : World} {base : Nat} {v : Value} {l : List Wd} (h : OwnW et w base v l) (hne : l ≠ []) : ∃ g c, v = .slice (some ⟨g, 0, none⟩) l.length c ∧ g < w.heap.size ∧ ∀ k (hk : k < l.length), w.cell? ⟨g, k * 3, none⟩ = some (.string (str l[k].1)) ∧ w.cell? ⟨g, k * 3 + 1, none⟩ = some (.int .i64 l[k].2.1) ∧ w.cell? ⟨g, k * 3 + 2, none⟩ = some (.int .i64 l[k].2.2) := by
  rcases h.2 with ⟨rfl, h0⟩ | ⟨g, cap, cur, rfl, hb, hg, hc⟩
  · exact absurd (List.eq_nil_of_length_eq_zero h0) hne
  · refine ⟨_, _, rfl, lt_of_block hg, fun k hk => ?_⟩
    have hk2 := wcells_get hk
    have e : ∀ j, (⟨g, 0, none⟩ : Addr).add j = ⟨g, j, none⟩ := fun j => by unfold Addr.add; split <;> simp_all
    have h1 := World.ownsRow.cells h (g := g) rfl (k * 3) _ hk2.1
    have h2 := World.ownsRow.cells h (g := g) rfl (k * 3 + 1) _ hk2.2.1
    have h3 := World.ownsRow.cells h (g := g) rfl (k * 3 + 2) _ hk2.2.2
    rw [e] at h1 h2 h3
    exact ⟨h1, h2, h3⟩

theorem fold_198 : str (fold 198) = ⟨#[97, 101]⟩ := by decide +kernel
theorem stop_the : StopB ⟨#[116, 104, 101]⟩ = true := by decide +kernel
theorem stop_cat : StopB ⟨#[99, 97, 116]⟩ = false := by decide +kernel
theorem awake_any (w : World) (ht : Tab w) : Calls Tryd.prog 12 #[] w fun e w' => e = .returned (.bool true) ∧ Below w.heap.size w w' := by
  have hW := Words_any awakeT (by decide +kernel) w
  rw [words_awake] at hW
  have HW := Lib.hid hW
  have HT := Lib.hid ht
  clear hW ht
  go_enter Tryd.func12, Tryd.ntmps12
  go_wp2_with fail
  refine (show Calls Tryd.prog 14 #[.string ⟨#[195, 156, 98, 101, 114, 45, 71, 114, 195, 182, 195, 159, 101, 32, 52, 50]⟩] w _ from HW.out).mono ?_
  rintro e w1 ⟨v, rfl, hown, hb1⟩
  obtain ⟨g, c, rfl, hg, hc⟩ := hown.at_ (by simp)
  have a0 := (hc 0 (by simp)).1
  have a1 := (hc 1 (by simp)).1
  have a2 := (hc 2 (by simp)).1
  simp only [List.getElem_cons_zero, List.getElem_cons_succ, List.length_cons, List.length_nil, Nat.reduceAdd, Nat.reduceMul] at a0 a1 a2 ⊢
  have s0 : (str [117, 98, 101, 114]).toList = [117, 98, 101, 114] := by rw [ByteArray.toList_eq]; decide +kernel
  have s1 : (str [103, 114, 111, 115, 115, 101]).toList = [103, 114, 111, 115, 115, 101] := by rw [ByteArray.toList_eq]; decide +kernel
  have s2 : (str [52, 50]).toList = [52, 50] := by rw [ByteArray.toList_eq]; decide +kernel
  have HF := Lib.hid (Fold_any 198 w1)
  have HB := Lib.hid hb1
  clear HW hown hc hb1
  go_wp2_with fail
  refine HF.out.mono ?_
  rintro e w2 ⟨rfl, hb2⟩
  rw [fold_198]
  have HB2 := Lib.hid (grow HB.out hb2)
  have HS := Lib.hid (Stop_any ⟨#[116, 104, 101]⟩ w2 (HT.out.grew HB2.out))
  clear hb2 a0 a1 a2
  go_wp2_with fail
  refine HS.out.mono ?_
  rintro e w3 ⟨rfl, hb3⟩
  rw [stop_the]
  have HB3 := Lib.hid (grow HB2.out hb3)
  have HS2 := Lib.hid (Stop_any ⟨#[99, 97, 116]⟩ w3 (HT.out.grew HB3.out))
  clear hb3 HS
  go_wp2_with fail
  refine HS2.out.mono ?_
  rintro e w4 ⟨rfl, hb4⟩
  rw [stop_cat]
  have HB4 := Lib.hid (grow HB3.out hb4)
  clear hb4 HS2
  go_wp2
  go_ret
  exact ⟨rfl, HB4.out⟩
end Go.Proofs.YtmdmejfcknaokaaDoor
