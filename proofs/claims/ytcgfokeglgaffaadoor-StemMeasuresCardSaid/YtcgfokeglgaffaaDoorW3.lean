/- Walks: Measure, voiced. -/
import Derived.Test.YtcgfokeglgaffaaDoorW2
namespace Go.Proofs.YtcgfokeglgaffaaDoor
open Go.RowKit

theorem OwnB.cells {w : World} {base : Nat} {v : Value} {l : List Bool} (h : OwnB w base v l) : ∃ A c, v = .slice A l.length c ∧ ∀ k (hk : k < l.length), ∃ g, A = some ⟨g, 0, none⟩ ∧ g < w.heap.size ∧ w.cell? ⟨g, k, none⟩ = some (.bool l[k]) := by
  obtain ⟨A, c, h1, h2⟩ := h.form
  refine ⟨A, c, h1, fun k hk => ?_⟩
  obtain ⟨g, e, _, hg, hc⟩ := h2 (by intro e; rw [e] at hk; simp at hk)
  exact ⟨g, e, hg, hc k hk⟩
theorem measGo_drop (l : List Bool) (la : Bool) (k : Nat) (h : k < l.length) : measGo la (l.drop k) = (if la && !l[k] then 1 else 0) + measGo l[k] (l.drop (k + 1)) := by
  rw [List.drop_eq_getElem_cons h]; rfl

theorem Measure_any (s : ByteArray) (hs : (s.size : Int) ≤ 100000) (w : World) : Calls Tryd.prog 6 #[.string s] w fun e w' => e = .returned (.int .i64 (meas s)) ∧ Below w.heap.size w w' := by
  obtain ⟨M, hM⟩ : ∃ M, M = meas s := ⟨_, rfl⟩
  have hle := meas_le s
  have hsl := snd_len s
  rw [← hM] at hle ⊢
  have hM' : 0 + measGo false ((snd s).drop 0) = M := by rw [hM, Nat.zero_add]; rfl
  have HS := Lib.hid (sounds_any s hs w)
  generalize snd s = l at *
  have HM := Lib.hid hM'
  have hmb : (M : Int) ≤ 100000 := by omega
  have hlb : (l.length : Int) ≤ 100000 := by omega
  clear hM hM' hle hsl
  go_enter Tryd.func6, Tryd.ntmps6
  go_wp2_with fail
  refine HS.out.mono ?_
  rintro e w1 ⟨v, rfl, hown, hb1⟩
  obtain ⟨A, c, rfl, hc⟩ := hown.cells
  have HB1 := Lib.hid hb1
  obtain ⟨n, hn⟩ : ∃ n, n = l.length := ⟨_, rfl⟩
  rw [← hn] at hlb ⊢
  have HN := Lib.hid hn
  have HC := Lib.hid hc
  clear hown hb1 hc HS hn
  go_wp2
  go_loop [3, 4, 10] (fun m vl i => ∃ (k x : Nat) (la : Bool), k ≤ n ∧ (x : Int) ≤ M ∧ i = .int .i64 k ∧ m = .int .i64 x ∧ vl = .bool la ∧ Hid (x + measGo la (l.drop k) = M)) (fun _ _ i => n - (intOf i).toNat)
  case atStart => exact ⟨0, 0, false, by omega, by omega, rfl, rfl, rfl, HM⟩
  case round =>
    clear HM
    obtain ⟨k, x, la, hk, hx, rfl, rfl, rfl, H⟩ := hrel
    by_cases hlt : k < n
    · have hkl : k < l.length := by rw [← HN.out]; exact hlt
      obtain ⟨g, rfl, hg, hcell⟩ := HC.out k hkl
      have hstep := H.out
      rw [measGo_drop l la k hkl] at hstep
      generalize l[k] = b at *
      have HST := Lib.hid hstep
      have hlt' : (k : Int) < n := by omega
      clear hstep H
      cases la <;> cases b
      all_goals
        have hst := HST.out
        simp only [Bool.false_and, Bool.true_and, Bool.not_true, Bool.not_false, Bool.false_eq_true, if_false, if_true] at hst
        have HS2 := Lib.hid hst
        have hx1 : (x : Int) + 1 ≤ 100001 := by omega
        clear hst HST
        go_wp2
        go_round
        case rel => first
          | exact ⟨k + 1, x, _, by omega, hx, by go_num, rfl, rfl, Lib.hid (by rw [← HS2.out]; omega)⟩
          | exact ⟨k + 1, x + 1, _, by omega, by have := HS2.out; omega, by go_num, by go_num, rfl, Lib.hid (by rw [← HS2.out]; omega)⟩
        case measure => simp [intOf]; omega
    · have hlt' : ¬ (k : Int) < n := by omega
      have hr : x = M := by
        have := H.out
        rw [List.drop_eq_nil_of_le (by rw [← HN.out]; omega)] at this
        simpa [measGo] using this
      subst hr
      clear H
      go_wp2
      go_ret
      exact ⟨rfl, HB1.out⟩

/-- Where the first one is that is true. -/
def firstT : List Bool → Int
  | [] => -1
  | b :: r => if b then 0 else if firstT r = -1 then -1 else firstT r + 1
theorem Index_any (l : List Bool) (A : Option Addr) (n c : Nat) (hn : n = l.length) (hlb : (n : Int) ≤ 100000) (w : World) (hc : ∀ k (hk : k < l.length), ∃ g, A = some ⟨g, 0, none⟩ ∧ g < w.heap.size ∧ w.cell? ⟨g, k, none⟩ = some (.bool l[k])) :
    Calls Tryd.prog 46 #[.slice A n c, .bool true] w fun e w' => (∃ r : Int, e = .returned (.int .i64 r) ∧ -1 ≤ r ∧ (decide (0 ≤ r) = l.contains true)) ∧ w' = w := by
  have HN := Lib.hid hn
  have HC := Lib.hid hc
  obtain ⟨B, hB⟩ : ∃ B, B = l.contains true := ⟨_, rfl⟩
  rw [← hB]
  have HBB := Lib.hid hB
  clear hn hc hB
  go_enter Tryd.func46, Tryd.ntmps46
  go_wp2
  go_loop [8] (fun i => ∃ k : Nat, k ≤ n ∧ i = .int .i64 k ∧ Hid (∀ j (h : j < l.length), j < k → l[j] = false)) (fun i => n - (intOf i).toNat)
  case atStart => exact ⟨0, by omega, rfl, Lib.hid (fun j _ hj => by omega)⟩
  case round =>
    obtain ⟨k, hk, rfl, H⟩ := hrel
    by_cases hlt : k < n
    · have hkl : k < l.length := by rw [← HN.out]; exact hlt
      obtain ⟨g, rfl, hg, hcell⟩ := HC.out k hkl
      have hlt' : (k : Int) < n := by omega
      obtain ⟨b, hb⟩ : ∃ b, b = l[k] := ⟨_, rfl⟩
      rw [← hb] at hcell
      have HBK := Lib.hid hb
      clear hb
      cases b
      · have HN2 : Hid (∀ j (h : j < l.length), j < k + 1 → l[j] = false) := Lib.hid (fun j h hj => by
          by_cases e : j = k
          · subst e; exact HBK.out.symm
          · exact H.out j h (by omega))
        clear HBK H
        go_wp2
        go_round
        case rel => exact ⟨k + 1, by omega, by go_num, HN2⟩
        case measure => simp [intOf]; omega
      · have hr : l.contains true = true := by rw [List.contains_iff_mem, HBK.out]; exact List.getElem_mem hkl
        obtain rfl : B = true := HBB.out.trans hr
        clear HBK H hr HBB
        go_wp2
        go_ret
        exact ⟨⟨_, rfl, by omega, by omega⟩, rfl⟩
    · have hlt' : ¬ (k : Int) < n := by omega
      have hr : l.contains true = false := by
        rw [Bool.eq_false_iff]
        intro h
        rw [List.contains_iff_mem] at h
        obtain ⟨j, hj, e⟩ := List.getElem_of_mem h
        have h2 := HN.out
        rw [H.out j hj (by omega)] at e
        cases e
      obtain rfl : B = false := HBB.out.trans hr
      clear H hr HBB
      go_wp2
      go_ret
      exact ⟨⟨_, rfl, by omega, by omega⟩, rfl⟩
theorem Contains_any (l : List Bool) (A : Option Addr) (n c : Nat) (hn : n = l.length) (hlb : (n : Int) ≤ 100000) (w : World) (hc : ∀ k (hk : k < l.length), ∃ g, A = some ⟨g, 0, none⟩ ∧ g < w.heap.size ∧ w.cell? ⟨g, k, none⟩ = some (.bool l[k])) :
    Calls Tryd.prog 32 #[.slice A n c, .bool true] w fun e w' => e = .returned (.bool (l.contains true)) ∧ w' = w := by
  have HI := Lib.hid (Index_any l A n c hn hlb w hc)
  generalize l.contains true = r at *
  clear hn hc
  go_enter Tryd.func32, Tryd.ntmps32
  go_wp2_with fail
  refine HI.out.mono ?_
  rintro e w1 ⟨⟨x, rfl, h1, h2⟩, rfl⟩
  subst h2
  clear HI
  go_wp2
  go_ret
  exact ⟨rfl, rfl⟩
theorem voiced_any (t : W) (ht : Letters t) (hl : (t.length : Int) ≤ 100000) (w : World) : Calls Tryd.prog 19 #[.string (S t)] w fun e w' => e = .returned (.bool (voicedL t)) ∧ Below w.heap.size w w' := by
  have hs := sounds_any (S t) (by rw [S_size]; exact hl) w
  rw [snd_letters t ht] at hs
  have hlen := sndL_len t
  obtain ⟨B, hB⟩ : ∃ B, B = voicedL t := ⟨_, rfl⟩
  rw [← hB]
  unfold voicedL at hB
  generalize sndL t = l at *
  have HBB := Lib.hid hB
  clear hB
  have HS := Lib.hid hs
  have HL := Lib.hid hlen
  clear hs hlen ht
  go_enter Tryd.func19, Tryd.ntmps19
  go_wp2_with fail
  refine HS.out.mono ?_
  rintro e w1 ⟨v, rfl, hown, hb1⟩
  obtain ⟨A, c, rfl, hc⟩ := hown.cells
  have hi := Contains_any l A l.length c rfl (by rw [HL.out]; exact hl) w1 hc
  rw [← HBB.out] at hi
  have HI := Lib.hid hi
  clear hi
  have HB := Lib.hid hb1
  clear hc hown hb1 HS
  go_wp2_with fail
  refine HI.out.mono ?_
  rintro e w2 ⟨rfl, rfl⟩
  go_wp2
  go_ret
  exact ⟨rfl, HB.out⟩
end Go.Proofs.YtcgfokeglgaffaaDoor
