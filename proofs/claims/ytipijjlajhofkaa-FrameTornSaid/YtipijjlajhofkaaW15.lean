/- Walks: the program's Read. -/
import Derived.Test.YtipijjlajhofkaaW14
namespace Go.Proofs.Ytipijjlajhofkaa
open Go.RowKit

set_option maxHeartbeats 1000000 in
theorem Read_size (A : Option Addr) (n c : Nat) (w : World) (h : okSize n = false) :
    Calls Try.prog 16 #[.slice A n c] w fun e w' => e = .returned (.tuple #[.int .i64 0, .slice none 0 0, .int .i64 3]) ∧ w = w' := by
  have hm := may_any n
  rw [h] at hm
  clear h
  go_enter Try.func16, Try.ntmps16
  go_wp2_with fail
  refine (hm w).mono ?_
  rintro e w1 ⟨rfl, rfl⟩
  go_wp2
  go_ret3
  exact ⟨rfl, rfl⟩

theorem Rd.drewN {w : World} {L : Nat} {A : Option Addr} {l : List Nat} (h : Rd w L A l) (k : Nat) : Rd (w.drewN k) L A l := h

theorem below_drewN (w : World) (k : Nat) : Below w.heap.size w (w.drewN k) := ⟨rfl, rfl, rfl, Nat.le_refl _, fun _ _ => rfl⟩

/-- The road of 'Read' over what its calls tell. -/
def road (mb mt : Int) (g cr : Nat) : Bool := decide (mb ≠ 0 ∧ mb = mt ∧ g = cr)

set_option maxHeartbeats 2000000 in
theorem Read_road (p : Addr) (n c : Nat) (w : World) (mb mt : Int) (g cr : Nat) (lo : List Nat) (h1 : (64 : Int) ≤ n) (h2 : (n : Int) ≤ 4096) (hc : (n : Int) ≤ c)
    (hcr : (cr : Int) ≤ 4294967295)
    (k1 : ∀ k, Calls Try.prog 23 #[.slice (some p) (n - 16 - 4) (n - 16 - 4)] (w.drewN k) fun e w' => e = .returned (.int .i64 mb) ∧ w.drewN k = w')
    (k2 : ∀ k, Calls Try.prog 23 #[.slice (some ⟨(p.add (n - 16 - 4)).block, (p.add (n - 16 - 4)).off + 4, none⟩) (n - (n - 16 - 4) - 4) (c - (n - 16 - 4) - 4)] (w.drewN k) fun e w' => e = .returned (.int .i64 mt) ∧ w.drewN k = w')
    (k3 : ∀ k, Calls Try.prog 24 #[.slice (some (p.add (n - 16 - 4))) (n - (n - 16 - 4)) (c - (n - 16 - 4)), .int .i64 4] (w.drewN k) fun e w' => e = .returned (.int .u32 g) ∧ w.drewN k = w')
    (k4 : ∀ k, Calls Try.prog 9 #[.slice (some p) (n - 16 - 4) (n - 16 - 4)] (w.drewN k) fun e w' => e = .returned (.int .u32 cr) ∧ w.drewN k = w')
    (k5 : ∀ k, Calls Try.prog 25 #[.slice (some ⟨p.block, p.off + 16, none⟩) (n - 16 - 4 - 16) (n - 16 - 4 - 16)] (w.drewN k) fun e w' => ∃ v', e = .returned v' ∧ Own w' w.heap.size v' lo ∧ Below w.heap.size w w') :
    Calls Try.prog 16 #[.slice (some p) n c] w fun e w' => ∃ v', e = .returned (.tuple #[.int .i64 (if road mb mt g cr then mb else 0), v', .int .i64 (if road mb mt g cr then 0 else 5)]) ∧ (if road mb mt g cr then Own w' w.heap.size v' lo else v' = .slice none 0 0) ∧ Below w.heap.size w w' := by
  have hm := may_any n
  rw [show okSize n = true by simp [okSize]; omega] at hm
  by_cases q1 : mb = 0
  · subst q1
    simp only [road, ne_eq, not_true, false_and, decide_false, Bool.false_eq_true, if_false]
    go_enter Try.func16, Try.ntmps16
    go_wp2_with fail
    refine (hm w).mono ?_
    rintro e w1 ⟨rfl, rfl⟩
    go_wp2_with fail
    go_quiet (fail)
    go_wp2_with fail
    refine (k1 nq).mono ?_
    rintro e w1 ⟨rfl, rfl⟩
    go_wp2
    go_ret3
    exact ⟨_, rfl, rfl, below_drewN _ _⟩
  by_cases q2 : ¬ mb = mt
  · have q2' : (mb != mt) = true := by simpa using q2
    have er : road mb mt g cr = false := by simp [road, q2]
    simp only [er, Bool.false_eq_true, if_false]
    clear er
    go_enter Try.func16, Try.ntmps16
    go_wp2_with fail
    refine (hm w).mono ?_
    rintro e w1 ⟨rfl, rfl⟩
    go_wp2_with fail
    go_quiet (fail)
    go_wp2_with fail
    refine (k1 nq).mono ?_
    rintro e w1 ⟨rfl, rfl⟩
    go_wp2_with fail
    refine (k2 nq).mono ?_
    rintro e w1 ⟨rfl, rfl⟩
    go_wp2
    go_ret3
    exact ⟨_, rfl, rfl, below_drewN _ _⟩
  have q2 : mb = mt := by omega
  subst q2
  by_cases q3 : g = cr
  · subst q3
    have er : road mb mb g g = true := by simp [road, q1]
    simp only [er, if_true]
    clear er
    go_enter Try.func16, Try.ntmps16
    go_wp2_with fail
    refine (hm w).mono ?_
    rintro e w1 ⟨rfl, rfl⟩
    go_wp2_with fail
    go_quiet (fail)
    go_wp2_with fail
    refine (k1 nq).mono ?_
    rintro e w1 ⟨rfl, rfl⟩
    go_wp2_with fail
    refine (k2 nq).mono ?_
    rintro e w1 ⟨rfl, rfl⟩
    go_wp2_with fail
    refine (k3 nq).mono ?_
    rintro e w1 ⟨rfl, rfl⟩
    go_wp2_with fail
    refine (k4 nq).mono ?_
    rintro e w1 ⟨rfl, rfl⟩
    go_wp2_with fail
    refine (k5 nq).mono ?_
    rintro e w1 ⟨v', rfl, ho, hb⟩
    have HO := Lib.hid ho
    have HB := Lib.hid hb
    clear ho hb
    go_wp2
    go_ret3
    exact ⟨_, rfl, HO.out, HB.out⟩
  · have q3' : ((g : Int) != (cr : Int)) = true := by simp; omega
    have er : road mb mb g cr = false := by simp [road, q3]
    simp only [er, Bool.false_eq_true, if_false]
    clear er
    go_enter Try.func16, Try.ntmps16
    go_wp2_with fail
    refine (hm w).mono ?_
    rintro e w1 ⟨rfl, rfl⟩
    go_wp2_with fail
    go_quiet (fail)
    go_wp2_with fail
    refine (k1 nq).mono ?_
    rintro e w1 ⟨rfl, rfl⟩
    go_wp2_with fail
    refine (k2 nq).mono ?_
    rintro e w1 ⟨rfl, rfl⟩
    go_wp2_with fail
    refine (k3 nq).mono ?_
    rintro e w1 ⟨rfl, rfl⟩
    go_wp2_with fail
    refine (k4 nq).mono ?_
    rintro e w1 ⟨rfl, rfl⟩
    go_wp2
    go_ret3
    exact ⟨_, rfl, rfl, below_drewN _ _⟩

/-- What 'Read' asks of a sector's bytes, and what it tells. -/
def readOk (l : List Nat) : Bool := road (markOf (l.take (l.length - 16 - 4))) (markOf ((l.drop (l.length - 16 - 4)).drop 4)) (num ((l.drop (l.length - 16 - 4)).take 4)) (M.crc (l.take (l.length - 16 - 4)))
def readMark (l : List Nat) : Int := if readOk l then markOf (l.take (l.length - 16 - 4)) else 0
def readLoad (l : List Nat) : List Nat := if readOk l then (l.take (l.length - 16 - 4)).drop 16 else []
def readErr (l : List Nat) : Int := if readOk l then 0 else 5

theorem Read_any (p : Addr) (l : List Nat) (c : Nat) (w : World) (hr : Rd w w.heap.size (some p) l) (h1 : (64 : Int) ≤ l.length) (h2 : (l.length : Int) ≤ 4096) (hc : (l.length : Int) ≤ c) :
    Calls Try.prog 16 #[.slice (some p) l.length c] w fun e w' => ∃ v', e = .returned (.tuple #[.int .i64 (readMark l), v', .int .i64 (readErr l)]) ∧ Own w' w.heap.size v' (readLoad l) ∧ Below w.heap.size w w' := by
  have hN : (l.take (l.length - 16 - 4)).length = l.length - 16 - 4 := by simp; omega
  have ha4 : (p.add (l.length - 16 - 4)).add 4 = ⟨(p.add (l.length - 16 - 4)).block, (p.add (l.length - 16 - 4)).off + 4, none⟩ := by
    show (if _ then _ else _) = _
    simp
  have ha16 : p.add 16 = ⟨p.block, p.off + 16, none⟩ := by
    show (if _ then _ else _) = _
    simp
  have hcr := M.crc_lt (l.take (l.length - 16 - 4))
  have k1 : ∀ k, Calls Try.prog 23 #[.slice (some p) (l.length - 16 - 4) (l.length - 16 - 4)] (w.drewN k) fun e w' => e = .returned (.int .i64 (markOf (l.take (l.length - 16 - 4)))) ∧ w.drewN k = w' := fun k =>
    marked_any p (l.take (l.length - 16 - 4)) (l.length - 16 - 4) _ (w.drewN k) hN ((hr.take_ _).drewN k) (by omega) (by omega) (by omega)
  have k2 := fun k => marked_any ((p.add (l.length - 16 - 4)).add 4) ((l.drop (l.length - 16 - 4)).drop 4) (l.length - (l.length - 16 - 4) - 4) (c - (l.length - 16 - 4) - 4) (w.drewN k) (by rw [List.length_drop, List.length_drop]) (((hr.drop_ _).drop_ 4).drewN k) (by omega) (by omega) (by omega)
  rw [ha4] at k2
  have k3 := fun k => get_u32 (p.add (l.length - 16 - 4)) (l.drop (l.length - 16 - 4)) (l.length - (l.length - 16 - 4)) (c - (l.length - 16 - 4)) (w.drewN k) (by simp) ((hr.drop_ _).drewN k) (by omega)
  have k4 := fun k => Check_any (some p) (l.take (l.length - 16 - 4)) (l.length - 16 - 4) (w.drewN k) ((hr.take_ _).drewN k) (by omega)
  rw [hN] at k4
  have hL : ((l.take (l.length - 16 - 4)).drop 16).length = l.length - 16 - 4 - 16 := by rw [List.length_drop, hN]
  have k5 := fun k => Clone_any (p.add 16) ((l.take (l.length - 16 - 4)).drop 16) (l.length - 16 - 4 - 16) (w.drewN k) (((hr.take_ _).drop_ 16).drewN k) (by omega)
  rw [hL, ha16] at k5
  have k5' : ∀ k, Calls Try.prog 25 #[.slice (some ⟨p.block, p.off + 16, none⟩) (l.length - 16 - 4 - 16) (l.length - 16 - 4 - 16)] (w.drewN k) fun e w' => ∃ v', e = .returned v' ∧ Own w' w.heap.size v' ((l.take (l.length - 16 - 4)).drop 16) ∧ Below w.heap.size w w' := fun k => by
    refine (k5 k).mono ?_
    rintro e w' ⟨v', he, ho, hb⟩
    exact ⟨v', he, ho, (below_drewN w k).trans hb⟩
  refine (Read_road p l.length c w _ _ _ _ _ h1 h2 hc (by omega) k1 k2 k3 k4 k5').mono ?_
  rintro e w' ⟨v', rfl, ho, hb⟩
  refine ⟨v', rfl, ?_, hb⟩
  show Own w' w.heap.size v' (if readOk l then _ else [])
  change (if readOk l = true then _ else _) at ho
  cases hk : readOk l
  · rw [hk] at ho
    simp only [Bool.false_eq_true, if_false] at ho ⊢
    rw [ho]
    exact Own.none_ _ _
  · rw [hk] at ho
    simpa using ho

end Go.Proofs.Ytipijjlajhofkaa
