/- Walks: the log's small functions: Room, may, mark, at. Walks: the log's numbers of 8 bytes; a log in memory: Start, Left, Dead. A row of changes in memory; slices.ContainsFunc over it and over bytes. Walks: Left; the tests of a group; why a group can't be appended. Printed by mk_l4.py. -/
import Derived.Test.YtfmdmfiljplkoaaGreatFr
import Derived.Test.YtfmdmfiljplkoaaGreatHeld
namespace Go.Proofs.YtfmdmfiljplkoaaGreat
open Go.RowKit Go.Maps
set_option maxRecDepth 8000
variable {ι : Type} [Bar ι]
def lroom (n : Int) : Int := max (room n - 9) 0
theorem room_le (n : Int) : 0 ≤ room n ∧ room n ≤ 4060 := by unfold room okSize; split <;> simp_all; omega
theorem LRoom_any (n : Int) (w : World) : Calls Tryz.prog 175 #[.int .i64 n] w fun e w' => e = .returned (.int .i64 (lroom n)) ∧ w' = w := by
  have h := room_le n
  have HR := Lib.hid (Room_any n w)
  unfold lroom
  generalize room n = r at *
  by_cases hr : 9 ≤ r
  · have e1 : max (r - 9) 0 = r - 9 := by omega
    rw [e1]
    go_enter Tryz.func175, Tryz.ntmps175
    go_wp2_with fail
    refine HR.out.mono ?_
    rintro e w1 ⟨rfl, rfl⟩
    clear HR
    go_wp2
    go_ret
    exact ⟨rfl, rfl⟩
  · have e1 : max (r - 9) 0 = 0 := by omega
    rw [e1]
    go_enter Tryz.func175, Tryz.ntmps175
    go_wp2_with fail
    refine HR.out.mono ?_
    rintro e w1 ⟨rfl, rfl⟩
    clear HR
    go_wp2
    go_ret
    exact ⟨rfl, rfl⟩
def okEp (e : Int) : Bool := decide (1 ≤ e ∧ e ≤ 1099511627776)
theorem lmay_any (e : Int) (w : World) : Calls Tryz.prog 133 #[.int .i64 e] w fun r w' => r = .returned (.bool (okEp e)) ∧ w' = w := by
  unfold okEp
  by_cases h1 : 1 ≤ e
  · by_cases h2 : e ≤ 1099511627776
    · rw [decide_eq_true ⟨h1, h2⟩]
      go_enter Tryz.func133, Tryz.ntmps133
      go_wp2
      go_ret
      exact ⟨rfl, rfl⟩
    · rw [decide_eq_false (by omega)]
      go_enter Tryz.func133, Tryz.ntmps133
      go_wp2
      go_ret
      exact ⟨rfl, rfl⟩
  · rw [decide_eq_false (by omega)]
    go_enter Tryz.func133, Tryz.ntmps133
    go_wp2
    go_ret
    exact ⟨rfl, rfl⟩
theorem mark_any (e : Int) (s : Int) (he : 1 ≤ e ∧ e ≤ 1099511627776) (hs : 0 ≤ s ∧ s ≤ 1048576) (w : World) : Calls Tryz.prog 166 #[.int .i64 e, .int .i64 s] w fun r w' => r = .returned (.int .i64 (e * 2097152 + s + 1)) ∧ w' = w := by
  go_enter Tryz.func166, Tryz.ntmps166
  go_wp2
  go_ret
  exact ⟨rfl, rfl⟩
/-- Where a log may stand. -/
def okAt (D : Dsk) (f c : Int) : Bool := decide (0 ≤ f ∧ 1 ≤ c ∧ c ≤ 1048576 ∧ f ≤ D.sectors - c)
section
variable {b m : Nat} {vl : Value} {D : Dsk} {w : World}
theorem at_ok (h : DiskAt w b m vl D) (f c : Int) (hk : okAt D f c = true) :
    Calls Tryz.prog 110 #[.pointer (some ⟨b, 0, none⟩), .int .i64 f, .int .i64 c] w fun e w' => e = .returned (.tuple #[.agg #[.pointer (some ⟨b, 0, none⟩), .int .i64 f, .int .i64 c], .int .i64 0]) ∧ Below w.heap.size w w' := by
  unfold okAt at hk
  obtain ⟨h0, h1, h2, h3⟩ := of_decide_eq_true hk
  have hs2 := h.ok.s2
  have HS := Lib.hid (Sectors_any (h.alloc (.cells #[.pointer none, .int .i64 0, .int .i64 0] 172)))
  clear hk h
  go_enter Tryz.func110, Tryz.ntmps110
  go_wp2_with fail
  refine HS.out.mono ?_
  rintro e w1 ⟨rfl, rfl⟩
  clear HS
  go_wp2
  refine bodyPost_ret (v := .tuple #[.agg #[.pointer (some ⟨b, 0, none⟩), .int .i64 f, .int .i64 c], .int .i64 0]) ?_ rfl ⟨rfl, ?_⟩
  · simp [results, Tryz.results110, go_sem]
  · go_grown
end
end Go.Proofs.YtfmdmfiljplkoaaGreat
namespace Go.Proofs.YtfmdmfiljplkoaaGreat
open Go.RowKit Go.Maps
set_option maxRecDepth 8000
variable {ι : Type} [Bar ι]
theorem or_join64 (X b k : Nat) (hk : k < 8) (hX : X < 2 ^ (8 * k)) (hb : b < 256) :
    bits .or .u64 (X : Int) ((b * 2 ^ (8 * k) : Nat) : Int) = ((X + b * 2 ^ (8 * k) : Nat) : Int) := by
  have hs : b * 2 ^ (8 * k) + X < 18446744073709551616 := by
    have h1 : (b + 1) * 2 ^ (8 * k) ≤ 256 * 2 ^ (8 * k) := Nat.mul_le_mul_right _ (by omega)
    have h2 : 256 * 2 ^ (8 * k) ≤ 2 ^ 64 := by
      rw [show (256 : Nat) = 2 ^ 8 from rfl, ← Nat.pow_add]
      exact Nat.pow_le_pow_right (by omega) (by omega)
    rw [Nat.add_mul, Nat.one_mul] at h1
    omega
  rw [u64_or_nat _ _ (by omega) (by omega), Nat.or_comm, Nat.mul_comm b, ← Nat.two_pow_add_eq_or_of_lt hX, Nat.add_comm]
theorem small64 (b k : Nat) (hk : k < 8) (hb : b < 256) : (b : Int) * 2 ^ (8 * k) % 18446744073709551616 = ((b * 2 ^ (8 * k) : Nat) : Int) := by
  have hs : b * 2 ^ (8 * k) < 18446744073709551616 := by
    have h1 : (b + 1) * 2 ^ (8 * k) ≤ 256 * 2 ^ (8 * k) := Nat.mul_le_mul_right _ (by omega)
    have h2 : 256 * 2 ^ (8 * k) ≤ 2 ^ 64 := by
      rw [show (256 : Nat) = 2 ^ 8 from rfl, ← Nat.pow_add]
      exact Nat.pow_le_pow_right (by omega) (by omega)
    have h3 : 0 < 2 ^ (8 * k) := Nat.pow_pos (by omega)
    rw [Nat.add_mul, Nat.one_mul] at h1
    omega
  have e : (b : Int) * 2 ^ (8 * k) = ((b * 2 ^ (8 * k) : Nat) : Int) := by rw [Int.natCast_mul, Int.natCast_pow]; rfl
  rw [e]
  omega
/-! ### a log -/
structure Lg where
  first : Nat
  count : Nat
  epoch : Nat
  next : Nat
  dead : Bool
structure Lg.Ok (L : Lg) : Prop where
  f : L.first ≤ 1048576
  c : L.count ≤ 1048576
  e : 1 ≤ L.epoch ∧ L.epoch ≤ 1099511627776
  n : L.next ≤ L.count
/-- The log in block G, on the disk in block b. -/
def LogIn (w : World) (G b : Nat) (L : Lg) : Prop := Blk w G #[.pointer (some ⟨b, 0, none⟩), .int .i64 L.first, .int .i64 L.count, .int .i64 L.epoch, .int .i64 L.next, .bool L.dead] 199
section
variable {b m : Nat} {vl : Value} {D : Dsk} {w : World}
theorem Start_ok (h : DiskAt w b m vl D) (f c e : Nat) (hk : okAt D f c = true) (he : okEp e = true) :
    Calls Tryz.prog 117 #[.pointer (some ⟨b, 0, none⟩), .int .i64 f, .int .i64 c, .int .i64 e] w fun r w' => ∃ G, r = .returned (.tuple #[.pointer (some ⟨G, 0, none⟩), .int .i64 0]) ∧ LogIn w' G b ⟨f, c, e, 0, false⟩ ∧ w.heap.size ≤ G ∧ Below w.heap.size w w' := by
  have HA := Lib.hid (at_ok h f c hk)
  have HM := Lib.hid (fun w => lmay_any e w)
  rw [he] at HM
  clear h hk he
  go_enter Tryz.func117, Tryz.ntmps117
  go_wp2_with fail
  refine HA.out.mono ?_
  rintro r w1 ⟨rfl, hb⟩
  have HB := Lib.hid (grow_alloc hb (.cells #[.pointer (some ⟨b, 0, none⟩), .int .i64 f, .int .i64 c] 172))
  clear hb HA
  go_wp2_with fail
  refine (HM.out _).mono ?_
  rintro r w2 ⟨rfl, rfl⟩
  go_wp2
  go_ret2
  exact ⟨_, rfl, Blk.new' _ _ _ (by simp), by have := HB.out.size; simp at this; omega, grow_alloc HB.out _⟩
end
end Go.Proofs.YtfmdmfiljplkoaaGreat
namespace Go.Proofs.YtfmdmfiljplkoaaGreat
open Go.RowKit Go.Maps
set_option maxRecDepth 8000
/-- The slice vl is a row of these changes. -/
def Chg (w : World) (vl : Value) (L : List (Int × List Nat)) : Prop :=
  ∃ vs : List (Int × Value), vs.length = L.length ∧ w.ownsRow 0 136 2 vl L.length (wcells vs) ∧ ∀ k (h : k < L.length), ∃ v, vs[k]? = some (L[k].1, v) ∧ Byt w v L[k].2
section
variable {T : List Nat} {w w' : World} {vl : Value} {L : List (Int × List Nat)}
end
end Go.Proofs.YtfmdmfiljplkoaaGreat
namespace Go.Proofs.YtfmdmfiljplkoaaGreat
open Go.RowKit Go.Maps
set_option maxRecDepth 8000
variable {ι : Type} [Bar ι]
section
variable {b m : Nat} {vl : Value} {D : Dsk} {w : World} {G : Nat} {L : Lg}
def badPage (c : Int × List Nat) : Bool := decide (c.1 < 0 ∨ 2147483647 < c.1)
def badLen (z : Int) (c : Int × List Nat) : Bool := decide ((c.2.length : Int) ≠ lroom z)
end
/-- Why a group can't be appended. -/
def rightE (D : Dsk) (L : Lg) (g : List (Int × List Nat)) : Int :=
  if L.dead then 21 else if (g.isEmpty || g.any badPage) then 1 else if g.any (badLen D.size) then 3 else if (L.count : Int) - L.next < g.length then 6 else 0
section
variable {b m : Nat} {vl : Value} {D : Dsk} {w : World} {G : Nat} {L : Lg}
end
end Go.Proofs.YtfmdmfiljplkoaaGreat
