/- Walks: a slice that reads as bytes; the check of the program. -/
import Derived.Test.YtipijjlajhofkaaRows
import Derived.Test.YtipijjlajhofkaaAid
import Derived.Test.YtipijjlajhofkaaMath
import Derived.LoopTactic
import Derived.Laws.BitsAll
namespace Go.Proofs.Ytipijjlajhofkaa
open Go.RowKit

/-- From A on (nil where nothing is read) the world holds these bytes, below block L. -/
def Rd (w : World) (L : Nat) (A : Option Addr) (l : List Nat) : Prop :=
  (∀ b ∈ l, b < 256) ∧ (l ≠ [] → ∃ p, A = some p ∧ p.block < L ∧ ∀ k (h : k < l.length), w.cell? (p.add k) = some (.int .u8 ((l[k] : Nat) : Int)))

theorem add_block (p : Addr) (n : Nat) : (p.add n).block = p.block := by unfold Addr.add; split <;> rfl

theorem Rd.get {w : World} {L : Nat} {A : Option Addr} {l : List Nat} (h : Rd w L A l) {k : Nat} (hk : k < l.length) : ∃ p, A = some p ∧ p.block < L ∧ w.cell? (p.add k) = some (.int .u8 ((l[k] : Nat) : Int)) ∧ l[k] < 256 := by
  obtain ⟨p, e, hp, hc⟩ := h.2 (by intro e; rw [e] at hk; simp at hk)
  exact ⟨p, e, hp, hc k hk, h.1 _ (List.getElem_mem hk)⟩
theorem Rd.below {w w' : World} {L L' : Nat} {A : Option Addr} {l : List Nat} (h : Rd w L A l) (hb : Below L w w') (hl : L ≤ L') : Rd w' L' A l :=
  ⟨h.1, fun hn => by
    obtain ⟨p, e, hp, hc⟩ := h.2 hn
    exact ⟨p, e, by omega, fun k hk => (hb.cell (p := p.add k) (by rw [add_block]; exact hp)).trans (hc k hk)⟩⟩

theorem bit_go (s : Nat) (h : s < 4294967296) : bits .xor .u32 ((s : Int) / 2) (IntKind.u32.wrap (3988292384 * bits .and .u32 (s : Int) 1)) = ((M.bit s : Nat) : Int) := by
  have h1 : bits .and .u32 (s : Int) 1 = ((s % 2 : Nat) : Int) := by
    have := u32_and_nat s 1 h (by omega)
    rw [Nat.and_one_is_mod] at this
    exact this
  have h2 : s % 2 < 2 := Nat.mod_lt _ (by omega)
  have h3 : IntKind.u32.wrap (3988292384 * ((s % 2 : Nat) : Int)) = ((M.poly * (s % 2) : Nat) : Int) := by
    rw [IntKind.wrap_u32']; unfold M.poly; omega
  rw [h1, h3]
  have h4 : (s : Int) / 2 = ((s / 2 : Nat) : Int) := by omega
  rw [h4]
  exact u32_xor_nat _ _ (by omega) (by unfold M.poly; omega)

set_option maxHeartbeats 2000000 in
theorem Check_any (A : Option Addr) (l : List Nat) (c : Nat) (w : World) (hr : Rd w w.heap.size A l) (hl : (l.length : Int) ≤ 1099511627776) :
    Calls Try.prog 9 #[.slice A l.length c] w fun e w' => e = .returned (.int .u32 (M.crc l)) ∧ w = w' := by
  have hB : ∀ b ∈ l, b < 256 := hr.1
  have HR := Lib.hid hr
  clear hr
  go_enter Try.func9, Try.ntmps9
  go_wp2
  go_loop [3, 9] (fun s i => ∃ k : Nat, k ≤ l.length ∧ i = .int .i64 k ∧ s = .int .u32 (M.roll 4294967295 (l.take k) : Nat)) (fun _ i => l.length - (intOf i).toNat)
  case atStart => exact ⟨0, Nat.zero_le _, rfl, rfl⟩
  case round =>
    obtain ⟨k, hk, rfl, rfl⟩ := hrel
    by_cases hlt : k < l.length
    · obtain ⟨p, rfl, _, hc, hb⟩ := HR.out.get hlt
      have hs : M.roll 4294967295 (l.take k) < 4294967296 := M.roll_lt _ (by omega) fun b hb => hB b (List.mem_of_mem_take hb)
      have hx := M.roll_take 4294967295 l k hlt
      generalize hS : M.roll 4294967295 (l.take k) = S at *
      generalize hE : l[k] = E at *
      have HX := Lib.hid hx
      have HS := Lib.hid hS
      have HE := Lib.hid hE
      clear hx hS hE
      have hxx : bits .xor .u32 (S : Int) (E : Int) = ((S ^^^ E : Nat) : Int) := u32_xor_nat S E (by omega) (by omega)
      have hS0 : S ^^^ E < 4294967296 := M.xor_lt32 (by omega) (by omega)
      have HXX := Lib.hid hxx
      clear hxx
      go_wp2
      go_loop [3, 17] (fun s i => ∃ j : Nat, j ≤ 8 ∧ i = .int .i64 j ∧ s = .int .u32 (M.bits j (S ^^^ E) : Nat)) (fun _ i => 8 - (intOf i).toNat)
      case atStart => exact ⟨0, by omega, rfl, val_int HXX.out⟩
      case round =>
        obtain ⟨j, hj, rfl, rfl⟩ := hrel
        have hq := M.bits_lt hS0 j
        by_cases hj8 : j < 8
        · generalize hG : M.bits j (S ^^^ E) = G at *
          have HG := Lib.hid hG
          clear hG
          have hw := bit_go G hq
          have HW := Lib.hid hw
          clear hw
          go_wp2
          go_round
          case rel => exact ⟨j + 1, by omega, by simp, val_int (HW.out.trans (by rw [← HG.out]; rfl))⟩
          case measure => simp [intOf]; omega
        · obtain rfl : j = 8 := by omega
          generalize hG : M.bits 8 (S ^^^ E) = G at *
          have HG := Lib.hid hG
          clear hG
          go_wp2
          go_round
          case rel => exact ⟨k + 1, by omega, by simp, val_int (by rw [HX.out, ← HG.out]; rfl)⟩
          case measure => simp [intOf]; omega
    · obtain rfl : k = l.length := by omega
      go_wp2
      go_ret
      refine ⟨ret_int ?_, rfl⟩
      have hs : M.roll 4294967295 l < 4294967296 := M.roll_lt _ (by omega) hB
      exact (u32_xor_nat 4294967295 _ (by omega) hs).trans (by rw [M.not32 _ hs]; rfl)

end Go.Proofs.Ytipijjlajhofkaa
