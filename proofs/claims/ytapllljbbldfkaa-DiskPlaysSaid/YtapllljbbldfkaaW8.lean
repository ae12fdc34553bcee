/- Walks: bytes of an act, an act done. -/
import Derived.Test.YtapllljbbldfkaaW7
namespace Go.Proofs.Ytapllljbbldfkaa
open Go.RowKit Go.Maps

def actLen (len : Int) (size : Nat) : Nat := if len < 0 ∨ 5000 < len then size else len.toNat
def actBytes (len : Int) (B size : Nat) : List Nat := if 1 < actLen len size then (List.replicate (actLen len size) B).set (actLen len size - 1) ((B + 1) % 256) else List.replicate (actLen len size) B
theorem actBytes_length (len : Int) (B size : Nat) : (actBytes len B size).length = actLen len size := by unfold actBytes; split <;> simp

theorem wrap_u8 (B : Nat) : IntKind.u8.wrap ((B : Int) + 1) = (((B + 1) % 256 : Nat) : Int) := by
  simp [IntKind.wrap, IntKind.bits, IntKind.signed]

set_option maxHeartbeats 2000000 in
theorem bytes_mid (kind at_ len : Int) (B n : Nat) (A : Option Addr) (fn fc : Nat) (size : Int) (w : World) (hB : B < 256) (hn : (n : Int) ≤ 5000)
    (hc : (len < 0 ∧ size = n) ∨ (¬ len < 0 ∧ 5000 < len ∧ size = n) ∨ (¬ len < 0 ∧ ¬ 5000 < len ∧ len = n)) :
    Calls Try.prog 23 #[.agg #[.int .i64 kind, .int .i64 at_, .int .i64 len, .int .u8 B, .slice A fn fc], .int .i64 size] w fun e w' =>
      ∃ g, e = .returned (.slice (some ⟨g, 0, none⟩) n n) ∧ Own w' w.heap.size (.slice (some ⟨g, 0, none⟩) n n) (if 1 < n then (List.replicate n B).set (n - 1) ((B + 1) % 256) else List.replicate n B) ∧ Below w.heap.size w w' ∧ w.heap.size ≤ g := by
  have hw := wrap_u8 B
  have HB := Lib.hid hB
  clear hB
  obtain ⟨hW, hHW⟩ : ∃ x, x = (((B + 1) % 256 : Nat)) := ⟨_, rfl⟩
  obtain ⟨w1, hw1⟩ : ∃ w1, w1 = w.alloc (.cells #[.int .i64 kind, .int .i64 at_, .int .i64 len, .int .u8 B, .slice A fn fc] 31) := ⟨_, rfl⟩
  have HX := Lib.hid (show Below w.heap.size w w1 ∧ Blk w1 w.heap.size #[.int .i64 kind, .int .i64 at_, .int .i64 len, .int .u8 B, .slice A fn fc] 31 ∧ w.heap.size < w1.heap.size by
    subst hw1; exact ⟨(Below.refl _ w).alloc (Nat.le_refl _) _, Blk.new' _ _ _ rfl, by simp⟩)
  have HW1 := Lib.hid hw1
  have HW := Lib.hid (show hW < 256 by omega)
  rw [← hHW] at hw ⊢
  obtain ⟨L, hL⟩ : ∃ L, L = (if 1 < n then (List.replicate n B).set (n - 1) hW else List.replicate n B) := ⟨_, rfl⟩
  rw [← hL]
  have HL := Lib.hid hL
  have HN := Lib.hid hn
  clear hHW hw1 hL
  rcases hc with ⟨h1, rfl⟩ | ⟨h1, h2, rfl⟩ | ⟨h1, h2, rfl⟩
  all_goals
    go_enter Try.func23, Try.ntmps23
    go_wp2_with fail
    rw [← HW1.out]
    have X1 := HX.out
    clear HX HW1
    refine (full_any B n w1 HB.out (by have := HN.out; omega)).mono ?_
    rintro e w2 ⟨g, rfl, ho, hb, hg⟩
    have c3 := (X1.2.1.grew hb).cell 3
    have HG := Lib.hid (And.intro (X1.1.trans (hb.mono X1.1.size)) (Nat.le_trans X1.1.size hg))
    have HO := Lib.hid ho
    by_cases hn1 : 1 < n
    · obtain ⟨hO3, hB3, hfr, u, hu⟩ := ho.storeAt (n - 1) hW HW.out (by simp; omega)
      have hne : (n : Int) - 1 = ((n - 1 : Nat) : Int) := by omega
      have hn2 : (1 : Int) < n := by omega
      have H3 := Lib.hid (And.intro hO3 hB3)
      have hcast : ((n : Int) - 1).toNat = n - 1 := by omega
      have hgs := X1.1.size
      have hgg := Nat.le_trans hgs hg
      clear ho hO3 hB3 hb hg X1
      go_wp2
      go_ret
      refine ⟨g, rfl, ?_, HG.out.1.trans (H3.out.2.mono hgs), hgg⟩
      rw [HL.out, if_pos hn1]
      exact ⟨H3.out.1.1, Own.base_ hgs H3.out.1.2⟩
    · have hn2 : ¬ (1 : Int) < n := by omega
      have hgs := X1.1.size
      clear ho hb hg X1
      go_wp2
      go_ret
      rw [HL.out, if_neg hn1]
      exact ⟨g, rfl, ⟨HO.out.1, Own.base_ hgs HO.out.2⟩, HG.out⟩
end Go.Proofs.Ytapllljbbldfkaa
