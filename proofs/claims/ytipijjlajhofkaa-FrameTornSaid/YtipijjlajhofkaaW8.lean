/- Walks: what the chapter's examples say ('awake'). -/
import Derived.Test.YtipijjlajhofkaaW7
import Derived.Lib.SlBytesConst
import Derived.KernelRfl
namespace Go.Proofs.Ytipijjlajhofkaa
open Go.RowKit

theorem Rd_lit (w : World) (l : List Nat) (C : Array Value) (fr : Nat × Nat) (hC : C.toList = cells l) (hl : ∀ b ∈ l, b < 256) : Rd (w.alloc (.cells C 5 fr)) (w.alloc (.cells C 5 fr)).heap.size (some ⟨w.heap.size, 0, none⟩) l := by
  refine ⟨hl, fun _ => ⟨_, rfl, by simp, fun k hk => ?_⟩⟩
  have hc : C[k]? = some (.int .u8 ((l[k] : Nat) : Int)) := by
    rw [← Array.getElem?_toList, hC]; exact cells_get hk
  rw [Addr.add_lit, Nat.zero_add]
  show (w.alloc _).cell? ⟨w.heap.size, k, none⟩ = _
  simp only [World.cell?, World.alloc, Array.getElem?_push_size]
  simpa using hc

theorem Own.at_ {w : World} {base : Nat} {v : Value} {l : List Nat} (h : Own w base v l) (n : Nat) (hn : l.length = n) (h0 : 0 < n) : ∃ p c, v = .slice (some p) n c ∧ p.block < w.heap.size ∧ ∀ k (b : Nat), l[k]? = some b → w.cell? (p.add k) = some (.int .u8 (b : Int)) := by
  obtain ⟨A, c, rfl, hr⟩ := h.form
  subst hn
  obtain ⟨p, rfl, hp, hc⟩ := hr.2 (by intro e; rw [e] at h0; simp at h0)
  refine ⟨p, c, rfl, hp, fun k b hb => ?_⟩
  obtain ⟨hk, rfl⟩ := List.getElem?_eq_some_iff.1 hb
  exact hc k hk

theorem ex_crc : M.crc [49, 50, 51, 52, 53, 54, 55, 56, 57] = 3421780262 := by kernel_rfl
theorem ex_sec : (sector 64 5 [104, 105])[0]? = some 5 ∧ (sector 64 5 [104, 105])[8]? = some 250 ∧ (sector 64 5 [104, 105])[16]? = some 104 ∧ (sector 64 5 [104, 105])[48]? = some 5 ∧ (sector 64 5 [104, 105])[56]? = some 250 :=
  ⟨by kernel_rfl, by kernel_rfl, by kernel_rfl, by kernel_rfl, by kernel_rfl⟩

set_option maxHeartbeats 1000000 in
theorem awake_any (w : World) : Calls Try.prog 11 #[] w fun e w' => e = .returned (.bool true) ∧ Below w.heap.size w w' := by
  have kc := fun (w : World) (C : Array Value) (n c : Nat) => Lib.run_convert_bytes_const (P := Try.prog) w 22 5 C n c Try.underlying22 Try.underlying5
  go_enter Try.func11, Try.ntmps11
  go_wp2_with fail
  have hb : Calls Try.prog 12 #[.int .i64 64, .int .i64 5, .slice (some ⟨w.heap.size, 0, none⟩) 2 2] (w.alloc (.cells #[.int .u8 104, .int .u8 105] 5 (2, 3))) _ :=
    Build_ok 64 5 (some ⟨w.heap.size, 0, none⟩) [104, 105] 2 _ (Rd_lit w [104, 105] _ _ rfl (by decide)) (by decide) (by decide) (by decide) (by decide) (by decide)
  refine hb.mono ?_
  rintro e w1 ⟨v1, rfl, ho, hb1⟩
  have hbw : Below w.heap.size w w1 := ((Below.refl _ w).alloc (Nat.le_refl _) _).trans (hb1.mono (by simp))
  obtain ⟨p, c, rfl, hp, hc⟩ := ho.at_ 64 (sector_length (by decide)) (by decide)
  have hcells : ∀ o : Obj, (w1.alloc o).cell? (p.add 0) = some (.int .u8 5) ∧ (w1.alloc o).cell? (p.add 8) = some (.int .u8 250) ∧ (w1.alloc o).cell? (p.add 16) = some (.int .u8 104) ∧ (w1.alloc o).cell? (p.add 48) = some (.int .u8 5) ∧ (w1.alloc o).cell? (p.add 56) = some (.int .u8 250) := by
    intro o
    have ha : ∀ k u, w1.cell? (p.add k) = some u → (w1.alloc o).cell? (p.add k) = some u := fun k u hu => by
      rw [World.cell?_alloc_lt w1 o (p.add k) (by rw [add_block]; exact hp)]; exact hu
    exact ⟨ha _ _ (hc 0 5 ex_sec.1), ha _ _ (hc 8 250 ex_sec.2.1), ha _ _ (hc 16 104 ex_sec.2.2.1), ha _ _ (hc 48 5 ex_sec.2.2.2.1), ha _ _ (hc 56 250 ex_sec.2.2.2.2)⟩
  clear hc ho hb hb1
  go_wp2_with fail
  have hk := Check_any (some ⟨w1.heap.size, 0, none⟩) [49, 50, 51, 52, 53, 54, 55, 56, 57] 9 _ (Rd_lit w1 [49, 50, 51, 52, 53, 54, 55, 56, 57] #[.int .u8 49, .int .u8 50, .int .u8 51, .int .u8 52, .int .u8 53, .int .u8 54, .int .u8 55, .int .u8 56, .int .u8 57] (9, 10) rfl (by decide)) (by decide)
  rw [ex_crc] at hk
  refine hk.mono ?_
  clear hk
  rintro e w3 ⟨rfl, hw⟩
  have hb3 : Below w.heap.size w w3 := by rw [← hw]; exact hbw.alloc hbw.size _
  obtain ⟨c0, c8, c16, c48, c56⟩ := hcells (.cells #[.int .u8 49, .int .u8 50, .int .u8 51, .int .u8 52, .int .u8 53, .int .u8 54, .int .u8 55, .int .u8 56, .int .u8 57] 5 (9, 10))
  rw [hw] at c0 c8 c16 c48 c56
  have hp0 : p.add 0 = p := by simp [Addr.add]
  rw [hp0] at c0
  simp [Addr.add] at c8 c16 c48 c56
  clear hcells hw hp hp0
  go_wp2
  go_ret
  exact ⟨rfl, hb3⟩

end Go.Proofs.Ytipijjlajhofkaa
