/- Walks: the document's rows, a sign's bytes. -/
import Derived.Test.YtmdmejfcknaokaaDoorW2
import Derived.Laws.IdiomStrings
namespace Go.Proofs.YtmdmejfcknaokaaDoor
open Go.RowKit

theorem bases_any (w : World) : Calls Tryd.prog 21 #[] w fun e w' => e = .returned (.string (str basesL)) ∧ w' = w := by
  go_enter Tryd.func21, Tryd.ntmps21
  go_wp2
  go_ret
  exact ⟨by kernel_rfl, rfl⟩
theorem more_any (w : World) : Calls Tryd.prog 20 #[] w fun e w' => e = .returned (.string (str moreL)) ∧ w' = w := by
  go_enter Tryd.func20, Tryd.ntmps20
  go_wp2
  go_ret
  exact ⟨by kernel_rfl, rfl⟩

theorem conv_new (l : List Nat) (hl : ∀ b ∈ l, b < 256) (w : World) : (convert 48 9 (.slice (some ⟨w.heap.size, 0, none⟩) l.length l.length)).run Tryd.prog (w.alloc (.cells (l.map fun b : Nat => Value.int .u8 (b : Int)).toArray 5)) = .ok (.string (str l)) (w.alloc (.cells (l.map fun b : Nat => Value.int .u8 (b : Int)).toArray 5)) := by
  have hb := Blk.new w (l.map fun b : Nat => Value.int .u8 (b : Int)).toArray 5
  have := run_convert_bytes_back (P := Tryd.prog) (w.alloc (.cells (l.map fun b : Nat => Value.int .u8 (b : Int)).toArray 5)) 48 9 5 ⟨w.heap.size, 0, none⟩ l.length (l.map UInt8.ofNat) Tryd.underlying48 Tryd.underlying5 Tryd.underlying9 (fun j hj => by
    have hj' : j < l.length := by simpa using hj
    have hx := hl _ (List.getElem_mem hj')
    have e : (⟨w.heap.size, 0, none⟩ : Addr).add j = ⟨w.heap.size, j, none⟩ := by simp [Addr.add]; omega
    rw [e, hb.cell j]
    simp [List.getElem?_map, List.getElem?_eq_getElem hj']
    omega)
  rw [List.length_map] at this
  exact this

theorem Bytes_any (c : Nat) (hc : (c : Int) ≤ 1114111) (w : World) : Calls Tryd.prog 18 #[.int .i64 c] w fun e w' => e = .returned (.string (str (enc c))) ∧ Below w.heap.size w w' := by
  by_cases h1 : c < 128
  · have he : enc c = [c] := by unfold enc; rw [if_pos h1]
    have cv := conv_new [c] (by simp; omega)
    simp only [List.map, List.length] at cv
    rw [he]
    have g1 : (c : Int) < 128 := by omega
    clear he
    go_enter Tryd.func18, Tryd.ntmps18
    go_wp2
    go_ret
    exact ⟨rfl, grow_alloc (Below.refl _ _) _⟩
  · skip
    by_cases h2 : c < 2048
    · obtain ⟨x, hx⟩ : ∃ a, a = 192 + c / 64 := ⟨_, rfl⟩
      obtain ⟨y, hy⟩ : ∃ a, a = 128 + c % 64 := ⟨_, rfl⟩
      have he : enc c = [x, y] := by unfold enc; rw [if_neg h1, if_pos h2, ← hx, ← hy]
      have cv := conv_new [x, y] (by simp; omega)
      simp only [List.map, List.length] at cv
      rw [he]
      have hx' : 192 + (c : Int) / 64 = x := by omega
      have hx2 : (x : Int) < 256 := by omega
      have hy' : 128 + (c : Int) % 64 = y := by omega
      have hy2 : (y : Int) < 256 := by omega
      have g1 : ¬ (c : Int) < 128 := by omega
      have g2 : (c : Int) < 2048 := by omega
      clear he hx hy
      go_enter Tryd.func18, Tryd.ntmps18
      go_wp2
      go_ret
      exact ⟨rfl, grow_alloc (Below.refl _ _) _⟩
    · skip
      by_cases h3 : c < 65536
      · obtain ⟨x, hx⟩ : ∃ a, a = 224 + c / 4096 := ⟨_, rfl⟩
        obtain ⟨y, hy⟩ : ∃ a, a = 128 + c / 64 % 64 := ⟨_, rfl⟩
        obtain ⟨z, hz⟩ : ∃ a, a = 128 + c % 64 := ⟨_, rfl⟩
        have he : enc c = [x, y, z] := by unfold enc; rw [if_neg h1, if_neg h2, if_pos h3, ← hx, ← hy, ← hz]
        have cv := conv_new [x, y, z] (by simp; omega)
        simp only [List.map, List.length] at cv
        rw [he]
        have hx' : 224 + (c : Int) / 4096 = x := by omega
        have hx2 : (x : Int) < 256 := by omega
        have hy' : 128 + (c : Int) / 64 % 64 = y := by omega
        have hy2 : (y : Int) < 256 := by omega
        have hz' : 128 + (c : Int) % 64 = z := by omega
        have hz2 : (z : Int) < 256 := by omega
        have g1 : ¬ (c : Int) < 128 := by omega
        have g2 : ¬ (c : Int) < 2048 := by omega
        have g3 : (c : Int) < 65536 := by omega
        clear he hx hy hz
        go_enter Tryd.func18, Tryd.ntmps18
        go_wp2
        go_ret
        exact ⟨rfl, grow_alloc (Below.refl _ _) _⟩
      · skip
        obtain ⟨x, hx⟩ : ∃ a, a = 240 + c / 262144 := ⟨_, rfl⟩
        obtain ⟨y, hy⟩ : ∃ a, a = 128 + c / 4096 % 64 := ⟨_, rfl⟩
        obtain ⟨z, hz⟩ : ∃ a, a = 128 + c / 64 % 64 := ⟨_, rfl⟩
        obtain ⟨u, hu⟩ : ∃ a, a = 128 + c % 64 := ⟨_, rfl⟩
        have he : enc c = [x, y, z, u] := by unfold enc; rw [if_neg h1, if_neg h2, if_neg h3, ← hx, ← hy, ← hz, ← hu]
        have cv := conv_new [x, y, z, u] (by simp; omega)
        simp only [List.map, List.length] at cv
        rw [he]
        have hx' : 240 + (c : Int) / 262144 = x := by omega
        have hx2 : (x : Int) < 256 := by omega
        have hy' : 128 + (c : Int) / 4096 % 64 = y := by omega
        have hy2 : (y : Int) < 256 := by omega
        have hz' : 128 + (c : Int) / 64 % 64 = z := by omega
        have hz2 : (z : Int) < 256 := by omega
        have hu' : 128 + (c : Int) % 64 = u := by omega
        have hu2 : (u : Int) < 256 := by omega
        have g1 : ¬ (c : Int) < 128 := by omega
        have g2 : ¬ (c : Int) < 2048 := by omega
        have g3 : ¬ (c : Int) < 65536 := by omega
        clear he hx hy hz hu
        go_enter Tryd.func18, Tryd.ntmps18
        go_wp2
        go_ret
        exact ⟨rfl, grow_alloc (Below.refl _ _) _⟩
end Go.Proofs.YtmdmejfcknaokaaDoor
