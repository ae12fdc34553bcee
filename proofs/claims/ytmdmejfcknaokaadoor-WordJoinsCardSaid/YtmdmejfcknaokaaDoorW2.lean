/- Walks: a piece of a text, a sign's bytes, the document's Fold. -/
import Derived.Test.YtmdmejfcknaokaaDoorW1
import Derived.Laws.Strings2
namespace Go.Proofs.YtmdmejfcknaokaaDoor
open Go.RowKit

theorem str_size (l : List Nat) : (str l).size = l.length := by simp [str, ByteArray.size]
theorem str_append (a b : List Nat) : str a ++ str b = str (a ++ b) := by
  apply ByteArray.ext
  simp [str]
theorem str_one (l : List Nat) (k : Nat) (h : k < l.length) : (str l).extract k (k + 1) = str [l[k]] := by
  unfold str
  apply ByteArray.ext
  simp [ByteArray.extract, ByteArray.copySlice]
  rw [List.drop_eq_getElem_cons (by simpa using h)]
  simp
theorem str_get (l : List Nat) (hl : ∀ b ∈ l, b < 256) (k : Nat) (h : k < l.length) (h' : k < (str l).size) : ((str l)[k]'h').toNat = l[k] := by
  have : (str l)[k]'h' = UInt8.ofNat l[k] := by simp [str, ByteArray.getElem_eq_getElem_data]
  rw [this]
  have := hl _ (List.getElem_mem h)
  simp; omega

theorem piecesGo_cons (out : List Nat) (l : List Nat) (k : Nat) (h : k < l.length) : piecesGo out (l.drop k) = if l[k] = 32 then out :: piecesGo [] (l.drop (k + 1)) else piecesGo (out ++ [l[k]]) (l.drop (k + 1)) := by
  rw [List.drop_eq_getElem_cons h]; rfl

set_option maxHeartbeats 2000000 in
theorem piece_any (l : List Nat) (hl : ∀ b ∈ l, b < 256) (n : Nat) (hn : (n : Int) ≤ 1000000) (hlen : (l.length : Int) ≤ 1000000) (w : World) :
    Calls Tryd.prog 19 #[.string (str l), .int .i64 n] w fun e w' => e = .returned (.string (str (piece l n))) ∧ w' = w := by
  obtain ⟨R, hR⟩ : ∃ R, R = piece l n := ⟨_, rfl⟩
  rw [← hR]
  have HR := Lib.hid (show ((piecesGo [] (l.drop 0))[n]?).getD [] = R from hR.symm)
  have HL := Lib.hid hl
  have hsz := str_size l
  have hse : (⟨#[]⟩ : ByteArray) = str [] := rfl
  clear hR hl
  go_enter Tryd.func19, Tryd.ntmps19
  go_wp2
  go_loopw [1, 5, 6] (fun nn o i wr => ∃ (k n : Nat) (out : List Nat), k ≤ l.length ∧ (n : Int) ≤ 1000000 ∧ out.length ≤ k ∧ i = .int .i64 k ∧ nn = .int .i64 n ∧ o = .string (str out) ∧ wr = w ∧ Hid (((piecesGo out (l.drop k))[n]?).getD [] = R)) (fun _ _ i _ => l.length - (intOf i).toNat)
  case atStart => exact ⟨0, n, [], by omega, hn, by simp, rfl, rfl, rfl, rfl, HR⟩
  case round =>
    clear HR
    obtain ⟨k, n, out, hk, hn, ho, rfl, rfl, rfl, rfl, H⟩ := hrel
    by_cases hlt : k < l.length
    · have hpc := piecesGo_cons out l k hlt
      have hone := str_one l k hlt
      have hget := str_get l HL.out k hlt (by rw [hsz]; exact hlt)
      obtain ⟨b, hb⟩ : ∃ b, b = l[k] := ⟨_, rfl⟩
      rw [← hb] at hpc hone hget
      have HPC := Lib.hid hpc
      clear hpc hb
      have hout : (str out).size = out.length := str_size out
      have hcat := str_append out [b]
      have hsl : ∀ w, (Instr.slice 9 (.string (str l)) (some (.int .i64 (k : Int))) (some (.int .i64 ((k : Int) + 1))) none).run Tryd.prog w = .ok (.string (str [b])) w := fun w => by
        have := run_slice_string (P := Tryd.prog) w 9 (str l) .i64 .i64 (k : Int) ((k : Int) + 1) (by kernel_rfl) (by omega) (by omega) (by rw [hsz]; omega)
        rw [this, ← hone, Int.toNat_natCast, show ((k : Int) + 1).toNat = k + 1 by omega]
      have hs1 : (str [b]).size = 1 := str_size [b]
      have ht := H.out
      rw [HPC.out] at ht
      have HT := Lib.hid ht
      clear ht HPC H
      by_cases h32 : b = 32
      · subst h32
        by_cases h0 : n = 0
        · subst h0
          have hr : out = R := by have := HT.out; rw [if_pos rfl] at this; simpa using this
          subst hr
          clear HT
          go_wp2
          go_ret
          exact ⟨rfl, rfl⟩
        · have ht : ((piecesGo [] (l.drop (k + 1)))[n - 1]?).getD [] = R := by
            have := HT.out
            rw [if_pos rfl] at this
            obtain ⟨m, rfl⟩ : ∃ m, n = m + 1 := ⟨n - 1, by omega⟩
            simpa using this
          have HT2 := Lib.hid ht
          clear ht HT
          have h0' : ((n : Int) == 0) = false := by simp; omega
          have hk1 : ((k + 1 : Nat) : Int) = (k : Int) + 1 := by omega
          have hm1 : ((n - 1 : Nat) : Int) = (n : Int) - 1 := by omega
          go_wp2
          refine ⟨⟨k + 1, n - 1, [], by omega, by omega, by simp, by rw [hk1], by rw [hm1], rfl, trivial, HT2⟩, ?_⟩
          show l.length - ((k : Int) + 1).toNat < l.length - (k : Int).toNat
          omega
      · have ht := HT.out
        rw [if_neg h32] at ht
        have HT2 := Lib.hid ht
        clear ht HT
        have hk1 : ((k + 1 : Nat) : Int) = (k : Int) + 1 := by omega
        go_wp2
        refine ⟨⟨k + 1, n, out ++ [b], by omega, hn, by simp; omega, by rw [hk1], rfl, rfl, trivial, HT2⟩, ?_⟩
        show l.length - ((k : Int) + 1).toNat < l.length - (k : Int).toNat
        omega
    · have hr : R = [] := by
        have := H.out
        rw [List.drop_eq_nil_of_le (by omega)] at this
        simpa [piecesGo] using this.symm
      subst hr
      clear H
      go_wp2
      go_ret
      exact ⟨rfl, rfl⟩
end Go.Proofs.YtmdmejfcknaokaaDoor
