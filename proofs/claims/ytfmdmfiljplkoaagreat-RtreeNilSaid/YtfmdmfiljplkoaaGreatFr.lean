/- The check as plain numbers: CRC-32 by bits; what 'apart' adds up to. No program in sight. Walks: a slice that reads as bytes; the check of the program. Walks: the reference's check; its 'apart'. Walks: a row of bytes of the call's own; what 'append' makes of it. Walks: 'append' of so many zeros onto a row of the call's own; a made slice. Walks: a number in so many bytes: the program's 'put', the reference's 'Bytes'. Walks: how long a load may be; a mark twice; the program's sector. Walks: the program's sector. Walks: the reference's sector. Walks: slices.Clone; a number out of its bytes. Walks: the check out of its bytes. Walks: the mark that stands at the beginning. Walks: the program's Read. Walks: the document's Read. Plain law: what the program's Read asks of bytes is what the document asks. Walks: FrameReads. Walks: FrameBack. -/
import Lean.Elab.Tactic.Omega
import Derived.Test.YtfmdmfiljplkoaaGreatRows
import Derived.Test.YtfmdmfiljplkoaaGreatAid
import Derived.Test.YtfmdmfiljplkoaaGreatBytes
import Derived.LoopTactic
import Derived.Laws.BitsAll
import Derived.Maps.AppendAt
import Derived.Laws.OwnMore
import Derived.Deep.AppendLies
import Derived.OwnWalk
import Derived.Lib.AppendZerosOnto
import Derived.Laws.DeepNot64
import Derived.Test.YtfmdmfiljplkoaaGreatDk
import Derived.WalkLawsBesides
import Derived.BigQuiet
namespace Go.Proofs.YtfmdmfiljplkoaaGreat.M
def poly : Nat := 3988292384
/-- One bit's step. -/
def bit (s : Nat) : Nat := (s / 2) ^^^ (poly * (s % 2))
/-- So many bits' steps. -/
def bits : Nat → Nat → Nat
  | 0, s => s
  | n + 1, s => bit (bits n s)
/-- A byte's step. -/
def byte (s b : Nat) : Nat := bits 8 (s ^^^ b)
def roll (s : Nat) (l : List Nat) : Nat := l.foldl byte s
def crc (l : List Nat) : Nat := 4294967295 - roll 4294967295 l
theorem xor_lt32 {a b : Nat} (ha : a < 4294967296) (hb : b < 4294967296) : a ^^^ b < 4294967296 := Nat.xor_lt_two_pow (n := 32) ha hb
theorem bit_lt {s : Nat} (h : s < 4294967296) : bit s < 4294967296 := by
  refine xor_lt32 (by omega) ?_
  unfold poly
  have : s % 2 < 2 := Nat.mod_lt _ (by omega)
  have : 3988292384 * (s % 2) ≤ 3988292384 * 1 := Nat.mul_le_mul_left _ (by omega)
  omega
theorem bits_lt {s : Nat} (h : s < 4294967296) : ∀ n, bits n s < 4294967296
  | 0 => h
  | n + 1 => bit_lt (bits_lt h n)
theorem byte_lt {s b : Nat} (h : s < 4294967296) (hb : b < 256) : byte s b < 4294967296 := bits_lt (xor_lt32 h (by omega)) 8
theorem roll_lt : ∀ (l : List Nat) {s : Nat}, s < 4294967296 → (∀ b ∈ l, b < 256) → roll s l < 4294967296
  | [], _, h, _ => h
  | b :: l, _, h, hl => roll_lt l (byte_lt h (hl b (by simp))) fun c hc => hl c (by simp [hc])
theorem roll_take (s : Nat) (l : List Nat) (k : Nat) (hk : k < l.length) : roll s (l.take (k + 1)) = byte (roll s (l.take k)) l[k] := by
  unfold roll
  rw [List.take_add_one, List.foldl_append]
  simp [List.getElem?_eq_getElem hk]
theorem crc_lt (l : List Nat) : crc l < 4294967296 := by unfold crc; omega
theorem not32 (x : Nat) (h : x < 4294967296) : 4294967295 ^^^ x = 4294967295 - x := by
  have := congrArg BitVec.toNat (BitVec.allOnes_xor (x := BitVec.ofNat 32 x))
  rw [BitVec.toNat_xor, BitVec.toNat_not, BitVec.toNat_allOnes, BitVec.toNat_ofNat, Nat.mod_eq_of_lt (by omega)] at this
  exact this
/-- One bit of 'apart': what is found so far (o), the next bit's weight (t), what is left of the two. -/
def Apart (a b o t x y : Nat) : Prop := o + t * (x ^^^ y) = a ^^^ b ∧ t * x ≤ a ∧ t * y ≤ b ∧ o < t
end Go.Proofs.YtfmdmfiljplkoaaGreat.M
namespace Go.Proofs.YtfmdmfiljplkoaaGreat
open Go.RowKit
theorem bit_go (s : Nat) (h : s < 4294967296) : bits .xor .u32 ((s : Int) / 2) (IntKind.u32.wrap (3988292384 * bits .and .u32 (s : Int) 1)) = ((M.bit s : Nat) : Int) := by
  have h1 : bits .and .u32 (s : Int) 1 = ((s % 2 : Nat) : Int) := by
    have := u32_and_nat s 1 h (by omega)
    rw [Nat.and_one_is_mod] at this
    exact this
  have h2 : s % 2 < 2 := Nat.mod_lt _ (by omega)
  have h3 : IntKind.u32.wrap (3988292384 * ((s % 2 : Nat) : Int)) = ((M.poly * (s % 2) : Nat) : Int) := by
    rw [IntKind.wrap_u32']; unfold M.poly; omega
  rw [h1, h3]
  have h4 : (s : Int) / 2 = ((s / 2 : Nat) : Int) := by omega
  rw [h4]
  exact u32_xor_nat _ _ (by omega) (by unfold M.poly; omega)
set_option maxHeartbeats 2000000 in
theorem Check_any (A : Option Addr) (l : List Nat) (c : Nat) (w : World) (hr : Rd w w.heap.size A l) (hl : (l.length : Int) ≤ 1099511627776) :
    Calls Tryz.prog 172 #[.slice A l.length c] w fun e w' => e = .returned (.int .u32 (M.crc l)) ∧ w = w' := by
  have hB : ∀ b ∈ l, b < 256 := hr.1
  have HR := Lib.hid hr
  clear hr
  go_enter Tryz.func172, Tryz.ntmps172
  go_wp2
  go_loop [3, 9] (fun s i => ∃ k : Nat, k ≤ l.length ∧ i = .int .i64 k ∧ s = .int .u32 (M.roll 4294967295 (l.take k) : Nat)) (fun _ i => l.length - (intOf i).toNat)
  case atStart => exact ⟨0, Nat.zero_le _, rfl, rfl⟩
  case round =>
    obtain ⟨k, hk, rfl, rfl⟩ := hrel
    by_cases hlt : k < l.length
    · obtain ⟨p, rfl, _, hc, hb⟩ := HR.out.get hlt
      have hs : M.roll 4294967295 (l.take k) < 4294967296 := M.roll_lt _ (by omega) fun b hb => hB b (List.mem_of_mem_take hb)
      have hx := M.roll_take 4294967295 l k hlt
      generalize hS : M.roll 4294967295 (l.take k) = S at *
      generalize hE : l[k] = E at *
      have HX := Lib.hid hx
      have HS := Lib.hid hS
      have HE := Lib.hid hE
      clear hx hS hE
      have hxx : bits .xor .u32 (S : Int) (E : Int) = ((S ^^^ E : Nat) : Int) := u32_xor_nat S E (by omega) (by omega)
      have hS0 : S ^^^ E < 4294967296 := M.xor_lt32 (by omega) (by omega)
      have HXX := Lib.hid hxx
      clear hxx
      go_wp2
      go_loop [3, 17] (fun s i => ∃ j : Nat, j ≤ 8 ∧ i = .int .i64 j ∧ s = .int .u32 (M.bits j (S ^^^ E) : Nat)) (fun _ i => 8 - (intOf i).toNat)
      case atStart => exact ⟨0, by omega, rfl, val_int HXX.out⟩
      case round =>
        obtain ⟨j, hj, rfl, rfl⟩ := hrel
        have hq := M.bits_lt hS0 j
        by_cases hj8 : j < 8
        · generalize hG : M.bits j (S ^^^ E) = G at *
          have HG := Lib.hid hG
          clear hG
          have hw := bit_go G hq
          have HW := Lib.hid hw
          clear hw
          go_wp2
          go_round
          case rel => exact ⟨j + 1, by omega, by simp, val_int (HW.out.trans (by rw [← HG.out]; rfl))⟩
          case measure => simp [intOf]; omega
        · obtain rfl : j = 8 := by omega
          generalize hG : M.bits 8 (S ^^^ E) = G at *
          have HG := Lib.hid hG
          clear hG
          go_wp2
          go_round
          case rel => exact ⟨k + 1, by omega, by simp, val_int (by rw [HX.out, ← HG.out]; rfl)⟩
          case measure => simp [intOf]; omega
    · obtain rfl : k = l.length := by omega
      go_wp2
      go_ret
      refine ⟨ret_int ?_, rfl⟩
      have hs : M.roll 4294967295 l < 4294967296 := M.roll_lt _ (by omega) hB
      exact (u32_xor_nat 4294967295 _ (by omega) hs).trans (by rw [M.not32 _ hs]; rfl)
end Go.Proofs.YtfmdmfiljplkoaaGreat
namespace Go.Proofs.YtfmdmfiljplkoaaGreat
open Go.RowKit
end Go.Proofs.YtfmdmfiljplkoaaGreat
namespace Go.Proofs.YtfmdmfiljplkoaaGreat
open Go.RowKit
section
variable {w w' : World} {base : Nat} {v : Value} {l : List Nat}
end
end Go.Proofs.YtfmdmfiljplkoaaGreat
namespace Go.Proofs.YtfmdmfiljplkoaaGreat
open Go.RowKit
theorem zeros_list (n : Nat) : (Builtin.zeroCells (Value.int .u8 0).cells n).toList = cells (List.replicate n 0) := by
  apply List.ext_getElem
  · simp [Builtin.zeroCells, Value.cells]
  · intro k h1 h2
    have : k % 1 = 0 := by omega
    simp [Builtin.zeroCells, cells, Value.cells, this]
theorem zeros_size (n : Nat) : (Builtin.zeroCells (Value.int .u8 0).cells n).size = n := by simp [Builtin.zeroCells, Value.cells]
theorem run_app0 {w : World} {base : Nat} {v : Value} {l : List Nat} (ty : TypeId) (h : Own w base v l) (k : Nat) (hbase : base ≤ w.heap.size) (hn : l.length + k ≤ 1000000) :
    ∃ v' w', (Builtin.append_ #[108, 3] ty #[v, .int .i64 k]).run Tryz.prog w = .ok v' w' ∧ Own w' base v' (l ++ List.replicate k 0) ∧ Below base w w' := by
  obtain ⟨i, hi, hz, hs, hby⟩ := info_parts u8_row
  have hm : ∀ b ∈ l ++ List.replicate k 0, b < 256 := by
    intro b hb
    rcases List.mem_append.1 hb with hb | hb
    · exact h.1 b hb
    · have := (List.mem_replicate.1 hb).2; omega
  have hlen : (cells (l ++ List.replicate k 0)).length = (l ++ List.replicate k 0).length * 1 := by simp
  have hlk : (l ++ List.replicate k 0).length = l.length + k := by simp
  have hgm : ∀ old, grownCap w (l.length + k) old 5 ≤ maxLen := fun old => grownCap_le_maxLen w _ old 5 (by simp only [maxLen]; omega)
  have hwrap : IntKind.i64.wrap (k : Int) = k := by rw [IntKind.wrap_i64]; omega
  have fresh : ∀ (old : Nat) (cs : Array Value), cs.toList = cells l ++ cells (List.replicate k 0) →
      Own (w.drew.alloc (.cells (cs ++ Builtin.zeroCells (Value.int .u8 0).cells (grownCap w (l.length + k) old 5 - (l.length + k))) 5)) base (.slice (some ⟨w.heap.size, 0, none⟩) (l.length + k) (grownCap w (l.length + k) old 5)) (l ++ List.replicate k 0) ∧
      Below base w (w.drew.alloc (.cells (cs ++ Builtin.zeroCells (Value.int .u8 0).cells (grownCap w (l.length + k) old 5 - (l.length + k))) 5)) := by
    intro old cs hcs
    have hge := grownCap_ge w (l.length + k) old 5
    have hsz : cs.size = l.length + k := by
      rw [← Array.length_toList, hcs]; simp
    refine ⟨⟨hm, hlen, .inr ⟨w.heap.size, _, _, by rw [hlk], hbase, heap_alloc_new w.drew _, by rw [hlk]; exact hge, hgm old, ?_, ?_⟩⟩, ((Below.refl base w).drew).alloc hbase _⟩
    · rw [Array.size_append, zeros_size, hsz]; omega
    · rw [Array.toList_append, hcs, hlk, ← cells_append]
      exact List.take_left' (by simp)
  rcases Nat.eq_zero_or_pos k with rfl | hk
  · refine ⟨v, w, ?_, by simpa using h, Below.refl _ _⟩
    have hw0 : IntKind.i64.wrap 0 = 0 := by decide
    rcases h.2.2 with ⟨rfl, h0⟩ | ⟨g, cap, cur, rfl, hbg, hg, hnc, hcm, hcs, htake⟩
    · simp [Builtin.append_, run_underlying Tryz.underlying108, run_underlying Tryz.underlying3, sizeOf, typeInfo, hi, hby, asInt, asIntOf, hw0]
    · simp [Builtin.append_, run_underlying Tryz.underlying108, run_underlying Tryz.underlying3, sizeOf, typeInfo, hi, hby, asInt, asIntOf, hw0, hnc, storeCells]
  rcases h.2.2 with ⟨rfl, h0⟩ | ⟨g, cap, cur, rfl, hbg, hg, hnc, hcm, hcs, htake⟩
  · have hl : l = [] := List.eq_nil_of_length_eq_zero h0
    subst hl
    have hr := Lib.run_append_nil_zeros (P := Tryz.prog) w 108 3 ty 5 i _ .i64 .i64 Tryz.underlying108 Tryz.underlying3 hi hz k hk (by omega) (by omega) (by rw [hby]; omega)
    have hf := fresh 0 (Builtin.zeroCells (Value.int .u8 0).cells k) (by rw [zeros_list]; simp [cells])
    simp only [List.length_nil, Nat.zero_add] at hf
    exact ⟨_, _, hr, hf.1, hf.2⟩
  · have hneg : ¬ ((k : Int) < 0) := by omega
    have h48i : ¬ (281474976710656 < (k : Int)) := by omega
    have hk0 : k ≠ 0 := by omega
    simp only [Nat.mul_one] at htake
    by_cases hroom : l.length + k ≤ cap
    · have hz0 : ∀ u ∈ cells (List.replicate k 0), u.oneCell' = true := one_cells _
      have hst := run_storeCells_at Tryz.prog g l.length 5 (cells (List.replicate k 0)) 0 cur w hg (by simp; omega) hz0
      simp only [Nat.add_zero] at hst
      refine ⟨.slice (some ⟨g, 0, none⟩) (l.length + k) cap, w.setRow g (cur.toList.take l.length ++ cells (List.replicate k 0) ++ cur.toList.drop (l.length + (cells (List.replicate k 0)).length)).toArray, ?_, ⟨hm, hlen, .inr ⟨g, cap, _, by rw [hlk], hbg, setRow_heap w g cur _ 5 _ hg, by rw [hlk]; exact hroom, hcm, ?_, ?_⟩⟩, ?_⟩
      · simp [Builtin.append_, run_underlying Tryz.underlying108, run_underlying Tryz.underlying3, sizeOf, typeInfo, zeroValue, hi, hs, hby, hz, asInt, asIntOf, hwrap, hneg, h48i, hk0, hroom, Addr.add_lit, zeros_list, hst]
      · simp; omega
      · rw [htake, hlk, ← cells_append, Nat.mul_one]
        simp
      · exact (Below.refl base w).grown (row := some g) ⟨rfl, rfl, rfl, by simp, fun j _ hj => setRow_other w g j _ (fun e => hj (by simp [e]))⟩ hbase (by intro j hj; cases hj; exact hbg)
    · have hcell : ∀ j u, (cells l)[j]? = some u → w.drew.cell? ((⟨g, 0, none⟩ : Addr).add j) = some u := fun j u hu => h.2.cells (g := g) rfl j u hu
      have hold := run_firstCells_some (P := Tryz.prog) w.drew i.size l.length ⟨g, 0, none⟩ l.length cap (cells l) (by simp [hs]) hcell
      have hr := Lib.run_append_grow_zeros (P := Tryz.prog) w 108 3 ty 5 i _ .i64 .i64 Tryz.underlying108 Tryz.underlying3 hi hz (some ⟨g, 0, none⟩) l.length cap (cells l) hold k hk (by omega) (by omega) (by omega) (by rw [hby]; omega) (by
        rw [hby]
        exact growslice_fits (by omega) (by omega))
      have hf := fresh cap ((cells l).toArray ++ Builtin.zeroCells (Value.int .u8 0).cells k) (by rw [Array.toList_append, zeros_list])
      exact ⟨_, _, hr, hf.1, hf.2⟩
/-- 'make([]byte, 0, c)'. -/
theorem run_make0 {w : World} (base c : Nat) (hbase : base ≤ w.heap.size) (hc : c ≤ 1000000) :
    ∃ v w', (Instr.makeSlice 108 (.int .i64 0) (.int .i64 (c : Int))).run Tryz.prog w = .ok v w' ∧ Own w' base v [] ∧ Below base w w' := by
  obtain ⟨i, hi, hz, hs, hby⟩ := info_parts u8_row
  obtain ⟨w', hr, ho, hg⟩ := run_make_own (P := Tryz.prog) w base 108 5 i _ 1 Tryz.underlying108 hi hz hs .i64 .i64 c (by rw [hby]; omega) (by simp only [maxLen]; omega) hbase
  exact ⟨_, w', hr, ⟨by simp, ho⟩, (Below.refl base w).grown hg hbase (by simp)⟩
end Go.Proofs.YtfmdmfiljplkoaaGreat
namespace Go.Proofs.YtfmdmfiljplkoaaGreat
open Go.RowKit
/-- So many bytes of a number, the lowest first. -/
def lebZ (n : Int) (k : Nat) : List Nat := (List.range k).map fun i => ((n / 2 ^ (8 * i)) % 256).toNat
theorem lebZ_lt (n : Int) (k : Nat) : ∀ b ∈ lebZ n k, b < 256 := by
  intro b hb
  obtain ⟨i, _, rfl⟩ := List.mem_map.1 hb
  have : (n / 2 ^ (8 * i)) % 256 < 256 := Int.emod_lt_of_pos _ (by omega)
  omega
theorem lebZ_succ (n : Int) (k : Nat) : lebZ n (k + 1) = lebZ n k ++ [((n / 2 ^ (8 * k)) % 256).toNat] := by
  simp [lebZ, List.range_succ]
@[simp] theorem lebZ_length (n : Int) (k : Nat) : (lebZ n k).length = k := by simp [lebZ]
/-- A literal of one byte, and what 'append' makes of it. -/
theorem run_push {w : World} {base : Nat} {v : Value} {l : List Nat} (ty : TypeId) (h : Own w base v l) (x : Int) (h0 : 0 ≤ x) (h1 : x < 256) (hbase : base ≤ w.heap.size) (hn : l.length ≤ 950000) :
    ∃ v' w', (Builtin.append_ #[108, 108] ty #[v, .slice (some ⟨w.heap.size, 0, none⟩) 1 1]).run Tryz.prog (w.alloc (.cells #[.int .u8 x] 5)) = .ok v' w' ∧ Own w' base v' (l ++ [x.toNat]) ∧ Below base w w' := by
  have hx : x = ((x.toNat : Nat) : Int) := by omega
  have hr : Rd (w.alloc (.cells #[.int .u8 x] 5)) (w.heap.size + 1) (some ⟨w.heap.size, 0, none⟩) [x.toNat] := by
    refine ⟨by simp; omega, fun _ => ⟨_, rfl, by simp, fun k hk => ?_⟩⟩
    have : k = 0 := by simpa using hk
    subst this
    show (w.alloc _).cell? ⟨w.heap.size, 0, none⟩ = some (.int .u8 ((x.toNat : Nat) : Int))
    rw [← hx]
    exact (Blk.new w _ _).cell 0
  have hs : base ≤ (w.alloc (.cells #[.int .u8 x] 5)).heap.size := by simp; omega
  obtain ⟨v', w', hrun, ho, hb⟩ := run_app ty (h.alloc (.cells #[.int .u8 x] 5)) _ _ 1 [x.toNat] hr hs (by simp; omega)
  exact ⟨v', w', hrun, ho, ((Below.refl base w).alloc hbase _).trans hb⟩
set_option maxRecDepth 8000 in
set_option maxHeartbeats 2000000 in
theorem put_int (w : World) (base : Nat) (v : Value) (l : List Nat) (n : Int) (h : Own w base v l) (hbase : base ≤ w.heap.size) (hn : l.length ≤ 900000) :
    Calls Tryz.prog 208 #[v, .int .i64 n, .int .i64 8] w fun e w' => ∃ v', e = .returned v' ∧ Own w' base v' (l ++ lebZ n 8) ∧ Below base w w' := by
  have H := Lib.hid h
  clear h
  go_enter Tryz.func208, Tryz.ntmps208
  go_wp2
  go_loopw [0, 9] (fun x i wr => ∃ k : Nat, k ≤ 8 ∧ i = .int .i64 k ∧ Hid (Own wr base x (l ++ lebZ n k)) ∧ Hid (Below base w wr)) (fun _ i _ => 8 - (intOf i).toNat)
  case atStart => exact ⟨0, by omega, rfl, Lib.hid (by simpa [lebZ] using H.out), Lib.hid (Below.refl _ _)⟩
  case round =>
    obtain ⟨k, hk, rfl, HO, HB⟩ := hrel
    by_cases hlt : k < 8
    · have hq0 : 0 ≤ n / 2 ^ (8 * k) % 256 := Int.emod_nonneg _ (by omega)
      have hq1 : n / 2 ^ (8 * k) % 256 < 256 := Int.emod_lt_of_pos _ (by omega)
      obtain ⟨v', w', hrun, ho, hb⟩ := run_push 108 HO.out (n / 2 ^ (8 * k) % 256) hq0 hq1 (Nat.le_trans hbase HB.out.size) (by simp; omega)
      have HRUN := Lib.hid hrun
      have HO' := Lib.hid ho
      have HB' := Lib.hid (HB.out.trans hb)
      clear hrun ho hb
      go_wp2_with (at_builtin; refine Lib.wpList_append_run _ rfl (.tmp 12) (.tmp 18) 108 108 rfl _ _ rfl rfl v' w' HRUN.out ?_)
      go_round
      case rel => exact ⟨k + 1, by omega, by simp, Lib.hid (by rw [lebZ_succ, ← List.append_assoc]; exact HO'.out), HB'⟩
      case measure => simp [intOf]; omega
    · obtain rfl : k = 8 := by omega
      go_wp2
      go_ret
      exact ⟨_, rfl, HO.out, HB.out⟩
set_option maxRecDepth 8000 in
set_option maxHeartbeats 2000000 in
theorem put_u32 (w : World) (base : Nat) (v : Value) (l : List Nat) (n : Int) (h : Own w base v l) (hbase : base ≤ w.heap.size) (hn : l.length ≤ 900000) :
    Calls Tryz.prog 171 #[v, .int .u32 n, .int .i64 4] w fun e w' => ∃ v', e = .returned v' ∧ Own w' base v' (l ++ lebZ n 4) ∧ Below base w w' := by
  have H := Lib.hid h
  clear h
  go_enter Tryz.func171, Tryz.ntmps171
  go_wp2
  go_loopw [0, 9] (fun x i wr => ∃ k : Nat, k ≤ 4 ∧ i = .int .i64 k ∧ Hid (Own wr base x (l ++ lebZ n k)) ∧ Hid (Below base w wr)) (fun _ i _ => 4 - (intOf i).toNat)
  case atStart => exact ⟨0, by omega, rfl, Lib.hid (by simpa [lebZ] using H.out), Lib.hid (Below.refl _ _)⟩
  case round =>
    obtain ⟨k, hk, rfl, HO, HB⟩ := hrel
    by_cases hlt : k < 4
    · have hq0 : 0 ≤ n / 2 ^ (8 * k) % 256 := Int.emod_nonneg _ (by omega)
      have hq1 : n / 2 ^ (8 * k) % 256 < 256 := Int.emod_lt_of_pos _ (by omega)
      obtain ⟨v', w', hrun, ho, hb⟩ := run_push 108 HO.out (n / 2 ^ (8 * k) % 256) hq0 hq1 (Nat.le_trans hbase HB.out.size) (by simp; omega)
      have HRUN := Lib.hid hrun
      have HO' := Lib.hid ho
      have HB' := Lib.hid (HB.out.trans hb)
      clear hrun ho hb
      go_wp2_with (at_builtin; refine Lib.wpList_append_run _ rfl (.tmp 12) (.tmp 18) 108 108 rfl _ _ rfl rfl v' w' HRUN.out ?_)
      go_round
      case rel => exact ⟨k + 1, by omega, by simp, Lib.hid (by rw [lebZ_succ, ← List.append_assoc]; exact HO'.out), HB'⟩
      case measure => simp [intOf]; omega
    · obtain rfl : k = 4 := by omega
      go_wp2
      go_ret
      exact ⟨_, rfl, HO.out, HB.out⟩
/-- The bytes of a number that is not negative. -/
def leb (n k : Nat) : List Nat := (List.range k).map fun i => n / 2 ^ (8 * i) % 256
@[simp] theorem leb_length (n k : Nat) : (leb n k).length = k := by simp [leb]
theorem lebZ_nat (n k : Nat) : lebZ n k = leb n k := by
  unfold lebZ leb
  apply List.map_congr_left
  intro i _
  have : ((n : Int) / 2 ^ (8 * i)) % 256 = ((n / 2 ^ (8 * i) % 256 : Nat) : Int) := by rw [Int.natCast_emod, Int.natCast_ediv, Int.natCast_pow]; rfl
  rw [this, Int.toNat_natCast]
theorem lebZ_not (n k : Nat) : lebZ (-1 - (n : Int)) k = (leb n k).map (255 - ·) := by
  unfold lebZ leb
  rw [List.map_map]
  apply List.map_congr_left
  intro i _
  show _ = 255 - n / 2 ^ (8 * i) % 256
  have hp : (0 : Int) < 2 ^ (8 * i) := Int.pow_pos (by omega)
  have h1 : (-1 - (n : Int)) / 2 ^ (8 * i) = -1 - ((n / 2 ^ (8 * i) : Nat) : Int) := by
    have e : ((n / 2 ^ (8 * i) : Nat) : Int) = (n : Int) / 2 ^ (8 * i) := by rw [Int.natCast_ediv, Int.natCast_pow]; rfl
    rw [e]
    have hd := Int.mul_ediv_add_emod (n : Int) (2 ^ (8 * i))
    have hm0 := Int.emod_nonneg (n : Int) (Int.ne_of_gt hp)
    have hm1 := Int.emod_lt_of_pos (n : Int) hp
    generalize (n : Int) / 2 ^ (8 * i) = q at *
    generalize (n : Int) % 2 ^ (8 * i) = r at *
    generalize (2 : Int) ^ (8 * i) = d at *
    have : -1 - (n : Int) = (d - 1 - r) + d * (-1 - q) := by rw [← hd, Int.mul_sub, Int.mul_neg, Int.mul_one]; omega
    rw [this, Int.add_mul_ediv_left _ _ (Int.ne_of_gt hp), Int.ediv_eq_zero_of_lt (by omega) (by omega)]
    omega
  rw [h1]
  generalize n / 2 ^ (8 * i) = q
  omega
end Go.Proofs.YtfmdmfiljplkoaaGreat
namespace Go.Proofs.YtfmdmfiljplkoaaGreat
open Go.RowKit
def okSize (n : Int) : Bool := decide (64 ≤ n ∧ n ≤ 4096)
theorem may_any (n : Int) (w : World) : Calls Tryz.prog 168 #[.int .i64 n] w fun e w' => e = .returned (.bool (okSize n)) ∧ w = w' := by
  unfold okSize
  go_enter Tryz.func168, Tryz.ntmps168
  go_each [64 ≤ n, n ≤ 4096] => (go_wp2; go_ret; exact ⟨by simp [*], rfl⟩)
/-- How long a load may be. -/
def room (n : Int) : Int := if okSize n then n - 36 else 0
theorem Room_any (n : Int) (w : World) : Calls Tryz.prog 169 #[.int .i64 n] w fun e w' => e = .returned (.int .i64 (room n)) ∧ w = w' := by
  unfold room
  have hm := may_any n
  have hc : okSize n = true → 64 ≤ n ∧ n ≤ 4096 := by unfold okSize; simp
  generalize okSize n = q at *
  go_enter Tryz.func169, Tryz.ntmps169
  go_wp2_with fail
  refine (hm w).mono ?_
  rintro e w1 ⟨rfl, rfl⟩
  cases q
  · go_wp2
    go_ret
    exact ⟨by simp, rfl⟩
  · have := hc rfl
    go_wp2
    go_ret
    exact ⟨by simp, rfl⟩
/-- A mark and the same with all bits turned. -/
def head (m : Nat) : List Nat := leb m 8 ++ (leb m 8).map (255 - ·)
@[simp] theorem head_length (m : Nat) : (head m).length = 16 := by simp [head]
theorem both_any (w : World) (base : Nat) (v : Value) (l : List Nat) (m : Nat) (h : Own w base v l) (hbase : base ≤ w.heap.size) (hn : l.length ≤ 800000) (hm : (m : Int) ≤ 4611686018427387904) :
    Calls Tryz.prog 170 #[v, .int .i64 m] w fun e w' => ∃ v', e = .returned v' ∧ Own w' base v' (l ++ head m) ∧ Below base w w' := by
  have hx : bits .xor .i64 (-1) (m : Int) = -1 - (m : Int) := by
    exact i64_not m (by omega)
  have h2 := lebZ_not m 8
  have H := Lib.hid h
  clear h
  go_enter Tryz.func170, Tryz.ntmps170
  go_wp2_with fail
  refine (put_int w base v l m H.out hbase (by omega)).mono ?_
  rintro e w1 ⟨v1, rfl, ho1, hb1⟩
  rw [lebZ_nat] at ho1
  have HO1 := Lib.hid ho1
  have HB1 := Lib.hid hb1
  clear ho1 hb1
  have h3 := put_int w1 base v1 _ (-1 - (m : Int)) HO1.out (Nat.le_trans hbase HB1.out.size) (by simp; omega)
  rw [h2, ← hx] at h3
  clear hx h2
  go_wp2_with fail
  refine h3.mono ?_
  rintro e w2 ⟨v2, rfl, ho2, hb2⟩
  have HO2 := Lib.hid ho2
  have HB2 := Lib.hid hb2
  clear ho2 hb2
  go_wp2
  go_ret
  exact ⟨_, rfl, by rw [head, ← List.append_assoc]; exact HO2.out, HB1.out.trans HB2.out⟩
/-- 'make' whose run is known. -/
theorem wpList_make_run {P : Program} {w : World} {ops : Array Oper} {rest : List Oper} {o : Oper} {a : Act} {Q : Exit → Act → World → Prop} (hg : o.guard = none) (l c : Operand) (t : TypeId) (hop : o.op = Op.makeSlice t l c)
    (vl vc v' : Value) (w' : World) (hl : a.eval l = vl) (hc : a.eval c = vc) (hr : (Instr.makeSlice t vl vc).run P w = .ok v' w') (h : wpList P ops Q rest (a.put o.dst v') w') : wpList P ops Q (o :: rest) a w := by
  refine wpList_plain hg fun K hK => ?_
  unfold Oper.wp
  simp [execOp, hop, hl, hc, hr, Result.andThen]
  exact hK _ _ h
/-- A sector's first part, and a sector. -/
def body (n m : Nat) (l : List Nat) : List Nat := head m ++ l ++ List.replicate (n - 36 - l.length) 0
def sector (n m : Nat) (l : List Nat) : List Nat := body n m l ++ leb (M.crc (body n m l)) 4 ++ head m
theorem body_length {n m : Nat} {l : List Nat} (h : l.length + 36 ≤ n) : (body n m l).length = n - 20 := by simp [body]; omega
theorem sector_length {n m : Nat} {l : List Nat} (h : l.length + 36 ≤ n) : (sector n m l).length = n := by simp [sector, body_length h]; omega
end Go.Proofs.YtfmdmfiljplkoaaGreat
namespace Go.Proofs.YtfmdmfiljplkoaaGreat
open Go.RowKit
set_option maxRecDepth 8000
set_option maxHeartbeats 400000 in
theorem Build_ok (n m : Nat) (A : Option Addr) (l : List Nat) (c : Nat) (w : World) (hr : Rd w w.heap.size A l) (hn1 : (64 : Int) ≤ n) (hn2 : (n : Int) ≤ 4096) (hm1 : (1 : Int) ≤ m) (hm2 : (m : Int) ≤ 4611686018427387904) (hl : (l.length : Int) ≤ n - 36) :
    Calls Tryz.prog 113 #[.int .i64 n, .int .i64 m, .slice A l.length c] w fun e w' => ∃ v', e = .returned (.tuple #[v', .int .i64 0]) ∧ Own w' w.heap.size v' (sector n m l) ∧ Below w.heap.size w w' := by
  have hk : okSize n = true := by simp [okSize]; omega
  have hm := may_any n
  have hR := Room_any n
  have hroom : room n = n - 36 := by unfold room; rw [if_pos hk]
  rw [hk] at hm
  rw [hroom] at hR
  clear hroom
  have HR := Lib.hid hr
  clear hr
  obtain ⟨v0, w0, hrun, ho0, hb0⟩ := run_make0 w.heap.size n (Nat.le_refl _) (by omega)
  have RUN0 := Lib.hid hrun
  have HO0 := Lib.hid ho0
  have HB0 := Lib.hid hb0
  clear hrun ho0 hb0
  go_enter Tryz.func113, Tryz.ntmps113
  go_wp2_with fail
  refine (hm w).mono ?_
  rintro e w1 ⟨rfl, rfl⟩
  go_wp2_with fail
  refine (hR w).mono ?_
  rintro e w1 ⟨rfl, rfl⟩
  go_wp2_with (at_make; refine wpList_make_run rfl _ _ 108 rfl _ _ v0 w0 rfl rfl RUN0.out ?_)
  refine (both_any w0 w.heap.size v0 [] m HO0.out HB0.out.size (by simp) hm2).mono ?_
  rintro e w1 ⟨v1, rfl, ho1, hb1⟩
  rw [List.nil_append] at ho1
  obtain ⟨v2, w2, hrun, ho2, hb2⟩ := run_app 108 ho1 w.heap.size A c l (HR.out.below (HB0.out.trans hb1) (Nat.le_refl _)) (HB0.out.trans hb1).size (by simp; omega)
  have RUN2 := Lib.hid hrun
  have HO2 := Lib.hid ho2
  have HB2 := Lib.hid ((HB0.out.trans hb1).trans hb2)
  clear hrun ho1 hb1 ho2 hb2
  obtain ⟨v3, w3, hrun, ho3, hb3⟩ := run_app0 108 HO2.out (n - 36 - l.length) HB2.out.size (by simp; omega)
  have ek : ((n - 36 - l.length : Nat) : Int) = (n : Int) - 36 - l.length := by omega
  rw [ek] at hrun
  clear ek
  have RUN3 := Lib.hid hrun
  have HO3 : Hid (Own w3 w.heap.size v3 (body n m l)) := Lib.hid ho3
  have HB3 := Lib.hid (HB2.out.trans hb3)
  clear hrun ho3 hb3
  go_wp2_with (at_builtin; refine Lib.wpList_append_run _ rfl (.tmp 30) (.tmp 31) 108 108 rfl _ _ rfl rfl v2 w2 RUN2.out ?_)
  refine (hR w2).mono ?_
  rintro e w4 ⟨rfl, rfl⟩
  go_wp2_with (at_builtin; refine Lib.wpList_append_run _ rfl (.tmp 33) (.tmp 38) 108 3 rfl _ _ rfl rfl v3 w3 RUN3.out ?_)
  have hlen : (body n m l).length = n - 20 := body_length (by omega)
  have HC : Calls Tryz.prog 172 #[v3] w3 fun e w' => e = .returned (.int .u32 (M.crc (body n m l))) ∧ w3 = w' := by
    obtain ⟨A3, c3, e3, hr3⟩ := HO3.out.form
    rw [e3]
    exact Check_any A3 (body n m l) c3 w3 hr3 (by omega)
  have KC := Lib.hid hlen
  clear hlen
  generalize hbody : body n m l = bd at *
  have HBD := Lib.hid hbody
  clear hbody
  generalize hcr : M.crc bd = cr at *
  have HCR := Lib.hid hcr
  clear hcr
  refine HC.mono ?_
  rintro e w4 ⟨rfl, rfl⟩
  go_wp2_with fail
  refine (put_u32 w3 w.heap.size v3 bd cr HO3.out HB3.out.size (by have := KC.out; omega)).mono ?_
  rintro e w4 ⟨v4, rfl, ho4, hb4⟩
  rw [lebZ_nat] at ho4
  have HO4 := Lib.hid ho4
  have HB4 := Lib.hid (HB3.out.trans hb4)
  clear ho4 hb4
  generalize hcb : leb cr 4 = cb at *
  have HCB := Lib.hid hcb
  have hcl : cb.length = 4 := by rw [← hcb]; simp
  clear hcb
  go_wp2_with fail
  refine (both_any w4 w.heap.size v4 _ m HO4.out HB4.out.size (by have := KC.out; simp; omega) hm2).mono ?_
  rintro e w5 ⟨v5, rfl, ho5, hb5⟩
  have HO5 := Lib.hid ho5
  have HB5 := Lib.hid (HB4.out.trans hb5)
  clear ho5 hb5
  go_wp2
  go_ret2
  refine ⟨_, rfl, ?_, HB5.out⟩
  have e : sector n m l = bd ++ cb ++ head m := by unfold sector; rw [HBD.out, HCR.out, HCB.out]
  rw [e]
  exact HO5.out
end Go.Proofs.YtfmdmfiljplkoaaGreat
namespace Go.Proofs.YtfmdmfiljplkoaaGreat
open Go.RowKit
set_option maxRecDepth 8000
def slen : Value → Nat
  | .slice _ n _ => n
  | _ => 0
def N6 (n : Nat) (l : List Nat) : Nat := 16 + l.length + (n - 36 - l.length) + 4
end Go.Proofs.YtfmdmfiljplkoaaGreat
namespace Go.Proofs.YtfmdmfiljplkoaaGreat
open Go.RowKit
set_option maxRecDepth 8000
set_option maxHeartbeats 1000000 in
theorem cloneS_any (p : Addr) (l : List Nat) (c : Nat) (w : World) (hr : Rd w w.heap.size (some p) l) (hl : l.length ≤ 900000) :
    Calls Tryz.prog 206 #[.slice (some p) l.length c] w fun e w' => ∃ v', e = .returned v' ∧ Own w' w.heap.size v' l ∧ Below w.heap.size w w' := by
  obtain ⟨v1, w1, hrun, ho, hb⟩ := run_copy c hr hl
  have RUN := Lib.hid hrun
  have HO := Lib.hid ho
  have HB := Lib.hid hb
  clear hrun ho hb hr
  have kn : ∀ w : World, (binOp .eql 108 (.slice (some p) l.length c) (.slice none 0 0)).run Tryz.prog w = .ok (.bool false) w := fun w => by
    have := run_equal_slice_nil (P := Tryz.prog) (w := w) 108 5 (some p) l.length c Tryz.underlying108
    simp only [binOp, Sem.run_bind, this]; rfl
  go_enter Tryz.func206, Tryz.ntmps206
  go_wp2_with (at_builtin; refine Lib.wpList_append_run _ rfl (.tmp 5) (.tmp 6) 108 108 rfl _ _ rfl rfl _ w1 RUN.out ?_)
  go_ret
  exact ⟨_, rfl, HO.out, HB.out⟩
/-- A number out of its bytes, the lowest first. -/
def num : List Nat → Nat
  | [] => 0
  | b :: l => b + 256 * num l
theorem ofInt_wrap (x : Int) : BitVec.ofInt 64 (IntKind.i64.wrap x) = BitVec.ofInt 64 x := by
  apply BitVec.eq_of_toInt_eq
  rw [BitVec.toInt_ofInt, BitVec.toInt_ofInt, IntKind.wrap_i64]
  simp only [Int.bmod_def]
  omega
theorem or_join (X b k : Nat) (hk : k < 8) (hX : X < 2 ^ (8 * k)) (hb : b < 256) :
    bits .or .i64 (IntKind.i64.wrap (X : Int)) (IntKind.i64.wrap ((b : Int) * 2 ^ (8 * k))) = IntKind.i64.wrap ((X + b * 2 ^ (8 * k) : Nat) : Int) := by
  have hs : b * 2 ^ (8 * k) + X < 2 ^ 64 := by
    have h1 : (b + 1) * 2 ^ (8 * k) ≤ 256 * 2 ^ (8 * k) := Nat.mul_le_mul_right _ (by omega)
    have h2 : 256 * 2 ^ (8 * k) ≤ 2 ^ 64 := by
      rw [show (256 : Nat) = 2 ^ 8 from rfl, ← Nat.pow_add]
      exact Nat.pow_le_pow_right (by omega) (by omega)
    rw [Nat.add_mul, Nat.one_mul] at h1
    omega
  show IntKind.i64.wrap ((BitVec.ofInt 64 (IntKind.i64.wrap (X : Int)) ||| BitVec.ofInt 64 (IntKind.i64.wrap ((b : Int) * 2 ^ (8 * k)))).toNat : Int) = _
  have e : (b : Int) * 2 ^ (8 * k) = ((b * 2 ^ (8 * k) : Nat) : Int) := by rw [Int.natCast_mul, Int.natCast_pow]; rfl
  rw [ofInt_wrap, ofInt_wrap, e, BitVec.ofInt_natCast, BitVec.ofInt_natCast, BitVec.toNat_or, BitVec.toNat_ofNat, BitVec.toNat_ofNat,
    Nat.mod_eq_of_lt (by omega), Nat.mod_eq_of_lt (by omega), Nat.or_comm, Nat.mul_comm b, ← Nat.two_pow_add_eq_or_of_lt hX, Nat.add_comm]
theorem num_snoc : ∀ (a : List Nat) (b : Nat), num (a ++ [b]) = num a + b * 2 ^ (8 * a.length)
  | [], b => by simp [num]
  | x :: a, b => by
    have e : b * 2 ^ (8 * (a.length + 1)) = 256 * (b * 2 ^ (8 * a.length)) := by
      rw [Nat.mul_add, Nat.pow_add, ← Nat.mul_assoc, Nat.mul_comm _ (2 ^ (8 * 1))]
    simp only [List.cons_append, num, num_snoc a b, List.length_cons, e]
    omega
theorem num_lt : ∀ (l : List Nat), (∀ b ∈ l, b < 256) → num l < 2 ^ (8 * l.length)
  | [], _ => by simp [num]
  | x :: l, h => by
    have h1 := num_lt l fun b hb => h b (by simp [hb])
    have h2 := h x (by simp)
    have e : 2 ^ (8 * (l.length + 1)) = 256 * 2 ^ (8 * l.length) := by
      rw [Nat.mul_add, Nat.pow_add, Nat.mul_comm _ (2 ^ (8 * 1))]
    simp only [num, List.length_cons, e]
    omega
theorem num_take (l : List Nat) (k : Nat) (h : k < l.length) : num (l.take (k + 1)) = num (l.take k) + l[k] * 2 ^ (8 * k) := by
  have e : l.take (k + 1) = l.take k ++ [l[k]] := by rw [List.take_add_one, List.getElem?_eq_getElem h]; rfl
  rw [e, num_snoc]
  have : (l.take k).length = k := by simp; omega
  rw [this]
theorem num_take_lt (l : List Nat) (k : Nat) (h : k ≤ l.length) (hl : ∀ b ∈ l, b < 256) : num (l.take k) < 2 ^ (8 * k) := by
  have := num_lt (l.take k) fun b hb => hl b (List.mem_of_mem_take hb)
  have e : (l.take k).length = k := by simp; omega
  rw [e] at this
  exact this
set_option maxHeartbeats 1000000 in
theorem get_int (p : Addr) (l : List Nat) (n c : Nat) (w : World) (hn : l.length = n) (hr : Rd w w.heap.size (some p) l) (hl : (8 : Int) ≤ n) :
    Calls Tryz.prog 224 #[.slice (some p) n c, .int .i64 8] w fun e w' => e = .returned (.int .i64 (IntKind.i64.wrap (num (l.take 8)))) ∧ w = w' := by
  have HR := Lib.hid hr
  clear hr
  go_enter Tryz.func224, Tryz.ntmps224
  go_wp2
  go_loop [5, 8] (fun x i => ∃ k : Nat, k ≤ 8 ∧ i = .int .i64 k ∧ x = .int .i64 (IntKind.i64.wrap (num (l.take k)))) (fun _ i => 8 - (intOf i).toNat)
  case atStart => exact ⟨0, by omega, rfl, val_int (by rw [List.take_zero]; decide)⟩
  case round =>
    obtain ⟨k, hk, rfl, rfl⟩ := hrel
    by_cases hlt : k < 8
    · obtain ⟨q, e, _, hc, hb⟩ := HR.out.get (show k < l.length by omega)
      cases e
      have hj := or_join (num (l.take k)) l[k] k hlt (num_take_lt l k (by omega) HR.out.1) hb
      rw [← num_take l k (by omega)] at hj
      have hw : ∀ x : Int, IntKind.i64.wrap x = wrap64 x := fun x => by unfold wrap64; exact IntKind.wrap_i64 x
      rw [hw ((l[k] : Nat) * 2 ^ (8 * k))] at hj
      clear hw
      have HJ := Lib.hid hj
      clear hj
      generalize l[k] = b at *
      generalize IntKind.i64.wrap (num (l.take k)) = x at *
      go_wp2
      go_round
      case rel => exact ⟨k + 1, by omega, by simp, val_int HJ.out⟩
      case measure => simp [intOf]; omega
    · obtain rfl : k = 8 := by omega
      go_wp2
      go_ret
      exact ⟨rfl, rfl⟩
end Go.Proofs.YtfmdmfiljplkoaaGreat
namespace Go.Proofs.YtfmdmfiljplkoaaGreat
open Go.RowKit
set_option maxRecDepth 8000
theorem or_join32 (X b k : Nat) (hk : k < 4) (hX : X < 2 ^ (8 * k)) (hb : b < 256) :
    bits .or .u32 (X : Int) ((b * 2 ^ (8 * k) : Nat) : Int) = ((X + b * 2 ^ (8 * k) : Nat) : Int) := by
  have hs : b * 2 ^ (8 * k) + X < 4294967296 := by
    have h1 : (b + 1) * 2 ^ (8 * k) ≤ 256 * 2 ^ (8 * k) := Nat.mul_le_mul_right _ (by omega)
    have h2 : 256 * 2 ^ (8 * k) ≤ 2 ^ 32 := by
      rw [show (256 : Nat) = 2 ^ 8 from rfl, ← Nat.pow_add]
      exact Nat.pow_le_pow_right (by omega) (by omega)
    rw [Nat.add_mul, Nat.one_mul] at h1
    omega
  rw [u32_or_nat _ _ (by omega) (by omega), Nat.or_comm, Nat.mul_comm b, ← Nat.two_pow_add_eq_or_of_lt hX, Nat.add_comm]
theorem small32 (b k : Nat) (hk : k < 4) (hb : b < 256) : (b : Int) * 2 ^ (8 * k) % 4294967296 = ((b * 2 ^ (8 * k) : Nat) : Int) := by
  have hs : b * 2 ^ (8 * k) < 4294967296 := by
    have h1 : (b + 1) * 2 ^ (8 * k) ≤ 256 * 2 ^ (8 * k) := Nat.mul_le_mul_right _ (by omega)
    have h2 : 256 * 2 ^ (8 * k) ≤ 2 ^ 32 := by
      rw [show (256 : Nat) = 2 ^ 8 from rfl, ← Nat.pow_add]
      exact Nat.pow_le_pow_right (by omega) (by omega)
    have h3 : 0 < 2 ^ (8 * k) := Nat.pow_pos (by omega)
    rw [Nat.add_mul, Nat.one_mul] at h1
    omega
  have e : (b : Int) * 2 ^ (8 * k) = ((b * 2 ^ (8 * k) : Nat) : Int) := by rw [Int.natCast_mul, Int.natCast_pow]; rfl
  rw [e]
  omega
set_option maxHeartbeats 1000000 in
theorem get_u32 (p : Addr) (l : List Nat) (n c : Nat) (w : World) (hn : l.length = n) (hr : Rd w w.heap.size (some p) l) (hl : (4 : Int) ≤ n) :
    Calls Tryz.prog 205 #[.slice (some p) n c, .int .i64 4] w fun e w' => e = .returned (.int .u32 (num (l.take 4))) ∧ w = w' := by
  have HR := Lib.hid hr
  clear hr
  go_enter Tryz.func205, Tryz.ntmps205
  go_wp2
  go_loop [5, 8] (fun x i => ∃ k : Nat, k ≤ 4 ∧ i = .int .i64 k ∧ x = .int .u32 (num (l.take k))) (fun _ i => 4 - (intOf i).toNat)
  case atStart => exact ⟨0, by omega, rfl, val_int (by rw [List.take_zero]; rfl)⟩
  case round =>
    obtain ⟨k, hk, rfl, rfl⟩ := hrel
    by_cases hlt : k < 4
    · obtain ⟨q, e, _, hc, hb⟩ := HR.out.get (show k < l.length by omega)
      cases e
      have hj := or_join32 (num (l.take k)) l[k] k hlt (num_take_lt l k (by omega) HR.out.1) hb
      rw [← num_take l k (by omega)] at hj
      rw [← small32 l[k] k hlt hb] at hj
      have HJ := Lib.hid hj
      clear hj
      generalize l[k] = b at *
      generalize ((num (l.take k) : Nat) : Int) = x at *
      go_wp2
      go_round
      case rel => exact ⟨k + 1, by omega, by simp, val_int HJ.out⟩
      case measure => simp [intOf]; omega
    · obtain rfl : k = 4 := by omega
      go_wp2
      go_ret
      exact ⟨rfl, rfl⟩
end Go.Proofs.YtfmdmfiljplkoaaGreat
namespace Go.Proofs.YtfmdmfiljplkoaaGreat
open Go.RowKit
set_option maxRecDepth 8000
def w64 (x : Int) : Int := IntKind.i64.wrap x
/-- The mark of bytes, 0 where there is none. -/
def markOf (l : List Nat) : Int :=
  if w64 (num (l.take 8)) < 1 ∨ 4611686018427387904 < w64 (num (l.take 8)) ∨ -1 - w64 (num (l.take 8)) ≠ w64 (num ((l.drop 8).take 8)) then 0 else w64 (num (l.take 8))
set_option maxHeartbeats 1000000 in
theorem marked_any (p : Addr) (l : List Nat) (n c : Nat) (w : World) (hn : l.length = n) (hr : Rd w w.heap.size (some p) l) (hl : (16 : Int) ≤ n) (hc : (n : Int) ≤ c) (hl2 : (n : Int) ≤ 1000000) :
    Calls Tryz.prog 204 #[.slice (some p) n c] w fun e w' => e = .returned (.int .i64 (markOf l)) ∧ w = w' := by
  have h1 := get_int p l n c w hn hr (by omega)
  have h2 := get_int (p.add 8) (l.drop 8) (n - 8) (c - 8) w (by simp; omega) (hr.drop_ 8) (by omega)
  have hm : markOf l = if w64 (num (l.take 8)) < 1 ∨ 4611686018427387904 < w64 (num (l.take 8)) ∨ -1 - w64 (num (l.take 8)) ≠ w64 (num ((l.drop 8).take 8)) then 0 else w64 (num (l.take 8)) := rfl
  change Calls Tryz.prog 224 #[.slice (some p) n c, .int .i64 8] w fun e w' => e = .returned (.int .i64 (w64 (num (l.take 8)))) ∧ w = w' at h1
  change Calls Tryz.prog 224 #[.slice (some (p.add 8)) (n - 8) (c - 8), .int .i64 8] w fun e w' => e = .returned (.int .i64 (w64 (num ((l.drop 8).take 8)))) ∧ w = w' at h2
  generalize markOf l = mk at *
  generalize w64 (num (l.take 8)) = x at *
  generalize w64 (num ((l.drop 8).take 8)) = y at *
  have HM := Lib.hid hm
  clear hm hr
  go_enter Tryz.func204, Tryz.ntmps204
  go_wp2_with fail
  refine h1.mono ?_
  rintro e w1 ⟨rfl, rfl⟩
  by_cases hx1 : x < 1
  · go_wp2
    go_ret
    exact ⟨ret_int (by rw [HM.out, if_pos (.inl hx1)]), rfl⟩
  by_cases hx2 : 4611686018427387904 < x
  · go_wp2
    go_ret
    exact ⟨ret_int (by rw [HM.out, if_pos (.inr (.inl hx2))]), rfl⟩
  obtain ⟨X, rfl⟩ := Int.eq_ofNat_of_zero_le (show 0 ≤ x by omega)
  have hp8 : p.add 8 = ⟨p.block, p.off + 8, none⟩ := by simp [Addr.add]
  rw [hp8] at h2
  have hnot : bits .xor .i64 (-1) (X : Int) = -1 - (X : Int) := i64_not X (by omega)
  by_cases hy : -1 - (X : Int) = y
  · have hv : (X : Int) = mk := by rw [HM.out, if_neg (by omega)]
    have HV := Lib.hid hv
    clear hv
    go_wp2_with fail
    refine h2.mono ?_
    rintro e w1 ⟨rfl, rfl⟩
    go_wp2
    go_ret
    exact ⟨ret_int HV.out, rfl⟩
  · have hv : (0 : Int) = mk := by rw [HM.out, if_pos (.inr (.inr hy))]
    have hy' : (-1 - (X : Int) != y) = true := by simpa using hy
    have HV := Lib.hid hv
    clear hv
    go_wp2_with fail
    refine h2.mono ?_
    rintro e w1 ⟨rfl, rfl⟩
    go_wp2
    go_ret
    exact ⟨ret_int HV.out, rfl⟩
end Go.Proofs.YtfmdmfiljplkoaaGreat
namespace Go.Proofs.YtfmdmfiljplkoaaGreat
open Go.RowKit
set_option maxRecDepth 8000
theorem below_drewN (w : World) (k : Nat) : Below w.heap.size w (w.drewN k) := ⟨rfl, rfl, rfl, Nat.le_refl _, fun _ _ => rfl⟩
/-- The road of 'Read' over what its calls tell. -/
def road (mb mt : Int) (g cr : Nat) : Bool := decide (mb ≠ 0 ∧ mb = mt ∧ g = cr)
set_option maxHeartbeats 2000000 in
theorem Read_road (p : Addr) (n c : Nat) (w : World) (mb mt : Int) (g cr : Nat) (lo : List Nat) (h1 : (64 : Int) ≤ n) (h2 : (n : Int) ≤ 4096) (hc : (n : Int) ≤ c)
    (hcr : (cr : Int) ≤ 4294967295)
    (k1 : ∀ k, Calls Tryz.prog 204 #[.slice (some p) (n - 16 - 4) (n - 16 - 4)] (w.drewN k) fun e w' => e = .returned (.int .i64 mb) ∧ w.drewN k = w')
    (k2 : ∀ k, Calls Tryz.prog 204 #[.slice (some ⟨(p.add (n - 16 - 4)).block, (p.add (n - 16 - 4)).off + 4, none⟩) (n - (n - 16 - 4) - 4) (c - (n - 16 - 4) - 4)] (w.drewN k) fun e w' => e = .returned (.int .i64 mt) ∧ w.drewN k = w')
    (k3 : ∀ k, Calls Tryz.prog 205 #[.slice (some (p.add (n - 16 - 4))) (n - (n - 16 - 4)) (c - (n - 16 - 4)), .int .i64 4] (w.drewN k) fun e w' => e = .returned (.int .u32 g) ∧ w.drewN k = w')
    (k4 : ∀ k, Calls Tryz.prog 172 #[.slice (some p) (n - 16 - 4) (n - 16 - 4)] (w.drewN k) fun e w' => e = .returned (.int .u32 cr) ∧ w.drewN k = w')
    (k5 : ∀ k, Calls Tryz.prog 206 #[.slice (some ⟨p.block, p.off + 16, none⟩) (n - 16 - 4 - 16) (n - 16 - 4 - 16)] (w.drewN k) fun e w' => ∃ v', e = .returned v' ∧ Own w' w.heap.size v' lo ∧ Below w.heap.size w w') :
    Calls Tryz.prog 162 #[.slice (some p) n c] w fun e w' => ∃ v', e = .returned (.tuple #[.int .i64 (if road mb mt g cr then mb else 0), v', .int .i64 (if road mb mt g cr then 0 else 5)]) ∧ (if road mb mt g cr then Own w' w.heap.size v' lo else v' = .slice none 0 0) ∧ Below w.heap.size w w' := by
  have hm := may_any n
  rw [show okSize n = true by simp [okSize]; omega] at hm
  by_cases q1 : mb = 0
  · subst q1
    simp only [road, ne_eq, not_true, false_and, decide_false, Bool.false_eq_true, if_false]
    go_enter Tryz.func162, Tryz.ntmps162
    go_wp2_with fail
    refine (hm w).mono ?_
    rintro e w1 ⟨rfl, rfl⟩
    go_wp2_with fail
    go_quiet (fail)
    go_wp2_with fail
    refine (k1 nq).mono ?_
    rintro e w1 ⟨rfl, rfl⟩
    go_wp2
    go_ret3
    exact ⟨_, rfl, rfl, below_drewN _ _⟩
  by_cases q2 : ¬ mb = mt
  · have q2' : (mb != mt) = true := by simpa using q2
    have er : road mb mt g cr = false := by simp [road, q2]
    simp only [er, Bool.false_eq_true, if_false]
    clear er
    go_enter Tryz.func162, Tryz.ntmps162
    go_wp2_with fail
    refine (hm w).mono ?_
    rintro e w1 ⟨rfl, rfl⟩
    go_wp2_with fail
    go_quiet (fail)
    go_wp2_with fail
    refine (k1 nq).mono ?_
    rintro e w1 ⟨rfl, rfl⟩
    go_wp2_with fail
    refine (k2 nq).mono ?_
    rintro e w1 ⟨rfl, rfl⟩
    go_wp2
    go_ret3
    exact ⟨_, rfl, rfl, below_drewN _ _⟩
  have q2 : mb = mt := by omega
  subst q2
  by_cases q3 : g = cr
  · subst q3
    have er : road mb mb g g = true := by simp [road, q1]
    simp only [er, if_true]
    clear er
    go_enter Tryz.func162, Tryz.ntmps162
    go_wp2_with fail
    refine (hm w).mono ?_
    rintro e w1 ⟨rfl, rfl⟩
    go_wp2_with fail
    go_quiet (fail)
    go_wp2_with fail
    refine (k1 nq).mono ?_
    rintro e w1 ⟨rfl, rfl⟩
    go_wp2_with fail
    refine (k2 nq).mono ?_
    rintro e w1 ⟨rfl, rfl⟩
    go_wp2_with fail
    refine (k3 nq).mono ?_
    rintro e w1 ⟨rfl, rfl⟩
    go_wp2_with fail
    refine (k4 nq).mono ?_
    rintro e w1 ⟨rfl, rfl⟩
    go_wp2_with fail
    refine (k5 nq).mono ?_
    rintro e w1 ⟨v', rfl, ho, hb⟩
    have HO := Lib.hid ho
    have HB := Lib.hid hb
    clear ho hb
    go_wp2
    go_ret3
    exact ⟨_, rfl, HO.out, HB.out⟩
  · have q3' : ((g : Int) != (cr : Int)) = true := by simp; omega
    have er : road mb mb g cr = false := by simp [road, q3]
    simp only [er, Bool.false_eq_true, if_false]
    clear er
    go_enter Tryz.func162, Tryz.ntmps162
    go_wp2_with fail
    refine (hm w).mono ?_
    rintro e w1 ⟨rfl, rfl⟩
    go_wp2_with fail
    go_quiet (fail)
    go_wp2_with fail
    refine (k1 nq).mono ?_
    rintro e w1 ⟨rfl, rfl⟩
    go_wp2_with fail
    refine (k2 nq).mono ?_
    rintro e w1 ⟨rfl, rfl⟩
    go_wp2_with fail
    refine (k3 nq).mono ?_
    rintro e w1 ⟨rfl, rfl⟩
    go_wp2_with fail
    refine (k4 nq).mono ?_
    rintro e w1 ⟨rfl, rfl⟩
    go_wp2
    go_ret3
    exact ⟨_, rfl, rfl, below_drewN _ _⟩
/-- What 'Read' asks of a sector's bytes, and what it tells. -/
def readOk (l : List Nat) : Bool := road (markOf (l.take (l.length - 16 - 4))) (markOf ((l.drop (l.length - 16 - 4)).drop 4)) (num ((l.drop (l.length - 16 - 4)).take 4)) (M.crc (l.take (l.length - 16 - 4)))
def readMark (l : List Nat) : Int := if readOk l then markOf (l.take (l.length - 16 - 4)) else 0
def readLoad (l : List Nat) : List Nat := if readOk l then (l.take (l.length - 16 - 4)).drop 16 else []
def readErr (l : List Nat) : Int := if readOk l then 0 else 5
theorem FRead_any (p : Addr) (l : List Nat) (c : Nat) (w : World) (hr : Rd w w.heap.size (some p) l) (h1 : (64 : Int) ≤ l.length) (h2 : (l.length : Int) ≤ 4096) (hc : (l.length : Int) ≤ c) :
    Calls Tryz.prog 162 #[.slice (some p) l.length c] w fun e w' => ∃ v', e = .returned (.tuple #[.int .i64 (readMark l), v', .int .i64 (readErr l)]) ∧ Own w' w.heap.size v' (readLoad l) ∧ Below w.heap.size w w' := by
  have hN : (l.take (l.length - 16 - 4)).length = l.length - 16 - 4 := by simp; omega
  have ha4 : (p.add (l.length - 16 - 4)).add 4 = ⟨(p.add (l.length - 16 - 4)).block, (p.add (l.length - 16 - 4)).off + 4, none⟩ := by
    show (if _ then _ else _) = _
    simp
  have ha16 : p.add 16 = ⟨p.block, p.off + 16, none⟩ := by
    show (if _ then _ else _) = _
    simp
  have hcr := M.crc_lt (l.take (l.length - 16 - 4))
  have k1 : ∀ k, Calls Tryz.prog 204 #[.slice (some p) (l.length - 16 - 4) (l.length - 16 - 4)] (w.drewN k) fun e w' => e = .returned (.int .i64 (markOf (l.take (l.length - 16 - 4)))) ∧ w.drewN k = w' := fun k =>
    marked_any p (l.take (l.length - 16 - 4)) (l.length - 16 - 4) _ (w.drewN k) hN ((hr.take_ _).drewN k) (by omega) (by omega) (by omega)
  have k2 := fun k => marked_any ((p.add (l.length - 16 - 4)).add 4) ((l.drop (l.length - 16 - 4)).drop 4) (l.length - (l.length - 16 - 4) - 4) (c - (l.length - 16 - 4) - 4) (w.drewN k) (by rw [List.length_drop, List.length_drop]) (((hr.drop_ _).drop_ 4).drewN k) (by omega) (by omega) (by omega)
  rw [ha4] at k2
  have k3 := fun k => get_u32 (p.add (l.length - 16 - 4)) (l.drop (l.length - 16 - 4)) (l.length - (l.length - 16 - 4)) (c - (l.length - 16 - 4)) (w.drewN k) (by simp) ((hr.drop_ _).drewN k) (by omega)
  have k4 := fun k => Check_any (some p) (l.take (l.length - 16 - 4)) (l.length - 16 - 4) (w.drewN k) ((hr.take_ _).drewN k) (by omega)
  rw [hN] at k4
  have hL : ((l.take (l.length - 16 - 4)).drop 16).length = l.length - 16 - 4 - 16 := by rw [List.length_drop, hN]
  have k5 := fun k => cloneS_any (p.add 16) ((l.take (l.length - 16 - 4)).drop 16) (l.length - 16 - 4 - 16) (w.drewN k) (((hr.take_ _).drop_ 16).drewN k) (by omega)
  rw [hL, ha16] at k5
  have k5' : ∀ k, Calls Tryz.prog 206 #[.slice (some ⟨p.block, p.off + 16, none⟩) (l.length - 16 - 4 - 16) (l.length - 16 - 4 - 16)] (w.drewN k) fun e w' => ∃ v', e = .returned v' ∧ Own w' w.heap.size v' ((l.take (l.length - 16 - 4)).drop 16) ∧ Below w.heap.size w w' := fun k => by
    refine (k5 k).mono ?_
    rintro e w' ⟨v', he, ho, hb⟩
    exact ⟨v', he, ho, (below_drewN w k).trans hb⟩
  refine (Read_road p l.length c w _ _ _ _ _ h1 h2 hc (by omega) k1 k2 k3 k4 k5').mono ?_
  rintro e w' ⟨v', rfl, ho, hb⟩
  refine ⟨v', rfl, ?_, hb⟩
  show Own w' w.heap.size v' (if readOk l then _ else [])
  change (if readOk l = true then _ else _) at ho
  cases hk : readOk l
  · rw [hk] at ho
    simp only [Bool.false_eq_true, if_false] at ho ⊢
    rw [ho]
    exact Own.none_ _ _
  · rw [hk] at ho
    simpa using ho
end Go.Proofs.YtfmdmfiljplkoaaGreat
namespace Go.Proofs.YtfmdmfiljplkoaaGreat
open Go.RowKit
set_option maxRecDepth 8000
end Go.Proofs.YtfmdmfiljplkoaaGreat
namespace Go.Proofs.YtfmdmfiljplkoaaGreat
open Go.RowKit
theorem leb_cons (x k : Nat) : leb x (k + 1) = x % 256 :: leb (x / 256) k := by
  unfold leb
  rw [List.range_succ_eq_map, List.map_cons, List.map_map]
  congr 1
  · simp
  · apply List.map_congr_left
    intro i _
    show x / 2 ^ (8 * (i + 1)) % 256 = x / 256 / 2 ^ (8 * i) % 256
    rw [Nat.div_div_eq_div_mul, Nat.mul_add, Nat.pow_add, Nat.mul_comm (2 ^ (8 * i))]
theorem num_leb : ∀ (k x : Nat), x < 2 ^ (8 * k) → num (leb x k) = x
  | 0, x, h => by
    have : x = 0 := by simpa using h
    subst this; rfl
  | k + 1, x, h => by
    have e : 2 ^ (8 * (k + 1)) = 256 * 2 ^ (8 * k) := by
      rw [Nat.mul_add, Nat.pow_add, Nat.mul_comm _ (2 ^ (8 * 1))]
    rw [leb_cons, num, num_leb k (x / 256) (by rw [Nat.div_lt_iff_lt_mul (by omega)]; omega)]
    omega
theorem leb_num : ∀ (l : List Nat), (∀ b ∈ l, b < 256) → leb (num l) l.length = l
  | [], _ => rfl
  | b :: l, h => by
    have hb := h b (by simp)
    have ih := leb_num l fun x hx => h x (by simp [hx])
    rw [List.length_cons, leb_cons, num]
    have e1 : (b + 256 * num l) % 256 = b := by omega
    have e2 : (b + 256 * num l) / 256 = num l := by omega
    rw [e1, e2, ih]
theorem num_inj {a b : List Nat} (hl : a.length = b.length) (ha : ∀ x ∈ a, x < 256) (hb : ∀ x ∈ b, x < 256) (h : num a = num b) : a = b := by
  rw [← leb_num a ha, ← leb_num b hb, h, hl]
theorem num_not : ∀ (l : List Nat), (∀ b ∈ l, b < 256) → num (l.map (255 - ·)) + num l + 1 = 2 ^ (8 * l.length)
  | [], _ => rfl
  | b :: l, h => by
    have hb := h b (by simp)
    have ih := num_not l fun x hx => h x (by simp [hx])
    have e : 2 ^ (8 * (l.length + 1)) = 256 * 2 ^ (8 * l.length) := by
      rw [Nat.mul_add, Nat.pow_add, Nat.mul_comm _ (2 ^ (8 * 1))]
    simp only [List.map_cons, num, List.length_cons, e]
    omega
theorem leb_lt (x k : Nat) : ∀ b ∈ leb x k, b < 256 := by
  intro b hb
  obtain ⟨i, _, rfl⟩ := List.mem_map.1 hb
  omega
theorem head_lt (x : Nat) : ∀ b ∈ head x, b < 256 := by
  intro b hb
  rcases List.mem_append.1 hb with h | h
  · exact leb_lt _ _ b h
  · obtain ⟨c, _, rfl⟩ := List.mem_map.1 h
    omega
theorem w64_eq (x y : Nat) (hx : x < 2 ^ 64) (hy : y < 2 ^ 64) : -1 - w64 x = w64 y ↔ y + x + 1 = 2 ^ 64 := by
  unfold w64
  rw [IntKind.wrap_i64, IntKind.wrap_i64]
  omega
theorem mem_take {l : List Nat} (h : ∀ b ∈ l, b < 256) (k : Nat) : ∀ b ∈ l.take k, b < 256 := fun b hb => h b (List.mem_of_mem_take hb)
theorem mem_drop {l : List Nat} (h : ∀ b ∈ l, b < 256) (k : Nat) : ∀ b ∈ l.drop k, b < 256 := fun b hb => h b (List.mem_of_mem_drop hb)
/-- A mark of bytes is one that stands there twice, straight and turned. -/
theorem markOf_eq (a : List Nat) (h : ∀ b ∈ a, b < 256) (hl : 16 ≤ a.length) :
    markOf a = if 1 ≤ num (a.take 8) ∧ num (a.take 8) ≤ 4611686018427387904 ∧ a.take 16 = head (num (a.take 8)) then (num (a.take 8) : Int) else 0 := by
  have l8 : (a.take 8).length = 8 := by simp; omega
  have l8' : ((a.drop 8).take 8).length = 8 := by simp; omega
  have hx : num (a.take 8) < 2 ^ 64 := by have := num_lt _ (mem_take h 8); rwa [l8] at this
  have hy : num ((a.drop 8).take 8) < 2 ^ 64 := by have := num_lt _ (mem_take (mem_drop h 8) 8); rwa [l8'] at this
  have hs : a.take 16 = a.take 8 ++ (a.drop 8).take 8 := by
    rw [show 16 = 8 + 8 from rfl, List.take_add]
  have hh : a.take 16 = head (num (a.take 8)) ↔ -1 - w64 (num (a.take 8)) = w64 (num ((a.drop 8).take 8)) := by
    rw [w64_eq _ _ hx hy, hs]
    have e := leb_num _ (mem_take h 8)
    rw [l8] at e
    unfold head
    rw [e, List.append_right_inj]
    have hn := num_not _ (mem_take h 8)
    rw [l8] at hn
    constructor
    · intro q
      rw [q]
      omega
    · intro q
      refine num_inj (by rw [l8', List.length_map, l8]) (mem_take (mem_drop h 8) 8) ?_ (by omega)
      intro b hb
      obtain ⟨c, _, rfl⟩ := List.mem_map.1 hb
      omega
  have hw : num (a.take 8) ≤ 4611686018427387904 → w64 (num (a.take 8)) = num (a.take 8) := fun q => by
    unfold w64
    rw [IntKind.wrap_i64]
    omega
  have hw2 : ¬ num (a.take 8) ≤ 4611686018427387904 → w64 (num (a.take 8)) < 1 ∨ 4611686018427387904 < w64 (num (a.take 8)) := fun q => by
    unfold w64
    rw [IntKind.wrap_i64]
    omega
  unfold markOf
  simp only [hh]
  by_cases q : num (a.take 8) ≤ 4611686018427387904
  · rw [hw q]
    split <;> rename_i c1 <;> split <;> rename_i c2 <;> omega
  · have c := hw2 q
    split <;> rename_i c1 <;> split <;> rename_i c2 <;> omega
/-- What the document asks. -/
def refOk (l : List Nat) : Bool := decide (1 ≤ num (l.take 8) ∧ num (l.take 8) ≤ 4611686018427387904 ∧ l = sector l.length (num (l.take 8)) ((l.take (l.length - 20)).drop 16))
theorem sector_parts (l : List Nat) (h1 : 64 ≤ l.length) (m : Nat) : l = sector l.length m ((l.take (l.length - 20)).drop 16) ↔
    (l.take (l.length - 20)).take 16 = head m ∧ (l.drop (l.length - 20)).take 4 = leb (M.crc (l.take (l.length - 20))) 4 ∧ (l.drop (l.length - 20)).drop 4 = head m := by
  have e0 : l.length - 36 - ((l.take (l.length - 20)).drop 16).length = 0 := by simp; omega
  have la : (l.take (l.length - 20)).length = l.length - 20 := by simp
  have e1 : body l.length m ((l.take (l.length - 20)).drop 16) = head m ++ (l.take (l.length - 20)).drop 16 := by
    unfold body; rw [e0]; simp
  unfold sector
  rw [e1]
  constructor
  · intro e
    have h20 : l.take (l.length - 20) = head m ++ (l.take (l.length - 20)).drop 16 := by
      conv => lhs; rw [e]
      rw [List.append_assoc]
      exact List.take_left' (by simp; omega)
    have ht : l.drop (l.length - 20) = leb (M.crc (head m ++ (l.take (l.length - 20)).drop 16)) 4 ++ head m := by
      conv => lhs; rw [e]
      rw [List.append_assoc]
      exact List.drop_left' (by simp; omega)
    refine ⟨?_, ?_, ?_⟩
    · conv => lhs; rw [h20]
      exact List.take_left' (by simp)
    · rw [ht, ← h20]
      exact List.take_left' (by simp)
    · rw [ht]
      exact List.drop_left' (by simp)
  · rintro ⟨q1, q2, q3⟩
    have h20 : head m ++ (l.take (l.length - 20)).drop 16 = l.take (l.length - 20) := by
      rw [← q1, List.take_append_drop]
    rw [h20, ← q2, ← q3, List.append_assoc, List.take_append_drop, List.take_append_drop]
theorem num_head (m : Nat) (h : m < 2 ^ 64) : num ((head m).take 8) = m := by
  unfold head
  rw [List.take_left' (by simp)]
  exact num_leb 8 m h
theorem readOk_eq (l : List Nat) (hb : ∀ b ∈ l, b < 256) (h1 : 64 ≤ l.length) : readOk l = refOk l ∧ (readOk l = true → readMark l = num (l.take 8)) := by
  have hN : l.length - 16 - 4 = l.length - 20 := by omega
  have ha := markOf_eq (l.take (l.length - 20)) (mem_take hb _) (by simp; omega)
  have ht := markOf_eq ((l.drop (l.length - 20)).drop 4) (mem_drop (mem_drop hb _) _) (by simp; omega)
  have e8 : (l.take (l.length - 20)).take 8 = l.take 8 := by rw [List.take_take, Nat.min_eq_left (by omega)]
  rw [e8] at ha
  have e16 : ((l.drop (l.length - 20)).drop 4).take 16 = (l.drop (l.length - 20)).drop 4 := List.take_of_length_le (by simp; omega)
  rw [e16] at ht
  have hs := sector_parts l h1 (num (l.take 8))
  have hc := M.crc_lt (l.take (l.length - 20))
  have hc4 : num ((l.drop (l.length - 20)).take 4) = M.crc (l.take (l.length - 20)) ↔ (l.drop (l.length - 20)).take 4 = leb (M.crc (l.take (l.length - 20))) 4 := by
    constructor
    · intro q
      rw [← q]
      have := leb_num _ (mem_take (mem_drop hb (l.length - 20)) 4)
      rw [show ((l.drop (l.length - 20)).take 4).length = 4 by simp; omega] at this
      exact this.symm
    · intro q
      rw [q]
      exact num_leb 4 _ (by omega)
  unfold readMark readOk refOk road
  rw [hN]
  generalize hx : num (l.take 8) = x at *
  generalize M.crc (l.take (l.length - 20)) = cr at *
  generalize hd : (l.drop (l.length - 20)).drop 4 = d at *
  generalize hz : markOf (l.take (l.length - 20)) = z at *
  generalize hg : (l.take (l.length - 20)).take 16 = g at *
  have key : (z ≠ 0 ∧ z = markOf d) ↔ (1 ≤ x ∧ x ≤ 4611686018427387904 ∧ g = head x ∧ d = head x) := by
    rw [ha, ht]
    constructor
    · rintro ⟨q1, q2⟩
      split at q1
      · rename_i c
        rw [if_pos c] at q2
        split at q2
        · rename_i c2
          have : x = num (d.take 8) := by omega
          refine ⟨c.1, c.2.1, c.2.2, ?_⟩
          rw [this]; exact c2.2.2
        · omega
      · exact absurd rfl q1
    · rintro ⟨q1, q2, q3, q4⟩
      have hd8 : num (d.take 8) = x := by rw [q4]; exact num_head x (by omega)
      rw [if_pos ⟨q1, q2, q3⟩, hd8, if_pos ⟨q1, q2, q4⟩]
      exact ⟨by omega, rfl⟩
  constructor
  · rw [decide_eq_decide, hs, hc4, ← and_assoc, key]
    constructor
    · rintro ⟨⟨q1, q2, q3, q4⟩, q5⟩; exact ⟨q1, q2, q3, q5, q4⟩
    · rintro ⟨q1, q2, q3, q5, q4⟩; exact ⟨⟨q1, q2, q3, q4⟩, q5⟩
  · intro q
    rw [if_pos q]
    have q' := of_decide_eq_true q
    have := key.1 ⟨q'.1, q'.2.1⟩
    rw [ha, if_pos ⟨this.1, this.2.1, this.2.2.1⟩]
end Go.Proofs.YtfmdmfiljplkoaaGreat
namespace Go.Proofs.YtfmdmfiljplkoaaGreat
open Go.RowKit
set_option maxRecDepth 8000
theorem sector_lt {n m : Nat} {l : List Nat} (h : ∀ b ∈ l, b < 256) : ∀ b ∈ sector n m l, b < 256 := by
  intro b hb
  unfold sector body at hb
  simp only [List.mem_append, List.mem_replicate] at hb
  rcases hb with (((hb | hb) | hb) | hb) | hb
  · exact head_lt _ b hb
  · exact h b hb
  · omega
  · exact leb_lt _ _ b hb
  · exact head_lt _ b hb
end Go.Proofs.YtfmdmfiljplkoaaGreat
namespace Go.Proofs.YtfmdmfiljplkoaaGreat
open Go.RowKit
theorem sector_zeros (n m : Nat) (l : List Nat) (hl : l.length + 36 ≤ n) : sector n m (l ++ List.replicate (n - 36 - l.length) 0) = sector n m l := by
  have e : body n m (l ++ List.replicate (n - 36 - l.length) 0) = body n m l := by
    unfold body
    have e0 : n - 36 - (l ++ List.replicate (n - 36 - l.length) 0).length = 0 := by rw [List.length_append, List.length_replicate]; omega
    rw [e0]
    simp
  unfold sector
  rw [e]
/-- What is read of a sector. -/
theorem sector_reads (n m : Nat) (l : List Nat) (h1 : 64 ≤ n) (hm1 : 1 ≤ m) (hm2 : m ≤ 4611686018427387904) (hl : l.length + 36 ≤ n) (hb : ∀ b ∈ l, b < 256) :
    readOk (sector n m l) = true ∧ readMark (sector n m l) = m ∧ readLoad (sector n m l) = l ++ List.replicate (n - 36 - l.length) 0 ∧ readErr (sector n m l) = 0 := by
  have hlen : (sector n m l).length = n := sector_length hl
  have hbl := body_length (n := n) (m := m) (l := l) hl
  have hq := readOk_eq (sector n m l) (sector_lt hb) (by omega)
  have e8 : (sector n m l).take 8 = leb m 8 := by
    unfold sector body head
    simp only [List.append_assoc]
    exact List.take_left' (by simp)
  have e8' : num ((sector n m l).take 8) = m := by rw [e8]; exact num_leb 8 m (by omega)
  have eb : (sector n m l).take (n - 20) = body n m l := by
    unfold sector
    rw [List.append_assoc]
    exact List.take_left' hbl
  have el : ((sector n m l).take (n - 20)).drop 16 = l ++ List.replicate (n - 36 - l.length) 0 := by
    rw [eb]
    unfold body
    rw [List.append_assoc]
    exact List.drop_left' (by simp)
  have hok : refOk (sector n m l) = true := by
    unfold refOk
    rw [hlen, e8', el, sector_zeros n m l hl]
    exact decide_eq_true ⟨hm1, hm2, rfl⟩
  have hok' : readOk (sector n m l) = true := hq.1.trans hok
  refine ⟨hok', by rw [hq.2 hok', e8'], ?_, by unfold readErr; rw [hok']; rfl⟩
  unfold readLoad
  rw [hok', if_pos rfl, hlen, show n - 16 - 4 = n - 20 by omega, el]
end Go.Proofs.YtfmdmfiljplkoaaGreat
