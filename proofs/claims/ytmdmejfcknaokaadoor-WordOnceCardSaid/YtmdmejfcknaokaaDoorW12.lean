/- Walks: Stop, the document's Stop. (The layings are printed by wip/laylog.py.) -/
import Derived.Shelf.Spec.SearchS
import Derived.Lib.AppendIntMem
import Derived.Test.YtmdmejfcknaokaaDoorW6
import Derived.Test.YtmdmejfcknaokaaDoorW2
import Derived.Test.YtmdmejfcknaokaaDoorMath3
namespace Go.Proofs
open Go.Shelf
def Tryd.lays26_ren : Go.Shelf.Ren := ⟨fun | 26 => 22 | 33 => 31 | 34 => 32 | 38 => 36 | n => n, fun | 24 => 44 | 9 => 9 | 3 => 3 | 4 => 4 | 40 => 61 | 0 => 0 | n => n, fun | n => n⟩
theorem Tryd.lays26 : Go.Proofs.Lays2.n26 Tryd.prog Tryd.lays26_ren := {
  mixed := by kernel_rfl
  f26 := Tryd.func22.trans (congrArg some (by kernel_rfl))
  f33 := Tryd.func31.trans (congrArg some (by kernel_rfl))
  f34 := Tryd.func32.trans (congrArg some (by kernel_rfl))
  f38 := Tryd.func36.trans (congrArg some (by kernel_rfl))
  t0 := Tryd.underlying0
  a0 := Tryd.isAgg0
  z0 := Tryd.sizeOf0
  v0 := Tryd.zeroValue0
  t3 := Tryd.underlying3
  a3 := Tryd.isAgg3
  z3 := Tryd.sizeOf3
  v3 := Tryd.zeroValue3
  t4 := Tryd.underlying4
  a4 := Tryd.isAgg4
  z4 := Tryd.sizeOf4
  v4 := Tryd.zeroValue4
  t9 := Tryd.underlying9
  a9 := Tryd.isAgg9
  z9 := Tryd.sizeOf9
  v9 := Tryd.zeroValue9
  t24 := Tryd.underlying44
  a24 := Tryd.isAgg44
  z24 := Tryd.sizeOf44
  v24 := Tryd.zeroValue44
  t40 := Tryd.underlying61
  a40 := Tryd.isAgg61
  z40 := Tryd.sizeOf61
  v40 := Tryd.zeroValue61 }
end Go.Proofs
namespace Go.Proofs.YtmdmejfcknaokaaDoor
open Go.RowKit

/-- The table of what is a blank. -/
def Tab (w : World) : Prop := Lib.TabIs Tryd.prog w "strings.asciiSpace" .u8 Lib.asciiSpaceTab
theorem Tab.grew {w w' : World} (h : Tab w) (hb : Below w.heap.size w w') : Tab w' := Lib.tabBelow_of_tabIs h w' hb

theorem stop_ascii : ∀ b ∈ (str stopText).data.toList, b.toNat < 128 := by decide +kernel
theorem stops_any (w : World) (ht : Tab w) : Calls Tryd.prog 23 #[] w fun e w' => e = .returned (.slice (some ⟨w.heap.size, 0, none⟩) 33 33) ∧ w' = w.alloc (.cells (stopsU.map fun l => Value.string ⟨l.toArray⟩).toArray 9) := by
  have hf : ∀ s, s = str stopText → Calls Tryd.prog 33 #[.string s] w fun e w' => e = .returned (.slice (some ⟨w.heap.size, 0, none⟩) 33 33) ∧ w' = w.alloc (.cells (stopsU.map fun l => Value.string ⟨l.toArray⟩).toArray 9) := by
    rintro s rfl
    have hf := Fields_any (str stopText) w (by decide +kernel) (fun j b hj => stop_ascii b (List.mem_of_getElem? hj)) ht
    have hl : (Lib.fields (str stopText).data.toList).length = 33 := stops_len
    rw [hl] at hf
    exact hf
  have HF := Lib.hid hf
  clear hf ht
  go_enter Tryd.func23, Tryd.ntmps23
  go_wp2_with fail
  refine (HF.out _ ?_).mono ?_
  · decide +kernel
  rintro e w1 ⟨rfl, rfl⟩
  clear HF
  go_wp2
  go_ret
  exact ⟨rfl, rfl⟩

theorem below_drewN {B : Nat} {w w1 : World} (h : Below B w w1) : ∀ n, Below B w (w1.drewN n)
  | 0 => h
  | n + 1 => (below_drewN h n).drew
theorem search_any (x : ByteArray) (b c : Nat) (w : World) (hc : Blk w b (stopsU.map fun l => Value.string ⟨l.toArray⟩).toArray 9) :
    Calls Tryd.prog 22 #[.slice (some ⟨b, 0, none⟩) 33 c, .string x] w fun e w' => (∃ i : Nat, e = .returned (.tuple #[.int .i64 i, .bool (StopB x)])) ∧ Below w.heap.size w w' := by
  obtain ⟨S, hS⟩ : ∃ S : Nat → ByteArray, S = fun t => if t < stopsU.length then ⟨(stopsU.getD t []).toArray⟩ else x := ⟨_, rfl⟩
  have hS1 : ∀ (j : Nat) (h : j < stopsU.length), S j = ⟨(stopsU[j]).toArray⟩ := by
    intro j h
    simp [hS, List.getD_eq_getElem?_getD, h]
  have hmem := search_mem stopsU stops_sorted x.toList (fun t => (S t).toList) (by
    intro j h
    rw [hS1 j h, ByteArray.toList_eq]) (by
    intro j h
    have : S j = x := by rw [hS]; simp; omega
    rw [this]
    exact less_irr _)
  have h := Any2.slices_BinarySearch_string Tryd.lays26 b 0 33 c S x w (by decide) (by
    intro j hj
    have hj' : j < stopsU.length := by rw [stops_len]; exact hj
    rw [Nat.zero_add, hc.cell j, hS1 j hj']
    simp [List.getElem?_eq_getElem hj'])
  rw [stops_len] at hmem
  refine Calls.mono h ?_
  rintro e w' ⟨rfl, q, rfl⟩
  generalize Lib.bsGo (fun t => Op.bytesLess (S t).toList x.toList) 33 0 33 = i at hmem
  refine ⟨⟨i, ?_⟩, below_drewN (Below.refl _ _) q⟩
  have e : decide (i < 33 ∧ S i = x) = StopB x := by
    unfold StopB
    rw [decide_eq_decide, ← ByteArray.toList_eq, ← hmem]
    constructor
    · rintro ⟨a, rfl⟩; exact ⟨a, rfl⟩
    · rintro ⟨a, b⟩
      refine ⟨a, ?_⟩
      apply ByteArray.ext
      have : (S i).data.toList = x.data.toList := by rw [← ByteArray.toList_eq, ← ByteArray.toList_eq]; exact b
      exact Array.toList_inj.1 this
  rw [e]

theorem Stop_any (x : ByteArray) (w : World) (ht : Tab w) : Calls Tryd.prog 10 #[.string x] w fun e w' => e = .returned (.bool (StopB x)) ∧ Below w.heap.size w w' := by
  obtain ⟨r, hr⟩ : ∃ r, r = StopB x := ⟨_, rfl⟩
  rw [← hr]
  have H1 := Lib.hid (stops_any w ht)
  have hb0 := Blk.new w (stopsU.map fun l => Value.string ⟨l.toArray⟩).toArray 9
  have hg0 : Below w.heap.size w (w.alloc (.cells (stopsU.map fun l => Value.string ⟨l.toArray⟩).toArray 9)) := (Below.refl _ _).alloc (Nat.le_refl _) _
  generalize w.alloc (.cells (stopsU.map fun l => Value.string ⟨l.toArray⟩).toArray 9) = w1 at hb0 hg0 H1
  have h2 := search_any x w.heap.size 33 w1 hb0
  rw [← hr] at h2
  have H2 := Lib.hid h2
  have HG := Lib.hid hg0
  clear hb0 hg0 ht hr h2
  go_enter Tryd.func10, Tryd.ntmps10
  go_wp2_with fail
  refine H1.out.mono ?_
  rintro e w2 ⟨rfl, rfl⟩
  go_wp2_with fail
  refine H2.out.mono ?_
  rintro e w3 ⟨⟨i, rfl⟩, hb3⟩
  have HB := Lib.hid (grow HG.out hb3)
  clear hb3 H2 H1
  go_wp2
  go_ret
  exact ⟨rfl, HB.out⟩

theorem stopTextR_small : ∀ b ∈ stopTextR, b < 256 := by decide +kernel
theorem stopTextR_len : (stopTextR.length : Int) ≤ 1000000 := by decide +kernel
theorem refStop_any (x : ByteArray) (w : World) : Calls Tryd.prog 11 #[.string x] w fun e w' => e = .returned (.bool (StopB x)) ∧ w' = w := by
  have hp : ∀ s, s = str stopTextR → ∀ (n : Nat), (n : Int) ≤ 33 → ∀ w, Calls Tryd.prog 19 #[.string s, .int .i64 n] w fun e w' => e = .returned (.string (str (piece stopTextR n))) ∧ w' = w := by
    rintro s rfl n hn w
    exact piece_any stopTextR stopTextR_small n (by omega) stopTextR_len w
  have HP := Lib.hid hp
  have hx := ByteArray.toList_eq x
  have hpc : ∀ n, n < 33 → (str (piece stopTextR n)).toList = stopsU.getD n [] := fun n hn => by rw [ByteArray.toList_eq]; exact stops_pieces n hn
  have HPC := Lib.hid hpc
  have HXX := Lib.hid hx
  clear hp hx hpc
  obtain ⟨xl, hxl⟩ : ∃ xl, xl = x.toList := ⟨_, rfl⟩
  have hst : StopB x = decide (xl ∈ stopsU) := by unfold StopB; rw [hxl, HXX.out]
  rw [hst]
  have hse : (⟨#[]⟩ : ByteArray).toList = [] := by rw [ByteArray.toList_eq]
  by_cases h0 : xl = []
  · have h1 : x.toList.isEmpty = true := by rw [← hxl, h0]; rfl
    have hr : decide (xl ∈ stopsU) = false := by rw [h0]; exact decide_eq_false stops_none
    rw [hr]
    clear hst hr hxl h0 hse HP
    go_enter Tryd.func11, Tryd.ntmps11
    go_wp2
    go_ret
    exact ⟨rfl, rfl⟩
  · have h1 : x.toList.isEmpty = false := by rw [← hxl]; cases xl with | nil => exact absurd rfl h0 | cons => rfl
    have HXL := Lib.hid hxl
    obtain ⟨r, hr⟩ : ∃ r, r = decide (xl ∈ stopsU) := ⟨_, rfl⟩
    rw [← hr]
    have HR := Lib.hid hr
    clear hst hxl h0 hse hr
    go_enter Tryd.func11, Tryd.ntmps11
    go_wp2_with fail
    dsimp only [List.append]
    go_loopw [4] (fun i wr => ∃ k : Nat, k ≤ 33 ∧ i = .int .i64 k ∧ wr = w ∧ Hid (∀ j, j < k → stopsU.getD j [] ≠ xl)) (fun i _ => 33 - (intOf i).toNat)
    case atStart => exact ⟨0, by omega, rfl, rfl, Lib.hid (fun j hj => by omega)⟩
    case round =>
      obtain ⟨k, hk, rfl, hw, H⟩ := hrel
      obtain rfl := hw
      by_cases hlt : k < 33
      · have hpk := HPC.out k hlt
        have hlt' : (k : Int) < 33 := by omega
        have HPK := Lib.hid hpk
        clear hpk
        go_wp2_with fail
        refine (HP.out _ ?_ k (by omega) _).mono ?_
        · decide +kernel
        rintro e w1 ⟨rfl, hw1⟩
        obtain rfl := hw1
        by_cases hx : stopsU.getD k [] = xl
        · have e2 : ((str (piece stopTextR k)).toList == x.toList) = true := by rw [HPK.out, ← HXL.out, hx]; simp
          obtain rfl : r = true := HR.out.trans (decide_eq_true (by
            rw [← hx]
            have hk2 : k < stopsU.length := by rw [stops_len]; exact hlt
            rw [List.getD_eq_getElem?_getD, List.getElem?_eq_getElem hk2]
            exact List.getElem_mem hk2))
          clear hx H HPK HP HR
          go_wp2
          go_ret
          exact ⟨rfl, rfl⟩
        · have e2 : ((str (piece stopTextR k)).toList == x.toList) = false := by rw [HPK.out, ← HXL.out]; simpa using hx
          have HN : Hid (∀ j, j < k + 1 → stopsU.getD j [] ≠ xl) := Lib.hid (fun j hj => by
            by_cases e : j = k
            · rw [e]; exact hx
            · exact H.out j (by omega))
          clear hx H HPK HP
          go_wp2
          go_roundw
          case rel => exact ⟨k + 1, by omega, by go_num, trivial, HN⟩
          case measure => simp [intOf]; omega
      · obtain rfl : r = false := HR.out.trans (decide_eq_false (by
          intro hm
          obtain ⟨j, hj, e⟩ := List.getElem_of_mem hm
          rw [stops_len] at hj
          refine H.out j (by omega) ?_
          rw [List.getD_eq_getElem?_getD, List.getElem?_eq_getElem (by rw [stops_len]; exact hj)]
          exact e))
        have hk' : ¬ (k : Int) < 33 := by omega
        clear H HP HR
        go_wp2
        go_ret
        exact ⟨rfl, rfl⟩
end Go.Proofs.YtmdmejfcknaokaaDoor
