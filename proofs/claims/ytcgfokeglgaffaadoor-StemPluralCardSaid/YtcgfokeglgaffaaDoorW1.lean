/- Walks: strings' and slices' functions. (The layings are printed by wip/laylog.py.) -/
import Derived.Shelf.Strings.Prefix
import Derived.Shelf.Strings.Trim
import Derived.Shelf.Strings.Fields
import Derived.Lib.AppendIntMem
import Derived.Lib.Bytealg
import Derived.Test.YtcgfokeglgaffaaDoorChecked
import Derived.Test.YtcgfokeglgaffaaDoorAid
import Derived.Test.YtcgfokeglgaffaaDoorMath
namespace Go.Proofs
open Go.Shelf
def Tryd.lays157_ren : Go.Shelf.Ren := ⟨fun | 157 => 30 | 229 => 37 | 199 => 38 | 261 => 48 | 311 => 57 | 312 => 58 | n => n, fun | 9 => 9 | 31 => 41 | 3 => 3 | 5 => 5 | 4 => 4 | 119 => 46 | 0 => 0 | 40 => 48 | 152 => 57 | 21 => 21 | 154 => 59 | 51 => 60 | 141 => 62 | 196 => 73 | 193 => 70 | 198 => 76 | 49 => 74 | 194 => 71 | 201 => 79 | 226 => 84 | 46 => 69 | 227 => 85 | n => n, fun | 0 => 0 | 6 => 1 | n => n⟩
theorem Tryd.lays157 : Go.Proofs.Lays.n157 Tryd.prog Tryd.lays157_ren := {
  mixed := by kernel_rfl
  f157 := Tryd.func30.trans (congrArg some (by kernel_rfl))
  f199 := Tryd.func38.trans (congrArg some (by kernel_rfl))
  f229 := Tryd.func37.trans (congrArg some (by kernel_rfl))
  f261 := Tryd.func48.trans (congrArg some (by kernel_rfl))
  f311 := Tryd.func57.trans (congrArg some (by kernel_rfl))
  f312 := Tryd.func58.trans (congrArg some (by kernel_rfl))
  t0 := Tryd.underlying0
  a0 := Tryd.isAgg0
  z0 := Tryd.sizeOf0
  v0 := Tryd.zeroValue0
  t3 := Tryd.underlying3
  a3 := Tryd.isAgg3
  z3 := Tryd.sizeOf3
  v3 := Tryd.zeroValue3
  t4 := Tryd.underlying4
  a4 := Tryd.isAgg4
  z4 := Tryd.sizeOf4
  v4 := Tryd.zeroValue4
  t5 := Tryd.underlying5
  a5 := Tryd.isAgg5
  z5 := Tryd.sizeOf5
  v5 := Tryd.zeroValue5
  t9 := Tryd.underlying9
  a9 := Tryd.isAgg9
  z9 := Tryd.sizeOf9
  v9 := Tryd.zeroValue9
  t21 := Tryd.underlying21
  a21 := Tryd.isAgg21
  z21 := Tryd.sizeOf21
  v21 := Tryd.zeroValue21
  t31 := Tryd.underlying41
  a31 := Tryd.isAgg41
  z31 := Tryd.sizeOf41
  v31 := Tryd.zeroValue41
  t40 := Tryd.underlying48
  a40 := Tryd.isAgg48
  z40 := Tryd.sizeOf48
  v40 := Tryd.zeroValue48
  t46 := Tryd.underlying69
  a46 := Tryd.isAgg69
  z46 := Tryd.sizeOf69
  v46 := Tryd.zeroValue69
  t49 := Tryd.underlying74
  a49 := Tryd.isAgg74
  z49 := Tryd.sizeOf74
  v49 := Tryd.zeroValue74
  t51 := Tryd.underlying60
  a51 := Tryd.isAgg60
  z51 := Tryd.sizeOf60
  v51 := Tryd.zeroValue60
  t119 := Tryd.underlying46
  a119 := Tryd.isAgg46
  z119 := Tryd.sizeOf46
  t141 := Tryd.underlying62
  a141 := Tryd.isAgg62
  z141 := Tryd.sizeOf62
  v141 := Tryd.zeroValue62
  t152 := Tryd.underlying57
  a152 := Tryd.isAgg57
  z152 := Tryd.sizeOf57
  v152 := Tryd.zeroValue57
  t154 := Tryd.underlying59
  a154 := Tryd.isAgg59
  z154 := Tryd.sizeOf59
  v154 := Tryd.zeroValue59
  t193 := Tryd.underlying70
  a193 := Tryd.isAgg70
  z193 := Tryd.sizeOf70
  v193 := Tryd.zeroValue70
  t194 := Tryd.underlying71
  a194 := Tryd.isAgg71
  z194 := Tryd.sizeOf71
  v194 := Tryd.zeroValue71
  t196 := Tryd.underlying73
  a196 := Tryd.isAgg73
  z196 := Tryd.sizeOf73
  v196 := Tryd.zeroValue73
  t198 := Tryd.underlying76
  a198 := Tryd.isAgg76
  z198 := Tryd.sizeOf76
  v198 := Tryd.zeroValue76
  t201 := Tryd.underlying79
  a201 := Tryd.isAgg79
  z201 := Tryd.sizeOf79
  v201 := Tryd.zeroValue79
  t226 := Tryd.underlying84
  a226 := Tryd.isAgg84
  z226 := Tryd.sizeOf84
  v226 := Tryd.zeroValue84
  t227 := Tryd.underlying85
  a227 := Tryd.isAgg85
  z227 := Tryd.sizeOf85
  v227 := Tryd.zeroValue85
  g0 := by kernel_rfl
  g6 := by kernel_rfl }
def Tryd.lays100_ren : Go.Shelf.Ren := ⟨fun | 100 => 23 | 207 => 34 | n => n, fun | 9 => 9 | 4 => 4 | 3 => 3 | n => n, fun | n => n⟩
theorem Tryd.lays100 : Go.Proofs.Lays.n100 Tryd.prog Tryd.lays100_ren := {
  mixed := by kernel_rfl
  f100 := Tryd.func23.trans (congrArg some (by kernel_rfl))
  f207 := Tryd.func34.trans (congrArg some (by kernel_rfl))
  t3 := Tryd.underlying3
  a3 := Tryd.isAgg3
  z3 := Tryd.sizeOf3
  v3 := Tryd.zeroValue3
  t4 := Tryd.underlying4
  a4 := Tryd.isAgg4
  z4 := Tryd.sizeOf4
  v4 := Tryd.zeroValue4
  t9 := Tryd.underlying9
  a9 := Tryd.isAgg9
  z9 := Tryd.sizeOf9
  v9 := Tryd.zeroValue9 }
def Tryd.lays160_ren : Go.Shelf.Ren := ⟨fun | 160 => 31 | 232 => 40 | 231 => 39 | 227 => 41 | 234 => 43 | 233 => 42 | 236 => 45 | 235 => 44 | 228 => 49 | 271 => 52 | 151 => 51 | 197 => 50 | 120 => 61 | 152 => 60 | 260 => 59 | 137 => 64 | 119 => 65 | 224 => 55 | 225 => 54 | 217 => 53 | 266 => 62 | n => n, fun | 9 => 9 | 4 => 4 | 3 => 3 | 5 => 5 | 117 => 52 | 116 => 51 | 0 => 0 | 124 => 55 | 21 => 21 | 105 => 64 | 46 => 69 | 119 => 46 | 139 => 88 | 138 => 87 | n => n, fun | 3 => 3 | 4 => 4 | n => n⟩
theorem Tryd.lays160 : Go.Proofs.Lays.n160 Tryd.prog Tryd.lays160_ren := {
  mixed := by kernel_rfl
  f119 := Tryd.func65.trans (congrArg some (by kernel_rfl))
  f120 := Tryd.func61.trans (congrArg some (by kernel_rfl))
  f137 := Tryd.func64.trans (congrArg some (by kernel_rfl))
  f151 := Tryd.func51.trans (congrArg some (by kernel_rfl))
  f152 := Tryd.func60.trans (congrArg some (by kernel_rfl))
  f160 := Tryd.func31.trans (congrArg some (by kernel_rfl))
  f197 := Tryd.func50.trans (congrArg some (by kernel_rfl))
  f217 := Tryd.func53.trans (congrArg some (by kernel_rfl))
  f224 := Tryd.func55.trans (congrArg some (by kernel_rfl))
  f225 := Tryd.func54.trans (congrArg some (by kernel_rfl))
  f227 := Tryd.func41.trans (congrArg some (by kernel_rfl))
  f228 := Tryd.func49.trans (congrArg some (by kernel_rfl))
  f231 := Tryd.func39.trans (congrArg some (by kernel_rfl))
  f232 := Tryd.func40.trans (congrArg some (by kernel_rfl))
  f233 := Tryd.func42.trans (congrArg some (by kernel_rfl))
  f234 := Tryd.func43.trans (congrArg some (by kernel_rfl))
  f235 := Tryd.func44.trans (congrArg some (by kernel_rfl))
  f236 := Tryd.func45.trans (congrArg some (by kernel_rfl))
  f260 := Tryd.func59.trans (congrArg some (by kernel_rfl))
  f266 := Tryd.func62.trans (congrArg some (by kernel_rfl))
  f271 := Tryd.func52.trans (congrArg some (by kernel_rfl))
  t0 := Tryd.underlying0
  a0 := Tryd.isAgg0
  z0 := Tryd.sizeOf0
  v0 := Tryd.zeroValue0
  t3 := Tryd.underlying3
  a3 := Tryd.isAgg3
  z3 := Tryd.sizeOf3
  v3 := Tryd.zeroValue3
  t4 := Tryd.underlying4
  a4 := Tryd.isAgg4
  z4 := Tryd.sizeOf4
  v4 := Tryd.zeroValue4
  t5 := Tryd.underlying5
  a5 := Tryd.isAgg5
  z5 := Tryd.sizeOf5
  v5 := Tryd.zeroValue5
  t9 := Tryd.underlying9
  a9 := Tryd.isAgg9
  z9 := Tryd.sizeOf9
  v9 := Tryd.zeroValue9
  t21 := Tryd.underlying21
  a21 := Tryd.isAgg21
  z21 := Tryd.sizeOf21
  v21 := Tryd.zeroValue21
  t46 := Tryd.underlying69
  a46 := Tryd.isAgg69
  z46 := Tryd.sizeOf69
  v46 := Tryd.zeroValue69
  t105 := Tryd.underlying64
  a105 := Tryd.isAgg64
  z105 := Tryd.sizeOf64
  v105 := Tryd.zeroValue64
  t116 := Tryd.underlying51
  a116 := Tryd.isAgg51
  z116 := Tryd.sizeOf51
  t117 := Tryd.underlying52
  a117 := Tryd.isAgg52
  z117 := Tryd.sizeOf52
  v117 := Tryd.zeroValue52
  t119 := Tryd.underlying46
  a119 := Tryd.isAgg46
  z119 := Tryd.sizeOf46
  t124 := Tryd.underlying55
  a124 := Tryd.isAgg55
  z124 := Tryd.sizeOf55
  v124 := Tryd.zeroValue55
  t138 := Tryd.underlying87
  a138 := Tryd.isAgg87
  z138 := Tryd.sizeOf87
  v138 := Tryd.zeroValue87
  t139 := Tryd.underlying88
  a139 := Tryd.isAgg88
  z139 := Tryd.sizeOf88
  v139 := Tryd.zeroValue88
  g3 := by kernel_rfl
  g4 := by kernel_rfl }
end Go.Proofs
namespace Go.Proofs.YtcgfokeglgaffaaDoor
open Go.RowKit

theorem below_drewN {B : Nat} {w w1 : World} (h : Below B w w1) : ∀ n, Below B w (w1.drewN n)
  | 0 => h
  | n + 1 => (below_drewN h n).drew
/-- The table of what is a blank. -/
def Tab (w : World) : Prop := Lib.TabIs Tryd.prog w "strings.asciiSpace" .u8 Lib.asciiSpaceTab
theorem Tab.grew {w w' : World} (h : Tab w) (hb : Below w.heap.size w w') : Tab w' := Lib.tabBelow_of_tabIs h w' hb
theorem Fields_any (s : ByteArray) (w : World) (hs : s.size < 4294967281) (hascii : ∀ (j : Nat) b, s.data.toList[j]? = some b → b.toNat < 128) (htab : Tab w) :
    Calls Tryd.prog 30 #[.string s] w fun e w' =>
      e = .returned (.slice (some ⟨w.heap.size, 0, none⟩) (Lib.fields s.data.toList).length (Lib.fields s.data.toList).length) ∧ w' = w.alloc (.cells ((Lib.fields s.data.toList).map fun l => Value.string ⟨l.toArray⟩).toArray 9) :=
  Any.strings_Fields Tryd.lays157 (by kernel_rfl) (by kernel_rfl) s w hs hascii htab
theorem Suffix_any (a b : W) (ha : (a.length : Int) ≤ 1000000) (w : World) : Calls Tryd.prog 23 #[.string (S a), .string (S b)] w fun e w' => e = .returned (.bool (endsL a b)) ∧ w' = w :=
  Any.strings_HasSuffix Tryd.lays100 (S a) (S b) w (by rw [S_size]; omega)
theorem Trim_any (a : W) (ha : (a.length : Int) ≤ 1000000) (w : World) : Calls Tryd.prog 31 #[.string (S a), .string ⟨#[45]⟩] w fun e w' => e = .returned (.string (S (Lib.trimB a 45))) ∧ Below w.heap.size w w' := by
  refine (Any.strings_Trim_one Tryd.lays160 (S a) 45 (by decide) w (by rw [S_size]; omega)).mono ?_
  rintro e w' ⟨rfl, rfl | rfl⟩
  · exact ⟨rfl, Below.refl _ _⟩
  · exact ⟨rfl, (Below.refl _ _).drew⟩

theorem IndexByte_any (s : ByteArray) (c : Int) (w : World) : Calls Tryd.prog 53 #[.string s, .int .u8 c] w fun e w' => e = .returned (.int .i64 (Lib.indexByte s.data.toList c.toNat.toUInt8)) ∧ w' = w := by
  have e62 : ∀ (w : World), (callFunc 62 #[.string s, .int .u8 c]).run Tryd.prog w = .ok (.value (.int .i64 (Lib.indexByte s.data.toList c.toNat.toUInt8))) w := fun w => by
    rw [run_callFunc_extern Tryd.func62 (by kernel_rfl) (by kernel_rfl) (by kernel_rfl) (e := Extern.BytealgIndexByte.indexByte) (by kernel_rfl), Lib.run_indexByteString]
    rfl
  go_enter Tryd.func53, Tryd.ntmps53
  go_wp2
  go_ret
  exact ⟨rfl, rfl⟩

set_option maxRecDepth 100000 in
theorem Index_one (a b c x : UInt8) (w : World) : Calls Tryd.prog 47 #[.string (S [a, b, c]), .string (S [x])] w fun e w' => e = .returned (.int .i64 (Lib.indexByte [a, b, c] x)) ∧ w' = w := by
  have hz : (S [x]).size = 1 := rfl
  have hg : (S [x])[0]'(by rw [hz]; decide) = x := rfl
  have HI := Lib.hid (fun w => IndexByte_any (S [a, b, c]) (x.toNat : Int) w)
  have hne : ((S [x]).toList == (S [a, b, c]).toList) = false := by rw [S_list, S_list]; simp
  have hx : ((x.toNat : Int)).toNat.toUInt8 = x := by simp
  rw [hx, S_data] at HI
  clear hx
  go_enter Tryd.func47, Tryd.ntmps47
  go_wp2_with fail
  refine (HI.out _).mono ?_
  rintro e w1 ⟨rfl, rfl⟩
  go_wp2
  go_ret
  exact ⟨rfl, rfl⟩
theorem StrIndex_one (a b c x : UInt8) (w : World) : Calls Tryd.prog 36 #[.string (S [a, b, c]), .string (S [x])] w fun e w' => e = .returned (.int .i64 (Lib.indexByte [a, b, c] x)) ∧ w' = w := by
  have HI := Lib.hid (fun w => Index_one a b c x w)
  go_enter Tryd.func36, Tryd.ntmps36
  go_wp2_with fail
  refine (HI.out _).mono ?_
  rintro e w1 ⟨rfl, rfl⟩
  go_wp2
  go_ret
  exact ⟨rfl, rfl⟩
theorem Contains_one (a b c x : UInt8) (w : World) : Calls Tryd.prog 27 #[.string (S [a, b, c]), .string (S [x])] w fun e w' => e = .returned (.bool (decide (0 ≤ Lib.indexByte [a, b, c] x))) ∧ w' = w := by
  have HI := Lib.hid (fun w => StrIndex_one a b c x w)
  generalize Lib.indexByte [a, b, c] x = r at *
  go_enter Tryd.func27, Tryd.ntmps27
  go_wp2_with fail
  refine (HI.out _).mono ?_
  rintro e w1 ⟨rfl, rfl⟩
  go_wp2
  go_ret
  exact ⟨rfl, rfl⟩
theorem index_three (a b c x : UInt8) : (decide (0 ≤ Lib.indexByte [a, b, c] x)) = decide (x = a ∨ x = b ∨ x = c) := by
  rw [decide_eq_decide]
  simp only [Lib.indexByte]
  by_cases h1 : a = x
  · subst h1; simp
  · by_cases h2 : b = x
    · subst h2; simp [h1]
    · by_cases h3 : c = x
      · subst h3; simp [h1, h2]
      · simp [h1, h2, h3]
        exact ⟨fun h => h1 h.symm, fun h => h2 h.symm, fun h => h3 h.symm⟩
end Go.Proofs.YtcgfokeglgaffaaDoor
