/- Walks: the document's Fold. Printed by mk_w4.py. -/
import Derived.Test.YtmdmejfcknaokaaDoorW3
import Derived.WideShapes
namespace Go.Proofs.YtmdmejfcknaokaaDoor
open Go.RowKit

theorem str_inj {a b : List Nat} (ha : ∀ x ∈ a, x < 256) (hb : ∀ x ∈ b, x < 256) (h : str a = str b) : a = b := by
  have h1 := congrArg (fun s : ByteArray => s.data.toList.map UInt8.toNat) h
  have e : ∀ l : List Nat, (∀ x ∈ l, x < 256) → (str l).data.toList.map UInt8.toNat = l := fun l hl => by
    simp only [str, List.map_map]
    conv => rhs; rw [← List.map_id l]
    apply List.map_congr_left
    intro x hx
    have := hl x hx
    simp; omega
  simp only [e a ha, e b hb] at h1
  exact h1
theorem str_ne {a b : List Nat} (ha : ∀ x ∈ a, x < 256) (hb : ∀ x ∈ b, x < 256) (h : a ≠ b) : ((str a).toList == (str b).toList) = false := by
  simp only [ByteArray.toList_eq, beq_eq_false_iff_ne, ne_eq]
  exact fun e => h (str_inj ha hb (Go.WideShapes.bytes_inj e))
theorem str_beq {a b : List Nat} (ha : ∀ x ∈ a, x < 256) (hb : ∀ x ∈ b, x < 256) : ((str a).toList == (str b).toList) = decide (a = b) := by
  by_cases h : a = b
  · subst h; simp
  · rw [decide_eq_false h]; exact str_ne ha hb h
theorem bases_ok : (∀ b ∈ basesL, b < 256) ∧ basesL.length < 1000 := by decide +kernel
theorem more_ok : (∀ b ∈ moreL, b < 256) ∧ moreL.length < 1000 := by decide +kernel
theorem pieces_small : ∀ (s out : List Nat), (∀ b ∈ out, b < 256) → (∀ b ∈ s, b < 256) → ∀ p ∈ piecesGo out s, ∀ b ∈ p, b < 256
  | [], _, _, _ => by simp [piecesGo]
  | x :: s, out, ho, hs => by
    unfold piecesGo
    split
    · intro p hp
      rcases List.mem_cons.1 hp with rfl | hp
      · exact ho
      · exact pieces_small s [] (by simp) (fun b hb => hs b (by simp [hb])) p hp
    · exact pieces_small s _ (by intro b hb; rcases List.mem_append.1 hb with h | h; exact ho b h; exact hs b (by simp at h; simp [h])) (fun b hb => hs b (by simp [hb]))
theorem piece_small (s : List Nat) (hs : ∀ b ∈ s, b < 256) (n : Nat) : ∀ b ∈ piece s n, b < 256 := by
  unfold piece
  cases h : (piecesGo [] s)[n]? with
  | none => simp
  | some p => exact pieces_small s [] (by simp) hs p (List.mem_of_getElem? h)
theorem piece_tail (s : List Nat) (hs : ∀ b ∈ s, b < 256) (n : Nat) : ((str (piece s n)).toList == [45]) = decide (piece s n = [45]) := by
  have h := str_beq (piece_small s hs n) (b := [45]) (by simp)
  have e : (str [45]).toList = [45] := by simp [ByteArray.toList_eq, str]
  rw [e] at h
  exact h
theorem dash_str : (⟨#[45]⟩ : ByteArray) = str [45] := by rfl
theorem nil_str : (⟨#[]⟩ : ByteArray) = str [] := rfl

theorem FoldR_upper (c : Int) (h0 : 65 ≤ c) (h1 : c ≤ 90) (w : World) : Calls Tryd.prog 9 #[.int .i64 c] w fun e w' => e = .returned (.string (str (enc (c + 32).toNat))) ∧ Below w.heap.size w w' := by
  have : decide (65 ≤ c) = true := by simp; try omega
  have : decide (c ≤ 90) = true := by simp; try omega
  have : decide (97 ≤ c + 32) = true := by simp; try omega
  have : decide (c + 32 ≤ 122) = true := by simp; try omega
  have : decide (48 ≤ c + 32) = true := by simp; try omega
  have : decide (c + 32 ≤ 57) = false := by simp; try omega
  have : decide (c + 32 < 0) = false := by simp; try omega
  have : decide (1114111 < c + 32) = false := by simp; try omega
  have : decide (55296 ≤ c + 32) = false := by simp; try omega
  have : decide (c + 32 < 57344) = true := by simp; try omega
  have : decide (384 ≤ c + 32) = false := by simp; try omega
  have : decide (8192 ≤ c + 32) = false := by simp; try omega
  have : decide (c + 32 ≤ 8303) = true := by simp; try omega
  have : decide (12288 ≤ c + 32) = false := by simp; try omega
  have : decide (c + 32 ≤ 12351) = true := by simp; try omega
  have : decide (256 ≤ c + 32) = false := by simp; try omega
  have : decide (224 ≤ c + 32) = false := by simp; try omega
  have : decide (192 ≤ c + 32) = false := by simp; try omega
  obtain ⟨n, hn⟩ : ∃ n : Nat, c + 32 = n := ⟨(c + 32).toNat, by omega⟩
  have hb := Bytes_any n (by omega) w
  rw [← hn] at hb
  have hr : (c + 32).toNat = n := by omega
  rw [hr]
  generalize str (enc n) = r at *
  have HB := Lib.hid hb
  clear hr hn hb
  go_enter Tryd.func9, Tryd.ntmps9
  go_wp2_with fail
  refine HB.out.mono ?_
  rintro e w1 ⟨rfl, hb⟩
  go_wp2
  go_ret
  exact ⟨rfl, hb⟩
theorem FoldR_lower (c : Int) (h0 : 97 ≤ c) (h1 : c ≤ 122) (w : World) : Calls Tryd.prog 9 #[.int .i64 c] w fun e w' => e = .returned (.string (str (enc (c).toNat))) ∧ Below w.heap.size w w' := by
  have : decide (65 ≤ c) = true := by simp; try omega
  have : decide (c ≤ 90) = false := by simp; try omega
  have : decide (97 ≤ c) = true := by simp; try omega
  have : decide (c ≤ 122) = true := by simp; try omega
  have : decide (48 ≤ c) = true := by simp; try omega
  have : decide (c ≤ 57) = false := by simp; try omega
  have : decide (c < 0) = false := by simp; try omega
  have : decide (1114111 < c) = false := by simp; try omega
  have : decide (55296 ≤ c) = false := by simp; try omega
  have : decide (c < 57344) = true := by simp; try omega
  have : decide (384 ≤ c) = false := by simp; try omega
  have : decide (8192 ≤ c) = false := by simp; try omega
  have : decide (c ≤ 8303) = true := by simp; try omega
  have : decide (12288 ≤ c) = false := by simp; try omega
  have : decide (c ≤ 12351) = true := by simp; try omega
  have : decide (256 ≤ c) = false := by simp; try omega
  have : decide (224 ≤ c) = false := by simp; try omega
  have : decide (192 ≤ c) = false := by simp; try omega
  have : (c == 65533) = false := by simp; try omega
  have : (c == 170) = false := by simp; try omega
  have : (c == 181) = false := by simp; try omega
  have : (c == 186) = false := by simp; try omega
  have : (c == 255) = false := by simp; try omega
  obtain ⟨n, hn⟩ : ∃ n : Nat, c = n := ⟨(c).toNat, by omega⟩
  have hb := Bytes_any n (by omega) w
  rw [← hn] at hb
  have hr : (c).toNat = n := by omega
  rw [hr]
  generalize str (enc n) = r at *
  have HB := Lib.hid hb
  clear hr hn hb
  go_enter Tryd.func9, Tryd.ntmps9
  go_wp2_with fail
  refine HB.out.mono ?_
  rintro e w1 ⟨rfl, hb⟩
  go_wp2
  go_ret
  exact ⟨rfl, hb⟩
theorem FoldR_digit (c : Int) (h0 : 48 ≤ c) (h1 : c ≤ 57) (w : World) : Calls Tryd.prog 9 #[.int .i64 c] w fun e w' => e = .returned (.string (str (enc (c).toNat))) ∧ Below w.heap.size w w' := by
  have : decide (65 ≤ c) = false := by simp; try omega
  have : decide (c ≤ 90) = true := by simp; try omega
  have : decide (97 ≤ c) = false := by simp; try omega
  have : decide (c ≤ 122) = true := by simp; try omega
  have : decide (48 ≤ c) = true := by simp; try omega
  have : decide (c ≤ 57) = true := by simp; try omega
  have : decide (c < 0) = false := by simp; try omega
  have : decide (1114111 < c) = false := by simp; try omega
  have : decide (55296 ≤ c) = false := by simp; try omega
  have : decide (c < 57344) = true := by simp; try omega
  have : decide (384 ≤ c) = false := by simp; try omega
  have : decide (8192 ≤ c) = false := by simp; try omega
  have : decide (c ≤ 8303) = true := by simp; try omega
  have : decide (12288 ≤ c) = false := by simp; try omega
  have : decide (c ≤ 12351) = true := by simp; try omega
  have : decide (256 ≤ c) = false := by simp; try omega
  have : decide (224 ≤ c) = false := by simp; try omega
  have : decide (192 ≤ c) = false := by simp; try omega
  have : (c == 65533) = false := by simp; try omega
  have : (c == 170) = false := by simp; try omega
  have : (c == 181) = false := by simp; try omega
  have : (c == 186) = false := by simp; try omega
  have : (c == 255) = false := by simp; try omega
  obtain ⟨n, hn⟩ : ∃ n : Nat, c = n := ⟨(c).toNat, by omega⟩
  have hb := Bytes_any n (by omega) w
  rw [← hn] at hb
  have hr : (c).toNat = n := by omega
  rw [hr]
  generalize str (enc n) = r at *
  have HB := Lib.hid hb
  clear hr hn hb
  go_enter Tryd.func9, Tryd.ntmps9
  go_wp2_with fail
  refine HB.out.mono ?_
  rintro e w1 ⟨rfl, hb⟩
  go_wp2
  go_ret
  exact ⟨rfl, hb⟩
theorem FoldR_neg (c : Int) (h0 : c < 0) (w : World) : Calls Tryd.prog 9 #[.int .i64 c] w fun e w' => e = .returned (.string (str ([]))) ∧ Below w.heap.size w w' := by
  have : decide (65 ≤ c) = false := by simp; try omega
  have : decide (c ≤ 90) = true := by simp; try omega
  have : decide (97 ≤ c) = false := by simp; try omega
  have : decide (c ≤ 122) = true := by simp; try omega
  have : decide (48 ≤ c) = false := by simp; try omega
  have : decide (c ≤ 57) = true := by simp; try omega
  have : decide (c < 0) = true := by simp; try omega
  have : decide (1114111 < c) = false := by simp; try omega
  have : decide (55296 ≤ c) = false := by simp; try omega
  have : decide (c < 57344) = true := by simp; try omega
  have : decide (384 ≤ c) = false := by simp; try omega
  have : decide (8192 ≤ c) = false := by simp; try omega
  have : decide (c ≤ 8303) = true := by simp; try omega
  have : decide (12288 ≤ c) = false := by simp; try omega
  have : decide (c ≤ 12351) = true := by simp; try omega
  have : decide (256 ≤ c) = false := by simp; try omega
  have : decide (224 ≤ c) = false := by simp; try omega
  have : decide (192 ≤ c) = false := by simp; try omega
  have : (c == 65533) = false := by simp; try omega
  have : (c == 170) = false := by simp; try omega
  have : (c == 181) = false := by simp; try omega
  have : (c == 186) = false := by simp; try omega
  have : (c == 255) = false := by simp; try omega
  go_enter Tryd.func9, Tryd.ntmps9
  go_wp2
  go_ret
  exact ⟨rfl, Below.refl _ _⟩
theorem FoldR_high (c : Int) (h0 : 1114111 < c) (w : World) : Calls Tryd.prog 9 #[.int .i64 c] w fun e w' => e = .returned (.string (str ([]))) ∧ Below w.heap.size w w' := by
  have : decide (65 ≤ c) = true := by simp; try omega
  have : decide (c ≤ 90) = false := by simp; try omega
  have : decide (97 ≤ c) = true := by simp; try omega
  have : decide (c ≤ 122) = false := by simp; try omega
  have : decide (48 ≤ c) = true := by simp; try omega
  have : decide (c ≤ 57) = false := by simp; try omega
  have : decide (c < 0) = false := by simp; try omega
  have : decide (1114111 < c) = true := by simp; try omega
  have : decide (55296 ≤ c) = true := by simp; try omega
  have : decide (c < 57344) = false := by simp; try omega
  have : decide (384 ≤ c) = true := by simp; try omega
  have : decide (8192 ≤ c) = true := by simp; try omega
  have : decide (c ≤ 8303) = false := by simp; try omega
  have : decide (12288 ≤ c) = true := by simp; try omega
  have : decide (c ≤ 12351) = false := by simp; try omega
  have : decide (256 ≤ c) = true := by simp; try omega
  have : decide (224 ≤ c) = true := by simp; try omega
  have : decide (192 ≤ c) = true := by simp; try omega
  have : (c == 65533) = false := by simp; try omega
  have : (c == 170) = false := by simp; try omega
  have : (c == 181) = false := by simp; try omega
  have : (c == 186) = false := by simp; try omega
  have : (c == 255) = false := by simp; try omega
  go_enter Tryd.func9, Tryd.ntmps9
  go_wp2
  go_ret
  exact ⟨rfl, Below.refl _ _⟩
theorem FoldR_surr (c : Int) (h0 : 55296 ≤ c) (h1 : c < 57344) (w : World) : Calls Tryd.prog 9 #[.int .i64 c] w fun e w' => e = .returned (.string (str ([]))) ∧ Below w.heap.size w w' := by
  have : decide (65 ≤ c) = true := by simp; try omega
  have : decide (c ≤ 90) = false := by simp; try omega
  have : decide (97 ≤ c) = true := by simp; try omega
  have : decide (c ≤ 122) = false := by simp; try omega
  have : decide (48 ≤ c) = true := by simp; try omega
  have : decide (c ≤ 57) = false := by simp; try omega
  have : decide (c < 0) = false := by simp; try omega
  have : decide (1114111 < c) = false := by simp; try omega
  have : decide (55296 ≤ c) = true := by simp; try omega
  have : decide (c < 57344) = true := by simp; try omega
  have : decide (384 ≤ c) = true := by simp; try omega
  have : decide (8192 ≤ c) = true := by simp; try omega
  have : decide (c ≤ 8303) = false := by simp; try omega
  have : decide (12288 ≤ c) = true := by simp; try omega
  have : decide (c ≤ 12351) = false := by simp; try omega
  have : decide (256 ≤ c) = true := by simp; try omega
  have : decide (224 ≤ c) = true := by simp; try omega
  have : decide (192 ≤ c) = true := by simp; try omega
  have : (c == 65533) = false := by simp; try omega
  have : (c == 170) = false := by simp; try omega
  have : (c == 181) = false := by simp; try omega
  have : (c == 186) = false := by simp; try omega
  have : (c == 255) = false := by simp; try omega
  go_enter Tryd.func9, Tryd.ntmps9
  go_wp2
  go_ret
  exact ⟨rfl, Below.refl _ _⟩
theorem FoldR_g1 (c : Int) (h0 : 8192 ≤ c) (h1 : c ≤ 8303) (w : World) : Calls Tryd.prog 9 #[.int .i64 c] w fun e w' => e = .returned (.string (str ([]))) ∧ Below w.heap.size w w' := by
  have : decide (65 ≤ c) = true := by simp; try omega
  have : decide (c ≤ 90) = false := by simp; try omega
  have : decide (97 ≤ c) = true := by simp; try omega
  have : decide (c ≤ 122) = false := by simp; try omega
  have : decide (48 ≤ c) = true := by simp; try omega
  have : decide (c ≤ 57) = false := by simp; try omega
  have : decide (c < 0) = false := by simp; try omega
  have : decide (1114111 < c) = false := by simp; try omega
  have : decide (55296 ≤ c) = false := by simp; try omega
  have : decide (c < 57344) = true := by simp; try omega
  have : decide (384 ≤ c) = true := by simp; try omega
  have : decide (8192 ≤ c) = true := by simp; try omega
  have : decide (c ≤ 8303) = true := by simp; try omega
  have : decide (12288 ≤ c) = false := by simp; try omega
  have : decide (c ≤ 12351) = true := by simp; try omega
  have : decide (256 ≤ c) = true := by simp; try omega
  have : decide (224 ≤ c) = true := by simp; try omega
  have : decide (192 ≤ c) = true := by simp; try omega
  have : (c == 65533) = false := by simp; try omega
  have : (c == 170) = false := by simp; try omega
  have : (c == 181) = false := by simp; try omega
  have : (c == 186) = false := by simp; try omega
  have : (c == 255) = false := by simp; try omega
  go_enter Tryd.func9, Tryd.ntmps9
  go_wp2
  go_ret
  exact ⟨rfl, Below.refl _ _⟩
theorem FoldR_g2 (c : Int) (h0 : 12288 ≤ c) (h1 : c ≤ 12351) (w : World) : Calls Tryd.prog 9 #[.int .i64 c] w fun e w' => e = .returned (.string (str ([]))) ∧ Below w.heap.size w w' := by
  have : decide (65 ≤ c) = true := by simp; try omega
  have : decide (c ≤ 90) = false := by simp; try omega
  have : decide (97 ≤ c) = true := by simp; try omega
  have : decide (c ≤ 122) = false := by simp; try omega
  have : decide (48 ≤ c) = true := by simp; try omega
  have : decide (c ≤ 57) = false := by simp; try omega
  have : decide (c < 0) = false := by simp; try omega
  have : decide (1114111 < c) = false := by simp; try omega
  have : decide (55296 ≤ c) = false := by simp; try omega
  have : decide (c < 57344) = true := by simp; try omega
  have : decide (384 ≤ c) = true := by simp; try omega
  have : decide (8192 ≤ c) = true := by simp; try omega
  have : decide (c ≤ 8303) = false := by simp; try omega
  have : decide (12288 ≤ c) = true := by simp; try omega
  have : decide (c ≤ 12351) = true := by simp; try omega
  have : decide (256 ≤ c) = true := by simp; try omega
  have : decide (224 ≤ c) = true := by simp; try omega
  have : decide (192 ≤ c) = true := by simp; try omega
  have : (c == 65533) = false := by simp; try omega
  have : (c == 170) = false := by simp; try omega
  have : (c == 181) = false := by simp; try omega
  have : (c == 186) = false := by simp; try omega
  have : (c == 255) = false := by simp; try omega
  go_enter Tryd.func9, Tryd.ntmps9
  go_wp2
  go_ret
  exact ⟨rfl, Below.refl _ _⟩
theorem FoldR_g3 (c : Int) (h0 : c = 65533) (w : World) : Calls Tryd.prog 9 #[.int .i64 c] w fun e w' => e = .returned (.string (str ([]))) ∧ Below w.heap.size w w' := by
  subst h0
  go_enter Tryd.func9, Tryd.ntmps9
  go_wp2
  go_ret
  exact ⟨rfl, Below.refl _ _⟩
theorem FoldR_ha (c : Int) (h0 : 384 ≤ c) (h1 : c < 8192) (w : World) : Calls Tryd.prog 9 #[.int .i64 c] w fun e w' => e = .returned (.string (str (enc (c).toNat))) ∧ Below w.heap.size w w' := by
  have : decide (65 ≤ c) = true := by simp; try omega
  have : decide (c ≤ 90) = false := by simp; try omega
  have : decide (97 ≤ c) = true := by simp; try omega
  have : decide (c ≤ 122) = false := by simp; try omega
  have : decide (48 ≤ c) = true := by simp; try omega
  have : decide (c ≤ 57) = false := by simp; try omega
  have : decide (c < 0) = false := by simp; try omega
  have : decide (1114111 < c) = false := by simp; try omega
  have : decide (55296 ≤ c) = false := by simp; try omega
  have : decide (c < 57344) = true := by simp; try omega
  have : decide (384 ≤ c) = true := by simp; try omega
  have : decide (8192 ≤ c) = false := by simp; try omega
  have : decide (c ≤ 8303) = true := by simp; try omega
  have : decide (12288 ≤ c) = false := by simp; try omega
  have : decide (c ≤ 12351) = true := by simp; try omega
  have : decide (256 ≤ c) = true := by simp; try omega
  have : decide (224 ≤ c) = true := by simp; try omega
  have : decide (192 ≤ c) = true := by simp; try omega
  have : (c == 65533) = false := by simp; try omega
  have : (c == 170) = false := by simp; try omega
  have : (c == 181) = false := by simp; try omega
  have : (c == 186) = false := by simp; try omega
  have : (c == 255) = false := by simp; try omega
  obtain ⟨n, hn⟩ : ∃ n : Nat, c = n := ⟨(c).toNat, by omega⟩
  have hb := Bytes_any n (by omega) w
  rw [← hn] at hb
  have hr : (c).toNat = n := by omega
  rw [hr]
  generalize str (enc n) = r at *
  have HB := Lib.hid hb
  clear hr hn hb
  go_enter Tryd.func9, Tryd.ntmps9
  go_wp2_with fail
  refine HB.out.mono ?_
  rintro e w1 ⟨rfl, hb⟩
  go_wp2
  go_ret
  exact ⟨rfl, hb⟩
theorem FoldR_hb (c : Int) (h0 : 8303 < c) (h1 : c < 12288) (w : World) : Calls Tryd.prog 9 #[.int .i64 c] w fun e w' => e = .returned (.string (str (enc (c).toNat))) ∧ Below w.heap.size w w' := by
  have : decide (65 ≤ c) = true := by simp; try omega
  have : decide (c ≤ 90) = false := by simp; try omega
  have : decide (97 ≤ c) = true := by simp; try omega
  have : decide (c ≤ 122) = false := by simp; try omega
  have : decide (48 ≤ c) = true := by simp; try omega
  have : decide (c ≤ 57) = false := by simp; try omega
  have : decide (c < 0) = false := by simp; try omega
  have : decide (1114111 < c) = false := by simp; try omega
  have : decide (55296 ≤ c) = false := by simp; try omega
  have : decide (c < 57344) = true := by simp; try omega
  have : decide (384 ≤ c) = true := by simp; try omega
  have : decide (8192 ≤ c) = true := by simp; try omega
  have : decide (c ≤ 8303) = false := by simp; try omega
  have : decide (12288 ≤ c) = false := by simp; try omega
  have : decide (c ≤ 12351) = true := by simp; try omega
  have : decide (256 ≤ c) = true := by simp; try omega
  have : decide (224 ≤ c) = true := by simp; try omega
  have : decide (192 ≤ c) = true := by simp; try omega
  have : (c == 65533) = false := by simp; try omega
  have : (c == 170) = false := by simp; try omega
  have : (c == 181) = false := by simp; try omega
  have : (c == 186) = false := by simp; try omega
  have : (c == 255) = false := by simp; try omega
  obtain ⟨n, hn⟩ : ∃ n : Nat, c = n := ⟨(c).toNat, by omega⟩
  have hb := Bytes_any n (by omega) w
  rw [← hn] at hb
  have hr : (c).toNat = n := by omega
  rw [hr]
  generalize str (enc n) = r at *
  have HB := Lib.hid hb
  clear hr hn hb
  go_enter Tryd.func9, Tryd.ntmps9
  go_wp2_with fail
  refine HB.out.mono ?_
  rintro e w1 ⟨rfl, hb⟩
  go_wp2
  go_ret
  exact ⟨rfl, hb⟩
theorem FoldR_hc (c : Int) (h0 : 12351 < c) (h1 : c < 55296) (w : World) : Calls Tryd.prog 9 #[.int .i64 c] w fun e w' => e = .returned (.string (str (enc (c).toNat))) ∧ Below w.heap.size w w' := by
  have : decide (65 ≤ c) = true := by simp; try omega
  have : decide (c ≤ 90) = false := by simp; try omega
  have : decide (97 ≤ c) = true := by simp; try omega
  have : decide (c ≤ 122) = false := by simp; try omega
  have : decide (48 ≤ c) = true := by simp; try omega
  have : decide (c ≤ 57) = false := by simp; try omega
  have : decide (c < 0) = false := by simp; try omega
  have : decide (1114111 < c) = false := by simp; try omega
  have : decide (55296 ≤ c) = false := by simp; try omega
  have : decide (c < 57344) = true := by simp; try omega
  have : decide (384 ≤ c) = true := by simp; try omega
  have : decide (8192 ≤ c) = true := by simp; try omega
  have : decide (c ≤ 8303) = false := by simp; try omega
  have : decide (12288 ≤ c) = true := by simp; try omega
  have : decide (c ≤ 12351) = false := by simp; try omega
  have : decide (256 ≤ c) = true := by simp; try omega
  have : decide (224 ≤ c) = true := by simp; try omega
  have : decide (192 ≤ c) = true := by simp; try omega
  have : (c == 65533) = false := by simp; try omega
  have : (c == 170) = false := by simp; try omega
  have : (c == 181) = false := by simp; try omega
  have : (c == 186) = false := by simp; try omega
  have : (c == 255) = false := by simp; try omega
  obtain ⟨n, hn⟩ : ∃ n : Nat, c = n := ⟨(c).toNat, by omega⟩
  have hb := Bytes_any n (by omega) w
  rw [← hn] at hb
  have hr : (c).toNat = n := by omega
  rw [hr]
  generalize str (enc n) = r at *
  have HB := Lib.hid hb
  clear hr hn hb
  go_enter Tryd.func9, Tryd.ntmps9
  go_wp2_with fail
  refine HB.out.mono ?_
  rintro e w1 ⟨rfl, hb⟩
  go_wp2
  go_ret
  exact ⟨rfl, hb⟩
theorem FoldR_hd (c : Int) (h0 : 57344 ≤ c) (h1 : c < 65533) (w : World) : Calls Tryd.prog 9 #[.int .i64 c] w fun e w' => e = .returned (.string (str (enc (c).toNat))) ∧ Below w.heap.size w w' := by
  have : decide (65 ≤ c) = true := by simp; try omega
  have : decide (c ≤ 90) = false := by simp; try omega
  have : decide (97 ≤ c) = true := by simp; try omega
  have : decide (c ≤ 122) = false := by simp; try omega
  have : decide (48 ≤ c) = true := by simp; try omega
  have : decide (c ≤ 57) = false := by simp; try omega
  have : decide (c < 0) = false := by simp; try omega
  have : decide (1114111 < c) = false := by simp; try omega
  have : decide (55296 ≤ c) = true := by simp; try omega
  have : decide (c < 57344) = false := by simp; try omega
  have : decide (384 ≤ c) = true := by simp; try omega
  have : decide (8192 ≤ c) = true := by simp; try omega
  have : decide (c ≤ 8303) = false := by simp; try omega
  have : decide (12288 ≤ c) = true := by simp; try omega
  have : decide (c ≤ 12351) = false := by simp; try omega
  have : decide (256 ≤ c) = true := by simp; try omega
  have : decide (224 ≤ c) = true := by simp; try omega
  have : decide (192 ≤ c) = true := by simp; try omega
  have : (c == 65533) = false := by simp; try omega
  have : (c == 170) = false := by simp; try omega
  have : (c == 181) = false := by simp; try omega
  have : (c == 186) = false := by simp; try omega
  have : (c == 255) = false := by simp; try omega
  obtain ⟨n, hn⟩ : ∃ n : Nat, c = n := ⟨(c).toNat, by omega⟩
  have hb := Bytes_any n (by omega) w
  rw [← hn] at hb
  have hr : (c).toNat = n := by omega
  rw [hr]
  generalize str (enc n) = r at *
  have HB := Lib.hid hb
  clear hr hn hb
  go_enter Tryd.func9, Tryd.ntmps9
  go_wp2_with fail
  refine HB.out.mono ?_
  rintro e w1 ⟨rfl, hb⟩
  go_wp2
  go_ret
  exact ⟨rfl, hb⟩
theorem FoldR_he (c : Int) (h0 : 65533 < c) (h1 : c ≤ 1114111) (w : World) : Calls Tryd.prog 9 #[.int .i64 c] w fun e w' => e = .returned (.string (str (enc (c).toNat))) ∧ Below w.heap.size w w' := by
  have : decide (65 ≤ c) = true := by simp; try omega
  have : decide (c ≤ 90) = false := by simp; try omega
  have : decide (97 ≤ c) = true := by simp; try omega
  have : decide (c ≤ 122) = false := by simp; try omega
  have : decide (48 ≤ c) = true := by simp; try omega
  have : decide (c ≤ 57) = false := by simp; try omega
  have : decide (c < 0) = false := by simp; try omega
  have : decide (1114111 < c) = false := by simp; try omega
  have : decide (55296 ≤ c) = true := by simp; try omega
  have : decide (c < 57344) = false := by simp; try omega
  have : decide (384 ≤ c) = true := by simp; try omega
  have : decide (8192 ≤ c) = true := by simp; try omega
  have : decide (c ≤ 8303) = false := by simp; try omega
  have : decide (12288 ≤ c) = true := by simp; try omega
  have : decide (c ≤ 12351) = false := by simp; try omega
  have : decide (256 ≤ c) = true := by simp; try omega
  have : decide (224 ≤ c) = true := by simp; try omega
  have : decide (192 ≤ c) = true := by simp; try omega
  have : (c == 65533) = false := by simp; try omega
  have : (c == 170) = false := by simp; try omega
  have : (c == 181) = false := by simp; try omega
  have : (c == 186) = false := by simp; try omega
  have : (c == 255) = false := by simp; try omega
  obtain ⟨n, hn⟩ : ∃ n : Nat, c = n := ⟨(c).toNat, by omega⟩
  have hb := Bytes_any n (by omega) w
  rw [← hn] at hb
  have hr : (c).toNat = n := by omega
  rw [hr]
  generalize str (enc n) = r at *
  have HB := Lib.hid hb
  clear hr hn hb
  go_enter Tryd.func9, Tryd.ntmps9
  go_wp2_with fail
  refine HB.out.mono ?_
  rintro e w1 ⟨rfl, hb⟩
  go_wp2
  go_ret
  exact ⟨rfl, hb⟩
theorem FoldR_i1 (c : Int) (h0 : c = 170) (w : World) : Calls Tryd.prog 9 #[.int .i64 c] w fun e w' => e = .returned (.string (str ([97]))) ∧ Below w.heap.size w w' := by
  subst h0
  go_enter Tryd.func9, Tryd.ntmps9
  go_wp2
  go_ret
  exact ⟨rfl, Below.refl _ _⟩
theorem FoldR_i2 (c : Int) (h0 : c = 181) (w : World) : Calls Tryd.prog 9 #[.int .i64 c] w fun e w' => e = .returned (.string (str ([117]))) ∧ Below w.heap.size w w' := by
  subst h0
  go_enter Tryd.func9, Tryd.ntmps9
  go_wp2
  go_ret
  exact ⟨rfl, Below.refl _ _⟩
theorem FoldR_i3 (c : Int) (h0 : c = 186) (w : World) : Calls Tryd.prog 9 #[.int .i64 c] w fun e w' => e = .returned (.string (str ([111]))) ∧ Below w.heap.size w w' := by
  subst h0
  go_enter Tryd.func9, Tryd.ntmps9
  go_wp2
  go_ret
  exact ⟨rfl, Below.refl _ _⟩
theorem FoldR_i4 (c : Int) (h0 : c = 255) (w : World) : Calls Tryd.prog 9 #[.int .i64 c] w fun e w' => e = .returned (.string (str ([121]))) ∧ Below w.heap.size w w' := by
  subst h0
  go_enter Tryd.func9, Tryd.ntmps9
  go_wp2
  go_ret
  exact ⟨rfl, Below.refl _ _⟩
theorem FoldR_more (c : Int) (h0 : 256 ≤ c) (h1 : c < 384) (w : World) : Calls Tryd.prog 9 #[.int .i64 c] w fun e w' => e = .returned (.string (str (dash (piece moreL (c - 256).toNat)))) ∧ Below w.heap.size w w' := by
  have : decide (65 ≤ c) = true := by simp; try omega
  have : decide (c ≤ 90) = false := by simp; try omega
  have : decide (97 ≤ c) = true := by simp; try omega
  have : decide (c ≤ 122) = false := by simp; try omega
  have : decide (48 ≤ c) = true := by simp; try omega
  have : decide (c ≤ 57) = false := by simp; try omega
  have : decide (c < 0) = false := by simp; try omega
  have : decide (1114111 < c) = false := by simp; try omega
  have : decide (55296 ≤ c) = false := by simp; try omega
  have : decide (c < 57344) = true := by simp; try omega
  have : decide (384 ≤ c) = false := by simp; try omega
  have : decide (8192 ≤ c) = false := by simp; try omega
  have : decide (c ≤ 8303) = true := by simp; try omega
  have : decide (12288 ≤ c) = false := by simp; try omega
  have : decide (c ≤ 12351) = true := by simp; try omega
  have : decide (256 ≤ c) = true := by simp; try omega
  have : decide (224 ≤ c) = true := by simp; try omega
  have : decide (192 ≤ c) = true := by simp; try omega
  have : (c == 65533) = false := by simp; try omega
  have : (c == 170) = false := by simp; try omega
  have : (c == 181) = false := by simp; try omega
  have : (c == 186) = false := by simp; try omega
  have : (c == 255) = false := by simp; try omega
  obtain ⟨n, hn⟩ : ∃ n : Nat, c - 256 = n := ⟨(c - 256).toNat, by omega⟩
  have hr : (c - 256).toNat = n := by omega
  rw [hr]
  have HM := Lib.hid (more_any w)
  have HP := Lib.hid (piece_any moreL more_ok.1 n (by omega) (by have := more_ok.2; omega) w)
  have ht := piece_tail moreL more_ok.1 n
  generalize piece moreL n = p at *
  generalize str moreL = ls at *
  clear hr
  by_cases hp : p = [45]
  · rw [decide_eq_true hp] at ht
    have hd : dash p = [] := if_pos hp
    rw [hd]
    clear hp hd
    go_enter Tryd.func9, Tryd.ntmps9
    go_wp2_with fail
    refine HM.out.mono ?_
    rintro e w1 ⟨rfl, hw⟩
    subst hw
    go_wp2_with fail
    refine HP.out.mono ?_
    rintro e w1 ⟨rfl, hw⟩
    subst hw
    go_wp2
    go_ret
    exact ⟨rfl, Below.refl _ _⟩
  · rw [decide_eq_false hp] at ht
    have hd : dash p = p := if_neg hp
    rw [hd]
    clear hp hd
    go_enter Tryd.func9, Tryd.ntmps9
    go_wp2_with fail
    refine HM.out.mono ?_
    rintro e w1 ⟨rfl, hw⟩
    subst hw
    go_wp2_with fail
    refine HP.out.mono ?_
    rintro e w1 ⟨rfl, hw⟩
    subst hw
    go_wp2
    go_ret
    exact ⟨rfl, Below.refl _ _⟩
theorem FoldR_low (c : Int) (h0 : 224 ≤ c) (h1 : c < 255) (w : World) : Calls Tryd.prog 9 #[.int .i64 c] w fun e w' => e = .returned (.string (str (dash (piece basesL (c - 224).toNat)))) ∧ Below w.heap.size w w' := by
  have : decide (65 ≤ c) = true := by simp; try omega
  have : decide (c ≤ 90) = false := by simp; try omega
  have : decide (97 ≤ c) = true := by simp; try omega
  have : decide (c ≤ 122) = false := by simp; try omega
  have : decide (48 ≤ c) = true := by simp; try omega
  have : decide (c ≤ 57) = false := by simp; try omega
  have : decide (c < 0) = false := by simp; try omega
  have : decide (1114111 < c) = false := by simp; try omega
  have : decide (55296 ≤ c) = false := by simp; try omega
  have : decide (c < 57344) = true := by simp; try omega
  have : decide (384 ≤ c) = false := by simp; try omega
  have : decide (8192 ≤ c) = false := by simp; try omega
  have : decide (c ≤ 8303) = true := by simp; try omega
  have : decide (12288 ≤ c) = false := by simp; try omega
  have : decide (c ≤ 12351) = true := by simp; try omega
  have : decide (256 ≤ c) = false := by simp; try omega
  have : decide (224 ≤ c) = true := by simp; try omega
  have : decide (192 ≤ c) = true := by simp; try omega
  have : (c == 65533) = false := by simp; try omega
  have : (c == 170) = false := by simp; try omega
  have : (c == 181) = false := by simp; try omega
  have : (c == 186) = false := by simp; try omega
  have : (c == 255) = false := by simp; try omega
  obtain ⟨n, hn⟩ : ∃ n : Nat, c - 224 = n := ⟨(c - 224).toNat, by omega⟩
  have hr : (c - 224).toNat = n := by omega
  rw [hr]
  have HM := Lib.hid (bases_any w)
  have HP := Lib.hid (piece_any basesL bases_ok.1 n (by omega) (by have := bases_ok.2; omega) w)
  have ht := piece_tail basesL bases_ok.1 n
  generalize piece basesL n = p at *
  generalize str basesL = ls at *
  clear hr
  by_cases hp : p = [45]
  · rw [decide_eq_true hp] at ht
    have hd : dash p = [] := if_pos hp
    rw [hd]
    clear hp hd
    go_enter Tryd.func9, Tryd.ntmps9
    go_wp2_with fail
    refine HM.out.mono ?_
    rintro e w1 ⟨rfl, hw⟩
    subst hw
    go_wp2_with fail
    refine HP.out.mono ?_
    rintro e w1 ⟨rfl, hw⟩
    subst hw
    go_wp2
    go_ret
    exact ⟨rfl, Below.refl _ _⟩
  · rw [decide_eq_false hp] at ht
    have hd : dash p = p := if_neg hp
    rw [hd]
    clear hp hd
    go_enter Tryd.func9, Tryd.ntmps9
    go_wp2_with fail
    refine HM.out.mono ?_
    rintro e w1 ⟨rfl, hw⟩
    subst hw
    go_wp2_with fail
    refine HP.out.mono ?_
    rintro e w1 ⟨rfl, hw⟩
    subst hw
    go_wp2
    go_ret
    exact ⟨rfl, Below.refl _ _⟩
theorem FoldR_up (c : Int) (h0 : 192 ≤ c) (h1 : c < 224) (w : World) : Calls Tryd.prog 9 #[.int .i64 c] w fun e w' => e = .returned (.string (str (dash (piece basesL (c - 192).toNat)))) ∧ Below w.heap.size w w' := by
  have : decide (65 ≤ c) = true := by simp; try omega
  have : decide (c ≤ 90) = false := by simp; try omega
  have : decide (97 ≤ c) = true := by simp; try omega
  have : decide (c ≤ 122) = false := by simp; try omega
  have : decide (48 ≤ c) = true := by simp; try omega
  have : decide (c ≤ 57) = false := by simp; try omega
  have : decide (c < 0) = false := by simp; try omega
  have : decide (1114111 < c) = false := by simp; try omega
  have : decide (55296 ≤ c) = false := by simp; try omega
  have : decide (c < 57344) = true := by simp; try omega
  have : decide (384 ≤ c) = false := by simp; try omega
  have : decide (8192 ≤ c) = false := by simp; try omega
  have : decide (c ≤ 8303) = true := by simp; try omega
  have : decide (12288 ≤ c) = false := by simp; try omega
  have : decide (c ≤ 12351) = true := by simp; try omega
  have : decide (256 ≤ c) = false := by simp; try omega
  have : decide (224 ≤ c) = false := by simp; try omega
  have : decide (192 ≤ c) = true := by simp; try omega
  have : (c == 65533) = false := by simp; try omega
  have : (c == 170) = false := by simp; try omega
  have : (c == 181) = false := by simp; try omega
  have : (c == 186) = false := by simp; try omega
  have : (c == 255) = false := by simp; try omega
  obtain ⟨n, hn⟩ : ∃ n : Nat, c - 192 = n := ⟨(c - 192).toNat, by omega⟩
  have hr : (c - 192).toNat = n := by omega
  rw [hr]
  have HM := Lib.hid (bases_any w)
  have HP := Lib.hid (piece_any basesL bases_ok.1 n (by omega) (by have := bases_ok.2; omega) w)
  have ht := piece_tail basesL bases_ok.1 n
  generalize piece basesL n = p at *
  generalize str basesL = ls at *
  clear hr
  by_cases hp : p = [45]
  · rw [decide_eq_true hp] at ht
    have hd : dash p = [] := if_pos hp
    rw [hd]
    clear hp hd
    go_enter Tryd.func9, Tryd.ntmps9
    go_wp2_with fail
    refine HM.out.mono ?_
    rintro e w1 ⟨rfl, hw⟩
    subst hw
    go_wp2_with fail
    refine HP.out.mono ?_
    rintro e w1 ⟨rfl, hw⟩
    subst hw
    go_wp2
    go_ret
    exact ⟨rfl, Below.refl _ _⟩
  · rw [decide_eq_false hp] at ht
    have hd : dash p = p := if_neg hp
    rw [hd]
    clear hp hd
    go_enter Tryd.func9, Tryd.ntmps9
    go_wp2_with fail
    refine HM.out.mono ?_
    rintro e w1 ⟨rfl, hw⟩
    subst hw
    go_wp2_with fail
    refine HP.out.mono ?_
    rintro e w1 ⟨rfl, hw⟩
    subst hw
    go_wp2
    go_ret
    exact ⟨rfl, Below.refl _ _⟩
theorem FoldR_m1 (c : Int) (h0 : 0 ≤ c) (h1 : c < 48) (w : World) : Calls Tryd.prog 9 #[.int .i64 c] w fun e w' => e = .returned (.string (str ([]))) ∧ Below w.heap.size w w' := by
  have : decide (65 ≤ c) = false := by simp; try omega
  have : decide (c ≤ 90) = true := by simp; try omega
  have : decide (97 ≤ c) = false := by simp; try omega
  have : decide (c ≤ 122) = true := by simp; try omega
  have : decide (48 ≤ c) = false := by simp; try omega
  have : decide (c ≤ 57) = true := by simp; try omega
  have : decide (c < 0) = false := by simp; try omega
  have : decide (1114111 < c) = false := by simp; try omega
  have : decide (55296 ≤ c) = false := by simp; try omega
  have : decide (c < 57344) = true := by simp; try omega
  have : decide (384 ≤ c) = false := by simp; try omega
  have : decide (8192 ≤ c) = false := by simp; try omega
  have : decide (c ≤ 8303) = true := by simp; try omega
  have : decide (12288 ≤ c) = false := by simp; try omega
  have : decide (c ≤ 12351) = true := by simp; try omega
  have : decide (256 ≤ c) = false := by simp; try omega
  have : decide (224 ≤ c) = false := by simp; try omega
  have : decide (192 ≤ c) = false := by simp; try omega
  have : (c == 65533) = false := by simp; try omega
  have : (c == 170) = false := by simp; try omega
  have : (c == 181) = false := by simp; try omega
  have : (c == 186) = false := by simp; try omega
  have : (c == 255) = false := by simp; try omega
  go_enter Tryd.func9, Tryd.ntmps9
  go_wp2
  go_ret
  exact ⟨rfl, Below.refl _ _⟩
theorem FoldR_m2 (c : Int) (h0 : 57 < c) (h1 : c < 65) (w : World) : Calls Tryd.prog 9 #[.int .i64 c] w fun e w' => e = .returned (.string (str ([]))) ∧ Below w.heap.size w w' := by
  have : decide (65 ≤ c) = false := by simp; try omega
  have : decide (c ≤ 90) = true := by simp; try omega
  have : decide (97 ≤ c) = false := by simp; try omega
  have : decide (c ≤ 122) = true := by simp; try omega
  have : decide (48 ≤ c) = true := by simp; try omega
  have : decide (c ≤ 57) = false := by simp; try omega
  have : decide (c < 0) = false := by simp; try omega
  have : decide (1114111 < c) = false := by simp; try omega
  have : decide (55296 ≤ c) = false := by simp; try omega
  have : decide (c < 57344) = true := by simp; try omega
  have : decide (384 ≤ c) = false := by simp; try omega
  have : decide (8192 ≤ c) = false := by simp; try omega
  have : decide (c ≤ 8303) = true := by simp; try omega
  have : decide (12288 ≤ c) = false := by simp; try omega
  have : decide (c ≤ 12351) = true := by simp; try omega
  have : decide (256 ≤ c) = false := by simp; try omega
  have : decide (224 ≤ c) = false := by simp; try omega
  have : decide (192 ≤ c) = false := by simp; try omega
  have : (c == 65533) = false := by simp; try omega
  have : (c == 170) = false := by simp; try omega
  have : (c == 181) = false := by simp; try omega
  have : (c == 186) = false := by simp; try omega
  have : (c == 255) = false := by simp; try omega
  go_enter Tryd.func9, Tryd.ntmps9
  go_wp2
  go_ret
  exact ⟨rfl, Below.refl _ _⟩
theorem FoldR_m3 (c : Int) (h0 : 90 < c) (h1 : c < 97) (w : World) : Calls Tryd.prog 9 #[.int .i64 c] w fun e w' => e = .returned (.string (str ([]))) ∧ Below w.heap.size w w' := by
  have : decide (65 ≤ c) = true := by simp; try omega
  have : decide (c ≤ 90) = false := by simp; try omega
  have : decide (97 ≤ c) = false := by simp; try omega
  have : decide (c ≤ 122) = true := by simp; try omega
  have : decide (48 ≤ c) = true := by simp; try omega
  have : decide (c ≤ 57) = false := by simp; try omega
  have : decide (c < 0) = false := by simp; try omega
  have : decide (1114111 < c) = false := by simp; try omega
  have : decide (55296 ≤ c) = false := by simp; try omega
  have : decide (c < 57344) = true := by simp; try omega
  have : decide (384 ≤ c) = false := by simp; try omega
  have : decide (8192 ≤ c) = false := by simp; try omega
  have : decide (c ≤ 8303) = true := by simp; try omega
  have : decide (12288 ≤ c) = false := by simp; try omega
  have : decide (c ≤ 12351) = true := by simp; try omega
  have : decide (256 ≤ c) = false := by simp; try omega
  have : decide (224 ≤ c) = false := by simp; try omega
  have : decide (192 ≤ c) = false := by simp; try omega
  have : (c == 65533) = false := by simp; try omega
  have : (c == 170) = false := by simp; try omega
  have : (c == 181) = false := by simp; try omega
  have : (c == 186) = false := by simp; try omega
  have : (c == 255) = false := by simp; try omega
  go_enter Tryd.func9, Tryd.ntmps9
  go_wp2
  go_ret
  exact ⟨rfl, Below.refl _ _⟩
theorem FoldR_m4 (c : Int) (h0 : 122 < c) (h1 : c < 170) (w : World) : Calls Tryd.prog 9 #[.int .i64 c] w fun e w' => e = .returned (.string (str ([]))) ∧ Below w.heap.size w w' := by
  have : decide (65 ≤ c) = true := by simp; try omega
  have : decide (c ≤ 90) = false := by simp; try omega
  have : decide (97 ≤ c) = true := by simp; try omega
  have : decide (c ≤ 122) = false := by simp; try omega
  have : decide (48 ≤ c) = true := by simp; try omega
  have : decide (c ≤ 57) = false := by simp; try omega
  have : decide (c < 0) = false := by simp; try omega
  have : decide (1114111 < c) = false := by simp; try omega
  have : decide (55296 ≤ c) = false := by simp; try omega
  have : decide (c < 57344) = true := by simp; try omega
  have : decide (384 ≤ c) = false := by simp; try omega
  have : decide (8192 ≤ c) = false := by simp; try omega
  have : decide (c ≤ 8303) = true := by simp; try omega
  have : decide (12288 ≤ c) = false := by simp; try omega
  have : decide (c ≤ 12351) = true := by simp; try omega
  have : decide (256 ≤ c) = false := by simp; try omega
  have : decide (224 ≤ c) = false := by simp; try omega
  have : decide (192 ≤ c) = false := by simp; try omega
  have : (c == 65533) = false := by simp; try omega
  have : (c == 170) = false := by simp; try omega
  have : (c == 181) = false := by simp; try omega
  have : (c == 186) = false := by simp; try omega
  have : (c == 255) = false := by simp; try omega
  go_enter Tryd.func9, Tryd.ntmps9
  go_wp2
  go_ret
  exact ⟨rfl, Below.refl _ _⟩
theorem FoldR_m5 (c : Int) (h0 : 170 < c) (h1 : c < 181) (w : World) : Calls Tryd.prog 9 #[.int .i64 c] w fun e w' => e = .returned (.string (str ([]))) ∧ Below w.heap.size w w' := by
  have : decide (65 ≤ c) = true := by simp; try omega
  have : decide (c ≤ 90) = false := by simp; try omega
  have : decide (97 ≤ c) = true := by simp; try omega
  have : decide (c ≤ 122) = false := by simp; try omega
  have : decide (48 ≤ c) = true := by simp; try omega
  have : decide (c ≤ 57) = false := by simp; try omega
  have : decide (c < 0) = false := by simp; try omega
  have : decide (1114111 < c) = false := by simp; try omega
  have : decide (55296 ≤ c) = false := by simp; try omega
  have : decide (c < 57344) = true := by simp; try omega
  have : decide (384 ≤ c) = false := by simp; try omega
  have : decide (8192 ≤ c) = false := by simp; try omega
  have : decide (c ≤ 8303) = true := by simp; try omega
  have : decide (12288 ≤ c) = false := by simp; try omega
  have : decide (c ≤ 12351) = true := by simp; try omega
  have : decide (256 ≤ c) = false := by simp; try omega
  have : decide (224 ≤ c) = false := by simp; try omega
  have : decide (192 ≤ c) = false := by simp; try omega
  have : (c == 65533) = false := by simp; try omega
  have : (c == 170) = false := by simp; try omega
  have : (c == 181) = false := by simp; try omega
  have : (c == 186) = false := by simp; try omega
  have : (c == 255) = false := by simp; try omega
  go_enter Tryd.func9, Tryd.ntmps9
  go_wp2
  go_ret
  exact ⟨rfl, Below.refl _ _⟩
theorem FoldR_m6 (c : Int) (h0 : 181 < c) (h1 : c < 186) (w : World) : Calls Tryd.prog 9 #[.int .i64 c] w fun e w' => e = .returned (.string (str ([]))) ∧ Below w.heap.size w w' := by
  have : decide (65 ≤ c) = true := by simp; try omega
  have : decide (c ≤ 90) = false := by simp; try omega
  have : decide (97 ≤ c) = true := by simp; try omega
  have : decide (c ≤ 122) = false := by simp; try omega
  have : decide (48 ≤ c) = true := by simp; try omega
  have : decide (c ≤ 57) = false := by simp; try omega
  have : decide (c < 0) = false := by simp; try omega
  have : decide (1114111 < c) = false := by simp; try omega
  have : decide (55296 ≤ c) = false := by simp; try omega
  have : decide (c < 57344) = true := by simp; try omega
  have : decide (384 ≤ c) = false := by simp; try omega
  have : decide (8192 ≤ c) = false := by simp; try omega
  have : decide (c ≤ 8303) = true := by simp; try omega
  have : decide (12288 ≤ c) = false := by simp; try omega
  have : decide (c ≤ 12351) = true := by simp; try omega
  have : decide (256 ≤ c) = false := by simp; try omega
  have : decide (224 ≤ c) = false := by simp; try omega
  have : decide (192 ≤ c) = false := by simp; try omega
  have : (c == 65533) = false := by simp; try omega
  have : (c == 170) = false := by simp; try omega
  have : (c == 181) = false := by simp; try omega
  have : (c == 186) = false := by simp; try omega
  have : (c == 255) = false := by simp; try omega
  go_enter Tryd.func9, Tryd.ntmps9
  go_wp2
  go_ret
  exact ⟨rfl, Below.refl _ _⟩
theorem FoldR_m7 (c : Int) (h0 : 186 < c) (h1 : c < 192) (w : World) : Calls Tryd.prog 9 #[.int .i64 c] w fun e w' => e = .returned (.string (str ([]))) ∧ Below w.heap.size w w' := by
  have : decide (65 ≤ c) = true := by simp; try omega
  have : decide (c ≤ 90) = false := by simp; try omega
  have : decide (97 ≤ c) = true := by simp; try omega
  have : decide (c ≤ 122) = false := by simp; try omega
  have : decide (48 ≤ c) = true := by simp; try omega
  have : decide (c ≤ 57) = false := by simp; try omega
  have : decide (c < 0) = false := by simp; try omega
  have : decide (1114111 < c) = false := by simp; try omega
  have : decide (55296 ≤ c) = false := by simp; try omega
  have : decide (c < 57344) = true := by simp; try omega
  have : decide (384 ≤ c) = false := by simp; try omega
  have : decide (8192 ≤ c) = false := by simp; try omega
  have : decide (c ≤ 8303) = true := by simp; try omega
  have : decide (12288 ≤ c) = false := by simp; try omega
  have : decide (c ≤ 12351) = true := by simp; try omega
  have : decide (256 ≤ c) = false := by simp; try omega
  have : decide (224 ≤ c) = false := by simp; try omega
  have : decide (192 ≤ c) = false := by simp; try omega
  have : (c == 65533) = false := by simp; try omega
  have : (c == 170) = false := by simp; try omega
  have : (c == 181) = false := by simp; try omega
  have : (c == 186) = false := by simp; try omega
  have : (c == 255) = false := by simp; try omega
  go_enter Tryd.func9, Tryd.ntmps9
  go_wp2
  go_ret
  exact ⟨rfl, Below.refl _ _⟩
theorem FoldR_any (c : Int) (w : World) : Calls Tryd.prog 9 #[.int .i64 c] w fun e w' => e = .returned (.string (str (foldR c))) ∧ Below w.heap.size w w' := by
  unfold foldR
  by_cases hu : 65 ≤ c ∧ c ≤ 90
  · simp only [if_pos hu]
    rw [if_pos (show 97 ≤ c + 32 ∧ c + 32 ≤ 122 ∨ 48 ≤ c + 32 ∧ c + 32 ≤ 57 by omega)]
    exact FoldR_upper c hu.1 hu.2 w
  · simp only [if_neg hu]
    by_cases h1 : 97 ≤ c ∧ c ≤ 122 ∨ 48 ≤ c ∧ c ≤ 57
    · rw [if_pos h1]
      rcases h1 with h | h
      · exact FoldR_lower c h.1 h.2 w
      · exact FoldR_digit c h.1 h.2 w
    · rw [if_neg h1]
      by_cases h2 : c < 0 ∨ 1114111 < c ∨ 55296 ≤ c ∧ c < 57344
      · rw [if_pos h2]
        rcases h2 with h | h | h
        · exact FoldR_neg c h w
        · exact FoldR_high c h w
        · exact FoldR_surr c h.1 h.2 w
      · rw [if_neg h2]
        by_cases h3 : 384 ≤ c
        · rw [if_pos h3]
          by_cases h4 : 8192 ≤ c ∧ c ≤ 8303 ∨ 12288 ≤ c ∧ c ≤ 12351 ∨ c = 65533
          · rw [if_pos h4]
            rcases h4 with h | h | h
            · exact FoldR_g1 c h.1 h.2 w
            · exact FoldR_g2 c h.1 h.2 w
            · exact FoldR_g3 c h w
          · rw [if_neg h4]
            by_cases ha : c < 8192
            · exact FoldR_ha c h3 ha w
            · by_cases hb : c < 12288
              · exact FoldR_hb c (by omega) hb w
              · by_cases hc : c < 55296
                · exact FoldR_hc c (by omega) hc w
                · by_cases hd : c < 65533
                  · exact FoldR_hd c (by omega) hd w
                  · exact FoldR_he c (by omega) (by omega) w
        · rw [if_neg h3]
          by_cases i1 : c = 170
          · rw [if_pos i1]; exact FoldR_i1 c i1 w
          · rw [if_neg i1]
            by_cases i2 : c = 181
            · rw [if_pos i2]; exact FoldR_i2 c i2 w
            · rw [if_neg i2]
              by_cases i3 : c = 186
              · rw [if_pos i3]; exact FoldR_i3 c i3 w
              · rw [if_neg i3]
                by_cases i4 : c = 255
                · rw [if_pos i4]; exact FoldR_i4 c i4 w
                · rw [if_neg i4]
                  by_cases j1 : 256 ≤ c
                  · rw [if_pos j1]; exact FoldR_more c j1 (by omega) w
                  · rw [if_neg j1]
                    by_cases j2 : 224 ≤ c
                    · rw [if_pos j2]; exact FoldR_low c j2 (by omega) w
                    · rw [if_neg j2]
                      by_cases j3 : 192 ≤ c
                      · rw [if_pos j3]; exact FoldR_up c j3 (by omega) w
                      · rw [if_neg j3]
                        by_cases m1 : c < 48
                        · exact FoldR_m1 c (by omega) m1 w
                        · by_cases m2 : c < 65
                          · exact FoldR_m2 c (by omega) m2 w
                          · by_cases m3 : c < 97
                            · exact FoldR_m3 c (by omega) m3 w
                            · by_cases m4 : c < 170
                              · exact FoldR_m4 c (by omega) m4 w
                              · by_cases m5 : c < 181
                                · exact FoldR_m5 c (by omega) m5 w
                                · by_cases m6 : c < 186
                                  · exact FoldR_m6 c (by omega) m6 w
                                  · exact FoldR_m7 c (by omega) (by omega) w
end Go.Proofs.YtmdmejfcknaokaaDoor
