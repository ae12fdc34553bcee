/- Walks: the document's Sign. Printed by mk_w8.py. -/
import Derived.Test.YtmdmejfcknaokaaDoorW1
namespace Go.Proofs.YtmdmejfcknaokaaDoor
open Go.RowKit

/-- What k more bytes make of a first piece. -/
def valR (s : ByteArray) (i b : Nat) : Nat → Nat
  | 0 => b
  | k + 1 => 64 * valR s i b k + (byteAt s (i + (k + 1)) - 128)
theorem valR_le (s : ByteArray) (i b : Nat) (hb : b < 32) (k : Nat) (hk : k ≤ 3) : valR s i b k ≤ 8654911 := by
  have h1 := byteAt_lt s (i + 1)
  have h2 := byteAt_lt s (i + 2)
  have h3 := byteAt_lt s (i + 3)
  have : k = 0 ∨ k = 1 ∨ k = 2 ∨ k = 3 := by omega
  rcases this with rfl | rfl | rfl | rfl
  · show b ≤ _; omega
  · show 64 * b + (byteAt s (i + 1) - 128) ≤ _; omega
  · show 64 * (64 * b + (byteAt s (i + 1) - 128)) + (byteAt s (i + 2) - 128) ≤ _; omega
  · show 64 * (64 * (64 * b + (byteAt s (i + 1) - 128)) + (byteAt s (i + 2) - 128)) + (byteAt s (i + 3) - 128) ≤ _; omega
def contsR (s : ByteArray) (i k : Nat) : Prop := ∀ j, 1 ≤ j → j ≤ k → contB s (i + j) = true
def signG (s : ByteArray) (i b n least : Nat) (R : Int × Nat) : Prop :=
  (contsR s i n → R = if okB least (valR s i b n) then ((valR s i b n : Int), n + 1) else (-1, 1)) ∧ (¬ contsR s i n → R = (-1, 1))
theorem sign_one (s : ByteArray) (i : Nat) (h1 : 194 ≤ byteAt s i) (h2 : byteAt s i < 224) : signG s i (byteAt s i - 192) 1 128 (signR s i) := by
  unfold signR
  simp only
  rw [if_neg (by omega), if_pos ⟨h1, h2⟩]
  constructor
  · intro h
    rw [if_pos (h 1 (by omega) (by omega))]; rfl
  · intro h
    rw [if_neg]
    intro h3
    exact h fun j a b => by obtain rfl : j = 1 := by omega
                            exact h3
theorem sign_two (s : ByteArray) (i : Nat) (h1 : 224 ≤ byteAt s i) (h2 : byteAt s i < 240) : signG s i (byteAt s i - 224) 2 2048 (signR s i) := by
  unfold signR
  simp only
  rw [if_neg (by omega), if_neg (by omega), if_pos ⟨h1, h2⟩]
  constructor
  · intro h
    rw [if_pos (by rw [h 1 (by omega) (by omega), h 2 (by omega) (by omega)]; rfl)]; rfl
  · intro h
    rw [if_neg]
    intro h3
    rw [Bool.and_eq_true] at h3
    exact h fun j a b => by
      have : j = 1 ∨ j = 2 := by omega
      rcases this with rfl | rfl
      · exact h3.1
      · exact h3.2
theorem sign_three (s : ByteArray) (i : Nat) (h1 : 240 ≤ byteAt s i) (h2 : byteAt s i < 245) : signG s i (byteAt s i - 240) 3 65536 (signR s i) := by
  unfold signR
  simp only
  rw [if_neg (by omega), if_neg (by omega), if_neg (by omega), if_pos ⟨h1, h2⟩]
  constructor
  · intro h
    rw [if_pos (by rw [h 1 (by omega) (by omega), h 2 (by omega) (by omega), h 3 (by omega) (by omega)]; rfl)]; rfl
  · intro h
    rw [if_neg]
    intro h3
    rw [Bool.and_eq_true, Bool.and_eq_true] at h3
    exact h fun j a b => by
      have : j = 1 ∨ j = 2 ∨ j = 3 := by omega
      rcases this with rfl | rfl | rfl
      · exact h3.1.1
      · exact h3.1.2
      · exact h3.2
theorem byteAt_get (s : ByteArray) (i : Nat) (h : i < s.size) : byteAt s i = (s[i]'h).toNat := by
  unfold byteAt
  obtain ⟨a⟩ := s
  have h' : i < a.size := h
  show (a[i]!).toNat = (a[i]'h').toNat
  rw [getElem!_pos a i h']
theorem okB_int (l v : Nat) : okB l v = decide ((l : Int) ≤ v ∧ (v : Int) ≤ 1114111 ∧ ¬ (55296 ≤ (v : Int) ∧ (v : Int) < 57344)) := by
  unfold okB
  rw [Bool.eq_iff_iff, decide_eq_true_eq, decide_eq_true_eq]
  omega
/-- The result, behind a definition. -/
def IsSign (R : Int × Nat) (e : Ending) : Prop := e = .returned (.tuple #[.int .i64 R.1, .int .i64 (R.2 : Int)])
theorem conts_snoc {s : ByteArray} {i k : Nat} (h : contsR s i k) (h1 : contB s (i + (k + 1)) = true) : contsR s i (k + 1) := fun j a b => by
  by_cases e : j = k + 1
  · rw [e]; exact h1
  · exact h j a (by omega)
theorem cont_iff (s : ByteArray) (i : Nat) (h : i < s.size) : contB s i = true ↔ 128 ≤ byteAt s i ∧ byteAt s i < 192 := by
  unfold contB; simp [h]

theorem Sign_low (s : ByteArray) (_hs : (s.size : Int) ≤ 1000000) (i : Nat) (hi : i < s.size) (h : byteAt s i < 128) (w : World) :
    Calls Tryd.prog 29 #[.string s, .int .i64 i] w fun e w' => IsSign (signR s i) e ∧ w' = w := by
  have hr : signR s i = ((byteAt s i : Int), 1) := by
    unfold signR; simp only
    rw [if_pos h]
  rw [hr]
  have hg := byteAt_get s i hi
  have hlt := byteAt_lt s i
  generalize byteAt s i = b at *
  have hget : ((s[i]'hi).toNat : Int) = b := by rw [← hg]
  clear hr hg
  have hl : (b : Int) < 128 := by omega
  go_enter Tryd.func29, Tryd.ntmps29
  go_wp2
  go_ret2
  exact ⟨rfl, rfl⟩
theorem Sign_bad0 (s : ByteArray) (_hs : (s.size : Int) ≤ 1000000) (i : Nat) (hi : i < s.size) (h1 : 128 ≤ byteAt s i) (h2 : byteAt s i < 194) (w : World) :
    Calls Tryd.prog 29 #[.string s, .int .i64 i] w fun e w' => IsSign (signR s i) e ∧ w' = w := by
  have hr : signR s i = ((-1 : Int), 1) := by
    unfold signR; simp only
    rw [if_neg (by omega), if_neg (by omega), if_neg (by omega), if_neg (by omega)]
  rw [hr]
  have hg := byteAt_get s i hi
  have hlt := byteAt_lt s i
  generalize byteAt s i = b at *
  have hget : ((s[i]'hi).toNat : Int) = b := by rw [← hg]
  clear hr hg
  have hl : ¬ (b : Int) < 128 := by omega
  have a1 : ¬ 194 ≤ (b : Int) := by omega
  have a2 : ¬ 224 ≤ (b : Int) := by omega
  have a3 : ¬ 240 ≤ (b : Int) := by omega
  go_enter Tryd.func29, Tryd.ntmps29
  go_wp2
  go_ret2
  exact ⟨rfl, rfl⟩
theorem Sign_bad1 (s : ByteArray) (_hs : (s.size : Int) ≤ 1000000) (i : Nat) (hi : i < s.size) (h1 : 245 ≤ byteAt s i) (w : World) :
    Calls Tryd.prog 29 #[.string s, .int .i64 i] w fun e w' => IsSign (signR s i) e ∧ w' = w := by
  have hr : signR s i = ((-1 : Int), 1) := by
    unfold signR; simp only
    rw [if_neg (by omega), if_neg (by omega), if_neg (by omega), if_neg (by omega)]
  rw [hr]
  have hg := byteAt_get s i hi
  have hlt := byteAt_lt s i
  generalize byteAt s i = b at *
  have hget : ((s[i]'hi).toNat : Int) = b := by rw [← hg]
  clear hr hg
  have hl : ¬ (b : Int) < 128 := by omega
  have a1 : 194 ≤ (b : Int) := by omega
  have a2 : ¬ (b : Int) < 224 := by omega
  have a3 : 224 ≤ (b : Int) := by omega
  have a4 : ¬ (b : Int) < 240 := by omega
  have a5 : 240 ≤ (b : Int) := by omega
  have a6 : ¬ (b : Int) < 245 := by omega
  go_enter Tryd.func29, Tryd.ntmps29
  go_wp2
  go_ret2
  exact ⟨rfl, rfl⟩
set_option maxHeartbeats 4000000 in
theorem Sign_one (s : ByteArray) (hs : (s.size : Int) ≤ 1000000) (i : Nat) (hi : i < s.size) (h1 : 194 ≤ byteAt s i) (h2 : byteAt s i < 224) (w : World) :
    Calls Tryd.prog 29 #[.string s, .int .i64 i] w fun e w' => IsSign (signR s i) e ∧ w' = w := by
  have hG := sign_one s i h1 h2
  have hg := byteAt_get s i hi
  have hv := valR_le s i (byteAt s i - 192) (by omega)
  have hv0 : valR s i (byteAt s i - 192) 0 = byteAt s i - 192 := rfl
  have hvS : ∀ k, valR s i (byteAt s i - 192) (k + 1) = 64 * valR s i (byteAt s i - 192) k + (byteAt s (i + (k + 1)) - 128) := fun _ => rfl
  generalize signR s i = R at *
  have HG := Lib.hid hG
  have HV := Lib.hid hv
  have HVS := Lib.hid hvS
  have hlt := byteAt_lt s i
  generalize byteAt s i = b at *
  have hget : ((s[i]'hi).toNat : Int) = b := by rw [← hg]
  have HV0 := Lib.hid hv0
  clear hG hv hg hvS hv0
  have hl : ¬ (b : Int) < 128 := by omega
  have a1 : 194 ≤ (b : Int) := by omega
  have a2 : (b : Int) < 224 := by omega
  clear h1 h2
  have hc0 : contsR s i 0 := fun j a b => absurd a (by omega)
  by_cases hn : (s.size : Int) - i ≤ 1
  · have hr : R = (-1, 1) := HG.out.2 fun h => by
      have := h 1 (by omega) (by omega)
      unfold contB at this
      simp at this
      omega
    subst hr
    clear HG HV HVS HV0
    go_enter Tryd.func29, Tryd.ntmps29
    go_wp2
    go_ret2
    exact ⟨rfl, rfl⟩
  · go_enter Tryd.func29, Tryd.ntmps29
    go_wp2
    go_loopw [6, 9] (fun cc ii wr => ∃ k : Nat, k ≤ 1 ∧ ii = .int .i64 ((k : Int) + 1) ∧ cc = .int .i64 (valR s i (b - 192) k : Nat) ∧ contsR s i k ∧ wr = w) (fun _ ii _ => 1 + 1 - (intOf ii).toNat)
    case atStart => exact ⟨0, by omega, rfl, by rw [HV0.out]; rw [show (((b - 192 : Nat) : Int)) = (b : Int) - 192 by omega], hc0, rfl⟩
    case round =>
      obtain ⟨k, hk, rfl, rfl, hck, rfl⟩ := hrel
      have hvk : ((valR s i (b - 192) k : Nat) : Int) ≤ 8654911 := by have := HV.out k (by omega); omega
      by_cases hlt : k < 1
      · have hik : i + (k + 1) < s.size := by omega
        have hg2 := byteAt_get s (i + (k + 1)) hik
        have hx := byteAt_lt s (i + (k + 1))
        have hcf := cont_iff s (i + (k + 1)) hik
        have hvs := HVS.out k
        generalize byteAt s (i + (k + 1)) = x at *
        have hcast : (i : Int) + ((k : Int) + 1) = ((i + (k + 1) : Nat) : Int) := by omega
        have hget2 : ((s[i + (k + 1)]'hik).toNat : Int) = x := by rw [← hg2]
        have hk' : (k : Int) + 1 ≤ 1 := by omega
        have HCF := Lib.hid hcf
        have HVK := Lib.hid hvs
        have hidx : ∀ w, (Instr.index 9 (.string s) (.int .i64 ((i : Int) + ((k : Int) + 1)))).run Tryd.prog w = .ok (.int .u8 (x : Int)) w := fun w => by
          rw [hcast, run_index_string (P := Tryd.prog) w 9 s .i64 _ Tryd.underlying9, ← hget2]
          rw [dif_pos ⟨by omega, by omega⟩]
          simp only [Int.toNat_natCast]
        clear hcf hvs hg2 hget2 hcast
        by_cases c1 : 128 ≤ x <;> by_cases c2 : x < 192
        · have hnext : contsR s i (k + 1) := conts_snoc hck (HCF.out.2 ⟨c1, c2⟩)
          have hnv : ((valR s i (b - 192) (k + 1) : Nat) : Int) = 64 * (valR s i (b - 192) k : Nat) + (x : Int) - 128 := by rw [HVK.out]; omega
          have HN := Lib.hid hnv
          clear hnv HCF HVK HVS
          generalize valR s i (b - 192) k = v at *
          have d1 : ¬ (x : Int) < 128 := by omega
          have d2 : ¬ (192 : Int) ≤ x := by omega
          go_wp2
          refine ⟨⟨k + 1, by omega, by go_num, by rw [HN.out], hnext, trivial⟩, by simp [intOf]; omega⟩
        · have hr : R = (-1, 1) := HG.out.2 fun h => by
            have := HCF.out.1 (h (k + 1) (by omega) (by omega))
            omega
          subst hr
          have d1 : ¬ (x : Int) < 128 := by omega
          have d2 : (192 : Int) ≤ x := by omega
          clear HCF HVK HVS HG HV HV0
          generalize valR s i (b - 192) k = v at *
          go_wp2
          go_ret2
          exact ⟨rfl, rfl⟩
        · have hr : R = (-1, 1) := HG.out.2 fun h => by
            have := HCF.out.1 (h (k + 1) (by omega) (by omega))
            omega
          subst hr
          have d1 : (x : Int) < 128 := by omega
          clear HCF HVK HVS HG HV HV0
          generalize valR s i (b - 192) k = v at *
          go_wp2
          go_ret2
          exact ⟨rfl, rfl⟩
        · omega
      · obtain rfl : k = 1 := by omega
        have hr := HG.out.1 hck
        clear HG HV HVS HV0
        generalize valR s i (b - 192) 1 = v at *
        have hok := okB_int 128 v
        by_cases e1 : (v : Int) < 128
        · have hr2 : R = (-1, 1) := by rw [hr, hok, decide_eq_false (by omega)]; rfl
          subst hr2
          clear hr hok
          go_wp2
          go_ret2
          exact ⟨rfl, rfl⟩
        · by_cases e2 : 1114111 < (v : Int)
          · have hr2 : R = (-1, 1) := by rw [hr, hok, decide_eq_false (by omega)]; rfl
            subst hr2
            clear hr hok
            go_wp2
            go_ret2
            exact ⟨rfl, rfl⟩
          · by_cases e3 : 55296 ≤ (v : Int) <;> by_cases e4 : (v : Int) < 57344
            · have hr2 : R = (-1, 1) := by rw [hr, hok, decide_eq_false (by omega)]; rfl
              subst hr2
              clear hr hok
              go_wp2
              go_ret2
              exact ⟨rfl, rfl⟩
            all_goals
              have hr2 : R = ((v : Int), 2) := by rw [hr, hok, decide_eq_true (by omega)]; rfl
              subst hr2
              clear hr hok
              go_wp2
              go_ret2
              exact ⟨rfl, rfl⟩
set_option maxHeartbeats 4000000 in
theorem Sign_two (s : ByteArray) (hs : (s.size : Int) ≤ 1000000) (i : Nat) (hi : i < s.size) (h1 : 224 ≤ byteAt s i) (h2 : byteAt s i < 240) (w : World) :
    Calls Tryd.prog 29 #[.string s, .int .i64 i] w fun e w' => IsSign (signR s i) e ∧ w' = w := by
  have hG := sign_two s i h1 h2
  have hg := byteAt_get s i hi
  have hv := valR_le s i (byteAt s i - 224) (by omega)
  have hv0 : valR s i (byteAt s i - 224) 0 = byteAt s i - 224 := rfl
  have hvS : ∀ k, valR s i (byteAt s i - 224) (k + 1) = 64 * valR s i (byteAt s i - 224) k + (byteAt s (i + (k + 1)) - 128) := fun _ => rfl
  generalize signR s i = R at *
  have HG := Lib.hid hG
  have HV := Lib.hid hv
  have HVS := Lib.hid hvS
  have hlt := byteAt_lt s i
  generalize byteAt s i = b at *
  have hget : ((s[i]'hi).toNat : Int) = b := by rw [← hg]
  have HV0 := Lib.hid hv0
  clear hG hv hg hvS hv0
  have hl : ¬ (b : Int) < 128 := by omega
  have a1 : 194 ≤ (b : Int) := by omega
  have a2 : ¬ (b : Int) < 224 := by omega
  have a3 : 224 ≤ (b : Int) := by omega
  have a4 : (b : Int) < 240 := by omega
  clear h1 h2
  have hc0 : contsR s i 0 := fun j a b => absurd a (by omega)
  by_cases hn : (s.size : Int) - i ≤ 2
  · have hr : R = (-1, 1) := HG.out.2 fun h => by
      have := h 2 (by omega) (by omega)
      unfold contB at this
      simp at this
      omega
    subst hr
    clear HG HV HVS HV0
    go_enter Tryd.func29, Tryd.ntmps29
    go_wp2
    go_ret2
    exact ⟨rfl, rfl⟩
  · go_enter Tryd.func29, Tryd.ntmps29
    go_wp2
    go_loopw [6, 9] (fun cc ii wr => ∃ k : Nat, k ≤ 2 ∧ ii = .int .i64 ((k : Int) + 1) ∧ cc = .int .i64 (valR s i (b - 224) k : Nat) ∧ contsR s i k ∧ wr = w) (fun _ ii _ => 2 + 1 - (intOf ii).toNat)
    case atStart => exact ⟨0, by omega, rfl, by rw [HV0.out]; rw [show (((b - 224 : Nat) : Int)) = (b : Int) - 224 by omega], hc0, rfl⟩
    case round =>
      obtain ⟨k, hk, rfl, rfl, hck, rfl⟩ := hrel
      have hvk : ((valR s i (b - 224) k : Nat) : Int) ≤ 8654911 := by have := HV.out k (by omega); omega
      by_cases hlt : k < 2
      · have hik : i + (k + 1) < s.size := by omega
        have hg2 := byteAt_get s (i + (k + 1)) hik
        have hx := byteAt_lt s (i + (k + 1))
        have hcf := cont_iff s (i + (k + 1)) hik
        have hvs := HVS.out k
        generalize byteAt s (i + (k + 1)) = x at *
        have hcast : (i : Int) + ((k : Int) + 1) = ((i + (k + 1) : Nat) : Int) := by omega
        have hget2 : ((s[i + (k + 1)]'hik).toNat : Int) = x := by rw [← hg2]
        have hk' : (k : Int) + 1 ≤ 2 := by omega
        have HCF := Lib.hid hcf
        have HVK := Lib.hid hvs
        have hidx : ∀ w, (Instr.index 9 (.string s) (.int .i64 ((i : Int) + ((k : Int) + 1)))).run Tryd.prog w = .ok (.int .u8 (x : Int)) w := fun w => by
          rw [hcast, run_index_string (P := Tryd.prog) w 9 s .i64 _ Tryd.underlying9, ← hget2]
          rw [dif_pos ⟨by omega, by omega⟩]
          simp only [Int.toNat_natCast]
        clear hcf hvs hg2 hget2 hcast
        by_cases c1 : 128 ≤ x <;> by_cases c2 : x < 192
        · have hnext : contsR s i (k + 1) := conts_snoc hck (HCF.out.2 ⟨c1, c2⟩)
          have hnv : ((valR s i (b - 224) (k + 1) : Nat) : Int) = 64 * (valR s i (b - 224) k : Nat) + (x : Int) - 128 := by rw [HVK.out]; omega
          have HN := Lib.hid hnv
          clear hnv HCF HVK HVS
          generalize valR s i (b - 224) k = v at *
          have d1 : ¬ (x : Int) < 128 := by omega
          have d2 : ¬ (192 : Int) ≤ x := by omega
          go_wp2
          refine ⟨⟨k + 1, by omega, by go_num, by rw [HN.out], hnext, trivial⟩, by simp [intOf]; omega⟩
        · have hr : R = (-1, 1) := HG.out.2 fun h => by
            have := HCF.out.1 (h (k + 1) (by omega) (by omega))
            omega
          subst hr
          have d1 : ¬ (x : Int) < 128 := by omega
          have d2 : (192 : Int) ≤ x := by omega
          clear HCF HVK HVS HG HV HV0
          generalize valR s i (b - 224) k = v at *
          go_wp2
          go_ret2
          exact ⟨rfl, rfl⟩
        · have hr : R = (-1, 1) := HG.out.2 fun h => by
            have := HCF.out.1 (h (k + 1) (by omega) (by omega))
            omega
          subst hr
          have d1 : (x : Int) < 128 := by omega
          clear HCF HVK HVS HG HV HV0
          generalize valR s i (b - 224) k = v at *
          go_wp2
          go_ret2
          exact ⟨rfl, rfl⟩
        · omega
      · obtain rfl : k = 2 := by omega
        have hr := HG.out.1 hck
        clear HG HV HVS HV0
        generalize valR s i (b - 224) 2 = v at *
        have hok := okB_int 2048 v
        by_cases e1 : (v : Int) < 2048
        · have hr2 : R = (-1, 1) := by rw [hr, hok, decide_eq_false (by omega)]; rfl
          subst hr2
          clear hr hok
          go_wp2
          go_ret2
          exact ⟨rfl, rfl⟩
        · by_cases e2 : 1114111 < (v : Int)
          · have hr2 : R = (-1, 1) := by rw [hr, hok, decide_eq_false (by omega)]; rfl
            subst hr2
            clear hr hok
            go_wp2
            go_ret2
            exact ⟨rfl, rfl⟩
          · by_cases e3 : 55296 ≤ (v : Int) <;> by_cases e4 : (v : Int) < 57344
            · have hr2 : R = (-1, 1) := by rw [hr, hok, decide_eq_false (by omega)]; rfl
              subst hr2
              clear hr hok
              go_wp2
              go_ret2
              exact ⟨rfl, rfl⟩
            all_goals
              have hr2 : R = ((v : Int), 3) := by rw [hr, hok, decide_eq_true (by omega)]; rfl
              subst hr2
              clear hr hok
              go_wp2
              go_ret2
              exact ⟨rfl, rfl⟩
set_option maxHeartbeats 4000000 in
theorem Sign_three (s : ByteArray) (hs : (s.size : Int) ≤ 1000000) (i : Nat) (hi : i < s.size) (h1 : 240 ≤ byteAt s i) (h2 : byteAt s i < 245) (w : World) :
    Calls Tryd.prog 29 #[.string s, .int .i64 i] w fun e w' => IsSign (signR s i) e ∧ w' = w := by
  have hG := sign_three s i h1 h2
  have hg := byteAt_get s i hi
  have hv := valR_le s i (byteAt s i - 240) (by omega)
  have hv0 : valR s i (byteAt s i - 240) 0 = byteAt s i - 240 := rfl
  have hvS : ∀ k, valR s i (byteAt s i - 240) (k + 1) = 64 * valR s i (byteAt s i - 240) k + (byteAt s (i + (k + 1)) - 128) := fun _ => rfl
  generalize signR s i = R at *
  have HG := Lib.hid hG
  have HV := Lib.hid hv
  have HVS := Lib.hid hvS
  have hlt := byteAt_lt s i
  generalize byteAt s i = b at *
  have hget : ((s[i]'hi).toNat : Int) = b := by rw [← hg]
  have HV0 := Lib.hid hv0
  clear hG hv hg hvS hv0
  have hl : ¬ (b : Int) < 128 := by omega
  have a1 : 194 ≤ (b : Int) := by omega
  have a2 : ¬ (b : Int) < 224 := by omega
  have a3 : 224 ≤ (b : Int) := by omega
  have a4 : ¬ (b : Int) < 240 := by omega
  have a5 : 240 ≤ (b : Int) := by omega
  have a6 : (b : Int) < 245 := by omega
  clear h1 h2
  have hc0 : contsR s i 0 := fun j a b => absurd a (by omega)
  by_cases hn : (s.size : Int) - i ≤ 3
  · have hr : R = (-1, 1) := HG.out.2 fun h => by
      have := h 3 (by omega) (by omega)
      unfold contB at this
      simp at this
      omega
    subst hr
    clear HG HV HVS HV0
    go_enter Tryd.func29, Tryd.ntmps29
    go_wp2
    go_ret2
    exact ⟨rfl, rfl⟩
  · go_enter Tryd.func29, Tryd.ntmps29
    go_wp2
    go_loopw [6, 9] (fun cc ii wr => ∃ k : Nat, k ≤ 3 ∧ ii = .int .i64 ((k : Int) + 1) ∧ cc = .int .i64 (valR s i (b - 240) k : Nat) ∧ contsR s i k ∧ wr = w) (fun _ ii _ => 3 + 1 - (intOf ii).toNat)
    case atStart => exact ⟨0, by omega, rfl, by rw [HV0.out]; rw [show (((b - 240 : Nat) : Int)) = (b : Int) - 240 by omega], hc0, rfl⟩
    case round =>
      obtain ⟨k, hk, rfl, rfl, hck, rfl⟩ := hrel
      have hvk : ((valR s i (b - 240) k : Nat) : Int) ≤ 8654911 := by have := HV.out k (by omega); omega
      by_cases hlt : k < 3
      · have hik : i + (k + 1) < s.size := by omega
        have hg2 := byteAt_get s (i + (k + 1)) hik
        have hx := byteAt_lt s (i + (k + 1))
        have hcf := cont_iff s (i + (k + 1)) hik
        have hvs := HVS.out k
        generalize byteAt s (i + (k + 1)) = x at *
        have hcast : (i : Int) + ((k : Int) + 1) = ((i + (k + 1) : Nat) : Int) := by omega
        have hget2 : ((s[i + (k + 1)]'hik).toNat : Int) = x := by rw [← hg2]
        have hk' : (k : Int) + 1 ≤ 3 := by omega
        have HCF := Lib.hid hcf
        have HVK := Lib.hid hvs
        have hidx : ∀ w, (Instr.index 9 (.string s) (.int .i64 ((i : Int) + ((k : Int) + 1)))).run Tryd.prog w = .ok (.int .u8 (x : Int)) w := fun w => by
          rw [hcast, run_index_string (P := Tryd.prog) w 9 s .i64 _ Tryd.underlying9, ← hget2]
          rw [dif_pos ⟨by omega, by omega⟩]
          simp only [Int.toNat_natCast]
        clear hcf hvs hg2 hget2 hcast
        by_cases c1 : 128 ≤ x <;> by_cases c2 : x < 192
        · have hnext : contsR s i (k + 1) := conts_snoc hck (HCF.out.2 ⟨c1, c2⟩)
          have hnv : ((valR s i (b - 240) (k + 1) : Nat) : Int) = 64 * (valR s i (b - 240) k : Nat) + (x : Int) - 128 := by rw [HVK.out]; omega
          have HN := Lib.hid hnv
          clear hnv HCF HVK HVS
          generalize valR s i (b - 240) k = v at *
          have d1 : ¬ (x : Int) < 128 := by omega
          have d2 : ¬ (192 : Int) ≤ x := by omega
          go_wp2
          refine ⟨⟨k + 1, by omega, by go_num, by rw [HN.out], hnext, trivial⟩, by simp [intOf]; omega⟩
        · have hr : R = (-1, 1) := HG.out.2 fun h => by
            have := HCF.out.1 (h (k + 1) (by omega) (by omega))
            omega
          subst hr
          have d1 : ¬ (x : Int) < 128 := by omega
          have d2 : (192 : Int) ≤ x := by omega
          clear HCF HVK HVS HG HV HV0
          generalize valR s i (b - 240) k = v at *
          go_wp2
          go_ret2
          exact ⟨rfl, rfl⟩
        · have hr : R = (-1, 1) := HG.out.2 fun h => by
            have := HCF.out.1 (h (k + 1) (by omega) (by omega))
            omega
          subst hr
          have d1 : (x : Int) < 128 := by omega
          clear HCF HVK HVS HG HV HV0
          generalize valR s i (b - 240) k = v at *
          go_wp2
          go_ret2
          exact ⟨rfl, rfl⟩
        · omega
      · obtain rfl : k = 3 := by omega
        have hr := HG.out.1 hck
        clear HG HV HVS HV0
        generalize valR s i (b - 240) 3 = v at *
        have hok := okB_int 65536 v
        by_cases e1 : (v : Int) < 65536
        · have hr2 : R = (-1, 1) := by rw [hr, hok, decide_eq_false (by omega)]; rfl
          subst hr2
          clear hr hok
          go_wp2
          go_ret2
          exact ⟨rfl, rfl⟩
        · by_cases e2 : 1114111 < (v : Int)
          · have hr2 : R = (-1, 1) := by rw [hr, hok, decide_eq_false (by omega)]; rfl
            subst hr2
            clear hr hok
            go_wp2
            go_ret2
            exact ⟨rfl, rfl⟩
          · by_cases e3 : 55296 ≤ (v : Int) <;> by_cases e4 : (v : Int) < 57344
            · have hr2 : R = (-1, 1) := by rw [hr, hok, decide_eq_false (by omega)]; rfl
              subst hr2
              clear hr hok
              go_wp2
              go_ret2
              exact ⟨rfl, rfl⟩
            all_goals
              have hr2 : R = ((v : Int), 4) := by rw [hr, hok, decide_eq_true (by omega)]; rfl
              subst hr2
              clear hr hok
              go_wp2
              go_ret2
              exact ⟨rfl, rfl⟩
theorem Sign_any (s : ByteArray) (hs : (s.size : Int) ≤ 1000000) (i : Nat) (hi : i < s.size) (w : World) :
    Calls Tryd.prog 29 #[.string s, .int .i64 i] w fun e w' => e = .returned (.tuple #[.int .i64 (signR s i).1, .int .i64 ((signR s i).2 : Int)]) ∧ w' = w := by
  by_cases h0 : byteAt s i < 128
  · exact Sign_low s hs i hi h0 w
  by_cases h1 : byteAt s i < 194
  · exact Sign_bad0 s hs i hi (by omega) h1 w
  by_cases h2 : byteAt s i < 224
  · exact Sign_one s hs i hi (by omega) h2 w
  by_cases h3 : byteAt s i < 240
  · exact Sign_two s hs i hi (by omega) h3 w
  by_cases h4 : byteAt s i < 245
  · exact Sign_three s hs i hi (by omega) h4 w
  · exact Sign_bad1 s hs i hi (by omega) w
end Go.Proofs.YtmdmejfcknaokaaDoor
