/- Walks: awake. Printed by mk_w13.py. -/
import Derived.Test.YtcgfokeglgaffaaDoorW12
import Derived.Test.YtcgfokeglgaffaaDoorHeld
namespace Go.Proofs.YtcgfokeglgaffaaDoor
open Go.RowKit

def awCs : List ByteArray := [⟨#[99, 97, 114, 101, 115, 115, 101, 115]⟩, ⟨#[112, 111, 110, 105, 101, 115]⟩, ⟨#[104, 111, 112, 112, 105, 110, 103]⟩, ⟨#[102, 105, 108, 105, 110, 103]⟩, ⟨#[114, 101, 108, 97, 116, 105, 111, 110, 97, 108]⟩, ⟨#[103, 101, 110, 101, 114, 97, 108, 105, 122, 97, 116, 105, 111, 110, 115]⟩, ⟨#[104, 97, 112, 112, 121]⟩]
def awSs : List ByteArray := [⟨#[99, 97, 114, 101, 115, 115]⟩, ⟨#[112, 111, 110, 105]⟩, ⟨#[104, 111, 112]⟩, ⟨#[102, 105, 108, 101]⟩, ⟨#[114, 101, 108, 97, 116]⟩, ⟨#[103, 101, 110, 101, 114]⟩, ⟨#[104, 97, 112, 112, 105]⟩]
def awC (k : Nat) : ByteArray := awCs.getD k ⟨#[]⟩
def awS (k : Nat) : ByteArray := awSs.getD k ⟨#[]⟩
theorem aw_stem : ∀ k < 7, S (stemL (awC k).data.toList) = awS k ∧ (awC k).data.toList.length ≤ 100 := by decide +kernel
theorem aw_any (k : Nat) (hk : k < 7) (w : World) (ht : Tab w) : Calls Tryd.prog 9 #[.string (awC k)] w fun e w' => e = .returned (.string (awS k)) ∧ Below w.heap.size w w' := by
  have h1 := aw_stem k hk
  have h := Stem_any (awC k).data.toList (by omega) w ht
  rw [h1.1] at h
  exact h
def awA : Array Value := #[.string ⟨#[99, 97, 114, 101, 115, 115, 101, 115]⟩, .string ⟨#[112, 111, 110, 105, 101, 115]⟩, .string ⟨#[104, 111, 112, 112, 105, 110, 103]⟩, .string ⟨#[102, 105, 108, 105, 110, 103]⟩, .string ⟨#[114, 101, 108, 97, 116, 105, 111, 110, 97, 108]⟩, .string ⟨#[103, 101, 110, 101, 114, 97, 108, 105, 122, 97, 116, 105, 111, 110, 115]⟩, .string ⟨#[104, 97, 112, 112, 121]⟩]
def awB : Array Value := #[.string ⟨#[99, 97, 114, 101, 115, 115]⟩, .string ⟨#[112, 111, 110, 105]⟩, .string ⟨#[104, 111, 112]⟩, .string ⟨#[102, 105, 108, 101]⟩, .string ⟨#[114, 101, 108, 97, 116]⟩, .string ⟨#[103, 101, 110, 101, 114]⟩, .string ⟨#[104, 97, 112, 112, 105]⟩]
theorem awA_get : ∀ k, k < 7 → awA[k]? = some (.string (awC k))
  | 0, _ => rfl
  | 1, _ => rfl
  | 2, _ => rfl
  | 3, _ => rfl
  | 4, _ => rfl
  | 5, _ => rfl
  | 6, _ => rfl
  | k + 7, h => by omega
theorem awB_get : ∀ k, k < 7 → awB[k]? = some (.string (awS k))
  | 0, _ => rfl
  | 1, _ => rfl
  | 2, _ => rfl
  | 3, _ => rfl
  | 4, _ => rfl
  | 5, _ => rfl
  | 6, _ => rfl
  | k + 7, h => by omega
theorem meas_trouble : meas ⟨#[116, 114, 111, 117, 98, 108, 101]⟩ = 1 := by
  have h : Letters (bs "trouble") := by
    have : ∀ b ∈ bs "trouble", 97 ≤ b.toNat ∧ b.toNat ≤ 122 := by decide +kernel
    exact this
  have e : (⟨#[116, 114, 111, 117, 98, 108, 101]⟩ : ByteArray) = S (bs "trouble") := by decide +kernel
  rw [e, meas_letters _ h]
  decide +kernel
theorem meas_oaten : meas ⟨#[111, 97, 116, 101, 110]⟩ = 2 := by
  have h : Letters (bs "oaten") := by
    have : ∀ b ∈ bs "oaten", 97 ≤ b.toNat ∧ b.toNat ≤ 122 := by decide +kernel
    exact this
  have e : (⟨#[111, 97, 116, 101, 110]⟩ : ByteArray) = S (bs "oaten") := by decide +kernel
  rw [e, meas_letters _ h]
  decide +kernel
set_option maxHeartbeats 2000000 in
theorem awake_any (w : World) (ht : Tab w) : Calls Tryd.prog 7 #[] w fun e w' => e = .returned (.bool true) ∧ Below w.heap.size w w' := by
  have HT := Lib.hid ht
  have H0 : Hid (Blk ((w.alloc (.cells awA 28)).alloc (.cells awB 28)) w.heap.size awA 28 ∧ Blk ((w.alloc (.cells awA 28)).alloc (.cells awB 28)) (w.heap.size + 1) awB 28 ∧ Below w.heap.size w ((w.alloc (.cells awA 28)).alloc (.cells awB 28))) :=
    Lib.hid ⟨(Blk.new w awA 28).alloc _, Blk.new' _ _ _ (by simp), grow_alloc (grow_alloc (Below.refl _ _) _) _⟩
  have HM1 := Lib.hid (fun w => Measure_any ⟨#[116, 114, 111, 117, 98, 108, 101]⟩ (by decide +kernel) w)
  have HM2 := Lib.hid (fun w => Measure_any ⟨#[111, 97, 116, 101, 110]⟩ (by decide +kernel) w)
  rw [meas_trouble] at HM1
  rw [meas_oaten] at HM2
  clear ht
  go_enter Tryd.func7, Tryd.ntmps7
  go_wp2
  have H1 : Hid (Blk ((w.alloc (.cells #[.string ⟨#[99, 97, 114, 101, 115, 115, 101, 115]⟩, .string ⟨#[112, 111, 110, 105, 101, 115]⟩, .string ⟨#[104, 111, 112, 112, 105, 110, 103]⟩, .string ⟨#[102, 105, 108, 105, 110, 103]⟩, .string ⟨#[114, 101, 108, 97, 116, 105, 111, 110, 97, 108]⟩, .string ⟨#[103, 101, 110, 101, 114, 97, 108, 105, 122, 97, 116, 105, 111, 110, 115]⟩, .string ⟨#[104, 97, 112, 112, 121]⟩] 28)).alloc (.cells #[.string ⟨#[99, 97, 114, 101, 115, 115]⟩, .string ⟨#[112, 111, 110, 105]⟩, .string ⟨#[104, 111, 112]⟩, .string ⟨#[102, 105, 108, 101]⟩, .string ⟨#[114, 101, 108, 97, 116]⟩, .string ⟨#[103, 101, 110, 101, 114]⟩, .string ⟨#[104, 97, 112, 112, 105]⟩] 28)) w.heap.size awA 28 ∧ Blk ((w.alloc (.cells #[.string ⟨#[99, 97, 114, 101, 115, 115, 101, 115]⟩, .string ⟨#[112, 111, 110, 105, 101, 115]⟩, .string ⟨#[104, 111, 112, 112, 105, 110, 103]⟩, .string ⟨#[102, 105, 108, 105, 110, 103]⟩, .string ⟨#[114, 101, 108, 97, 116, 105, 111, 110, 97, 108]⟩, .string ⟨#[103, 101, 110, 101, 114, 97, 108, 105, 122, 97, 116, 105, 111, 110, 115]⟩, .string ⟨#[104, 97, 112, 112, 121]⟩] 28)).alloc (.cells #[.string ⟨#[99, 97, 114, 101, 115, 115]⟩, .string ⟨#[112, 111, 110, 105]⟩, .string ⟨#[104, 111, 112]⟩, .string ⟨#[102, 105, 108, 101]⟩, .string ⟨#[114, 101, 108, 97, 116]⟩, .string ⟨#[103, 101, 110, 101, 114]⟩, .string ⟨#[104, 97, 112, 112, 105]⟩] 28)) (w.heap.size + 1) awB 28 ∧ Below w.heap.size w ((w.alloc (.cells #[.string ⟨#[99, 97, 114, 101, 115, 115, 101, 115]⟩, .string ⟨#[112, 111, 110, 105, 101, 115]⟩, .string ⟨#[104, 111, 112, 112, 105, 110, 103]⟩, .string ⟨#[102, 105, 108, 105, 110, 103]⟩, .string ⟨#[114, 101, 108, 97, 116, 105, 111, 110, 97, 108]⟩, .string ⟨#[103, 101, 110, 101, 114, 97, 108, 105, 122, 97, 116, 105, 111, 110, 115]⟩, .string ⟨#[104, 97, 112, 112, 121]⟩] 28)).alloc (.cells #[.string ⟨#[99, 97, 114, 101, 115, 115]⟩, .string ⟨#[112, 111, 110, 105]⟩, .string ⟨#[104, 111, 112]⟩, .string ⟨#[102, 105, 108, 101]⟩, .string ⟨#[114, 101, 108, 97, 116]⟩, .string ⟨#[103, 101, 110, 101, 114]⟩, .string ⟨#[104, 97, 112, 112, 105]⟩] 28))) := H0
  clear H0
  generalize (w.alloc _).alloc _ = w1 at *
  go_loopw [3] (fun iv wr => ∃ k : Nat, k ≤ 7 ∧ iv = .int .i64 k ∧ Hid (Blk wr w.heap.size awA 28 ∧ Blk wr (w.heap.size + 1) awB 28 ∧ Below w.heap.size w wr)) (fun iv _ => 7 - (intOf iv).toNat)
  case atStart => exact ⟨0, by omega, rfl, H1⟩
  case round =>
    clear H1
    obtain ⟨k, hk, rfl, HX⟩ := hrel
    by_cases hlt : k < 7
    · have HC : Hid (wr.cell? ⟨w.heap.size, k, none⟩ = some (.string (awC k)) ∧ wr.cell? ⟨w.heap.size + 1, k, none⟩ = some (.string (awS k))) := Lib.hid ⟨(HX.out.1.cell k).trans (awA_get k hlt), (HX.out.2.1.cell k).trans (awB_get k hlt)⟩
      have HSK := Lib.hid (aw_any k hlt)
      have hlt' : (k : Int) < 7 := by omega
      go_wp2_with fail
      refine wp_region_H (fun v => v.cell? ⟨w.heap.size, k, none⟩ = some (.string (awC k)) ∧ v.cell? ⟨w.heap.size + 1, k, none⟩ = some (.string (awS k))) (by kernel_rfl) (fun v0 hv0 => ?_)
      have hS0 : (fun v => v.cell? ⟨w.heap.size, k, none⟩ = some (.string (awC k)) ∧ v.cell? ⟨w.heap.size + 1, k, none⟩ = some (.string (awS k))) v0 := by subst hv0; exact ⟨HC.out.1, HC.out.2⟩
      have BV : Below wr.heap.size wr v0 := by subst hv0; exact (Below.refl _ _).drew
      clear hv0
      refine wpH_take (i := 0) (v := ?_) rfl rfl (by kernel_rfl) (by kernel_rfl) (by kernel_rfl) (fun _ _ _ h => h) (Or.inl ⟨by rfl, ?_⟩) hS0 ?_
      rotate_left
      · (intro w_ hw_; go_simp; try with_reducible rfl)
      simp only [List.setIfInBounds_toArray, List.set_cons_zero, List.set_cons_succ]
      refine wpH_take (i := 1) (v := ?_) rfl rfl (by kernel_rfl) (by kernel_rfl) (by kernel_rfl) (fun _ _ _ h => h) (Or.inl ⟨by rfl, ?_⟩) hS0 ?_
      rotate_left
      · (intro w_ hw_; go_simp; try with_reducible rfl)
      simp only [List.setIfInBounds_toArray, List.set_cons_zero, List.set_cons_succ]
      refine wpH_take (i := 2) (v := ?_) rfl rfl (by kernel_rfl) (by kernel_rfl) (by kernel_rfl) (fun _ _ _ h => h) (Or.inl ⟨by rfl, ?_⟩) hS0 ?_
      rotate_left
      · (intro w_ hw_; obtain ⟨q1, q2⟩ := hw_; go_simp; try with_reducible rfl)
      simp only [List.setIfInBounds_toArray, List.set_cons_zero, List.set_cons_succ]
      refine wpH_take (i := 4) (v := ?_) rfl rfl (by kernel_rfl) (by kernel_rfl) (by kernel_rfl) (fun _ _ _ h => h) (Or.inl ⟨by rfl, ?_⟩) hS0 ?_
      rotate_left
      · (intro w_ hw_; go_simp; try with_reducible rfl)
      simp only [List.setIfInBounds_toArray, List.set_cons_zero, List.set_cons_succ]
      refine wpH_take (i := 5) (v := ?_) rfl rfl (by kernel_rfl) (by kernel_rfl) (by kernel_rfl) (fun _ _ _ h => h) (Or.inl ⟨by rfl, ?_⟩) hS0 ?_
      rotate_left
      · (intro w_ hw_; go_simp; try with_reducible rfl)
      simp only [List.setIfInBounds_toArray, List.set_cons_zero, List.set_cons_succ]
      refine wpH_take (i := 6) (v := ?_) rfl rfl (by kernel_rfl) (by kernel_rfl) (by kernel_rfl) (fun _ _ _ h => h) (Or.inl ⟨by rfl, ?_⟩) hS0 ?_
      rotate_left
      · (intro w_ hw_; obtain ⟨q1, q2⟩ := hw_; go_simp; try with_reducible rfl)
      simp only [List.setIfInBounds_toArray, List.set_cons_zero, List.set_cons_succ]
      refine wpH_call (i := 3) (by kernel_rfl) rfl rfl (by rfl) (HSK.out v0 (HT.out.grew (HX.out.2.2.trans (BV.mono HX.out.2.2.size)))) (by go_simp) (fun w2 hR => ?_)
      have hS1 : (fun v => v.cell? ⟨w.heap.size, k, none⟩ = some (.string (awC k)) ∧ v.cell? ⟨w.heap.size + 1, k, none⟩ = some (.string (awS k))) w2 := ⟨cell_grew hS0.1 hR, cell_grew hS0.2 hR⟩
      clear hS0
      refine ⟨hS1, ?_⟩
      simp only [List.setIfInBounds_toArray, List.set_cons_zero, List.set_cons_succ]
      have BV2 := Lib.hid (HX.out.2.2.trans ((grow BV hR).mono HX.out.2.2.size))
      have BX := Lib.hid (And.intro (HX.out.1.grew (grow BV hR)) (HX.out.2.1.grew (grow BV hR)))
      clear BV hR
      refine wpH_take (i := 7) (v := ?_) rfl rfl (by kernel_rfl) (by kernel_rfl) (by kernel_rfl) (fun _ _ _ h => h) (Or.inl ⟨by rfl, ?_⟩) hS1 ?_
      rotate_left
      · (intro w_ hw_; go_simp; try with_reducible rfl)
      simp only [List.setIfInBounds_toArray, List.set_cons_zero, List.set_cons_succ]
      clear hS1
      refine wpAnyH_done (by kernel_rfl) ?_ _
      clear HSK HC
      go_wp2
      go_roundw
      case rel => exact ⟨k + 1, by omega, by go_num, Lib.hid ⟨BX.out.1, BX.out.2, BV2.out⟩⟩
      case measure => simp [intOf]; omega
    · have hlt' : ¬ (k : Int) < 7 := by omega
      go_wp2_with fail
      refine (HM1.out wr).mono ?_
      rintro e w2 ⟨rfl, hb2⟩
      have HB2 := Lib.hid (grow HX.out.2.2 hb2)
      clear hb2
      go_wp2_with fail
      refine (HM2.out w2).mono ?_
      rintro e w3 ⟨rfl, hb3⟩
      have HB3 := Lib.hid (grow HB2.out hb3)
      clear hb3
      go_wp2
      go_ret
      exact ⟨rfl, HB3.out⟩
end Go.Proofs.YtcgfokeglgaffaaDoor
