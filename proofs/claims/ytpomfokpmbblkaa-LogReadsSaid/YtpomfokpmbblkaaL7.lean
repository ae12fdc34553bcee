/- Walks: slices.ContainsFunc over bytes; what a slot has. -/
import Derived.Test.YtpomfokpmbblkaaL6
namespace Go.Proofs.Ytpomfokpmbblkaa
open Go.RowKit Go.Maps
set_option maxRecDepth 8000
variable {ι : Type} [Bar ι]

def nzB (l : List Nat) : Bool := l.any fun x => decide (x ≠ 0)
theorem nonzero_any (x : Nat) (w : World) : Calls Try.prog 57 #[.int .u8 x] w fun e w' => e = .returned (.bool (decide (x ≠ 0))) ∧ w' = w := by
  have hd : decide (x ≠ 0) = ((x : Int) != 0) := by by_cases h : x = 0 <;> simp [h]
  rw [hd]
  go_enter Try.func57, Try.ntmps57
  go_wp2
  go_ret
  exact ⟨rfl, rfl⟩
set_option maxHeartbeats 2000000 in
theorem IndexB_any (l : List Nat) (n c : Nat) (hn : l.length = n) (hnb : (n : Int) ≤ 1000000000) (A : Option Addr) (w : World) (h : Rd w w.heap.size A l) :
    Calls Try.prog 69 #[.slice A n c, .func (.func 57) #[] #[]] w fun e w' => (∃ r : Int, e = .returned (.int .i64 r) ∧ -1 ≤ r ∧ decide (0 ≤ r) = nzB l) ∧ w' = w := by
  have HC := Lib.hid h
  have HN := Lib.hid hn
  have HQ := Lib.hid (fun (x : Nat) => nonzero_any x w)
  have eg : ∀ args w, (callFunc 57 args).run Try.prog w = .ok (.enter 57 args) w := enters_of Try.func57 (by kernel_rfl) rfl
  clear h hn
  go_enter Try.func69, Try.ntmps69
  go_wp2
  go_loop [8] (fun iv => ∃ k : Nat, k ≤ n ∧ iv = .int .i64 k ∧ Hid (nzB (l.take k) = false)) (fun iv => n - (intOf iv).toNat)
  case atStart => exact ⟨0, by omega, rfl, Lib.hid rfl⟩
  case round =>
    obtain ⟨k, hk, rfl, HT⟩ := hrel
    by_cases hlt : k < n
    · have hkl : k < l.length := by rw [HN.out]; exact hlt
      have hlt' : (k : Int) < n := by omega
      obtain ⟨p, rfl, _, hc, hb⟩ := HC.out.get hkl
      have HX : Hid (l.take (k + 1) = l.take k ++ [l[k]]) := Lib.hid (by rw [List.take_add_one, List.getElem?_eq_getElem hkl]; rfl)
      have HY : Hid (l[k] ≠ 0 → nzB l = true) := Lib.hid (fun h => List.any_eq_true.2 ⟨l[k], List.getElem_mem hkl, by simpa using h⟩)
      have HP := Lib.hid (HQ.out l[k])
      obtain ⟨x, hx⟩ : ∃ x, x = l[k] := ⟨_, rfl⟩
      rw [← hx] at hc HX HY HP
      clear hb hx
      by_cases hx0 : x = 0
      · subst hx0
        have HT2 : Hid (nzB (l.take (k + 1)) = false) := Lib.hid (by have h := HT.out; unfold nzB at h ⊢; rw [HX.out, List.any_append, h]; rfl)
        clear HX HY HT
        go_wp2_with fail
        refine HP.out.mono ?_
        rintro e w2 ⟨rfl, rfl⟩
        rw [decide_eq_false (by simp)]
        go_wp2
        go_round
        case rel => exact ⟨k + 1, by omega, by go_num, HT2⟩
        case measure => simp [intOf]; omega
      · have HA := Lib.hid (HY.out hx0)
        have HX0 := Lib.hid hx0
        clear HX HY HT hx0
        go_wp2_with fail
        refine HP.out.mono ?_
        rintro e w2 ⟨rfl, rfl⟩
        rw [decide_eq_true HX0.out]
        go_wp2
        go_ret
        exact ⟨⟨k, rfl, by omega, by rw [HA.out]; simp⟩, rfl⟩
    · have hlt' : ¬ (k : Int) < n := by omega
      have HA : Hid (nzB l = false) := Lib.hid (by have := HT.out; rw [List.take_of_length_le (by have := HN.out; omega)] at this; exact this)
      clear HT
      go_wp2
      go_ret
      exact ⟨⟨-1, rfl, by omega, by rw [HA.out]; rfl⟩, rfl⟩
theorem ContainsB_any (l : List Nat) (n c : Nat) (hn : l.length = n) (hnb : (n : Int) ≤ 1000000000) (A : Option Addr) (w : World) (h : Rd w w.heap.size A l) :
    Calls Try.prog 56 #[.slice A n c, .func (.func 57) #[] #[]] w fun e w' => e = .returned (.bool (nzB l)) ∧ w' = w := by
  have HI := Lib.hid (IndexB_any l n c hn hnb A w h)
  clear h
  generalize nzB l = Q at *
  go_enter Try.func56, Try.ntmps56
  go_wp2_with fail
  refine HI.out.mono ?_
  rintro e w2 ⟨⟨r, rfl, h1, h2⟩, rfl⟩
  clear HI
  go_wp2
  go_ret
  exact ⟨rfl, rfl⟩

/-! ### What a slot has -/
def slotE (l : List Nat) (i : Nat) : Int := (readMark l - i - 1) / 2097152
def slotOk (l : List Nat) (i : Nat) : Bool := (readErr l == 0) && okEp (slotE l i) && (readMark l == slotE l i * 2097152 + i + 1)
def slotEp (l : List Nat) (i : Nat) : Int := if slotOk l i then slotE l i else 0
def slotLoad (l : List Nat) (i : Nat) : List Nat := if slotOk l i then readLoad l else []
def slotEmpty (l : List Nat) (i : Nat) : Bool := if slotOk l i then false else !nzB l
theorem readMark_le (l : List Nat) (hb : ∀ b ∈ l, b < 256) (h1 : 64 ≤ l.length) : 0 ≤ readMark l ∧ readMark l ≤ 4611686018427387904 := by
  obtain ⟨h2, h3⟩ := readOk_eq l hb h1
  cases hr : readOk l with
  | false => unfold readMark; rw [hr]; simp
  | true =>
    rw [h3 hr]
    rw [hr] at h2
    unfold refOk at h2
    have := of_decide_eq_true h2.symm
    omega
end Go.Proofs.Ytpomfokpmbblkaa
