/- Walks: ValidRune, apart, a piece of a text, a sign's bytes, the document's Fold. -/
import Derived.Test.YtmdmejfcknaokaaDoorChecked
import Derived.Test.YtmdmejfcknaokaaDoorAid
import Derived.Test.YtmdmejfcknaokaaDoorMath
import Derived.Lib.Hide
import Derived.LoopTactic
namespace Go.Proofs.YtmdmejfcknaokaaDoor
open Go.RowKit

theorem ValidRune_any (c : Int) (w : World) : Calls Tryd.prog 30 #[.int .i32 c] w fun e w' => e = .returned (.bool (Utf8.valid c)) ∧ w' = w := by
  obtain ⟨r, hr⟩ : ∃ r, r = Utf8.valid c := ⟨_, rfl⟩
  rw [← hr]
  by_cases h0 : 0 ≤ c <;> by_cases h1 : c < 55296 <;> by_cases h2 : 57343 < c <;> by_cases h3 : c ≤ 1114111
  all_goals first
    | omega
    | (have hv : r = true := by (rw [hr]; unfold Utf8.valid; simp; omega)
       subst hv
       clear hr
       go_enter Tryd.func30, Tryd.ntmps30
       go_wp2
       all_goals (go_ret; exact ⟨rfl, rfl⟩))
    | (have hv : r = false := by (rw [hr]; unfold Utf8.valid; simp; omega)
       subst hv
       clear hr
       go_enter Tryd.func30, Tryd.ntmps30
       go_wp2
       all_goals (go_ret; exact ⟨rfl, rfl⟩))

theorem apart_any (c : Int) (w : World) : Calls Tryd.prog 16 #[.int .i32 c] w fun e w' => e = .returned (.bool (apart c)) ∧ w' = w := by
  have hv := ValidRune_any c w
  obtain ⟨r, hr⟩ : ∃ r, r = apart c := ⟨_, rfl⟩
  rw [← hr]
  unfold apart at hr
  have HV := Lib.hid hv
  have HR := Lib.hid hr
  clear hv hr
  by_cases h : 0x2000 ≤ c ∧ c ≤ 0x206F ∨ 0x3000 ≤ c ∧ c ≤ 0x303F ∨ c = 65533
  · have hv : r = true := by rw [HR.out, decide_eq_true h]; rfl
    subst hv
    clear HV HR
    rcases h with ⟨h1, h2⟩ | ⟨h1, h2⟩ | h1
    · go_enter Tryd.func16, Tryd.ntmps16
      go_wp2
      all_goals (go_ret; exact ⟨rfl, rfl⟩)
    · have h3 : ¬ c ≤ 0x206F := by omega
      go_enter Tryd.func16, Tryd.ntmps16
      go_wp2
      all_goals (go_ret; exact ⟨rfl, rfl⟩)
    · subst h1
      go_enter Tryd.func16, Tryd.ntmps16
      go_wp2
      all_goals (go_ret; exact ⟨rfl, rfl⟩)
  · have hv : r = !Utf8.valid c := by rw [HR.out, decide_eq_false h]; rfl
    have hne : (c == 65533) = false := by simp; omega
    have HV2 := Lib.hid hv
    obtain ⟨b, hb⟩ : ∃ b, b = Utf8.valid c := ⟨_, rfl⟩
    have HB := Lib.hid hb
    have hrb : r = !b := by rw [hv, hb]
    subst hrb
    clear hv hb
    by_cases h1 : 0x2000 ≤ c <;> by_cases h2 : c ≤ 0x206F <;> by_cases h3 : 0x3000 ≤ c <;> by_cases h4 : c ≤ 0x303F
    all_goals first
      | omega
      | (clear h
         go_enter Tryd.func16, Tryd.ntmps16
         go_wp2_with fail
         refine HV.out.mono ?_
         rintro e w1 ⟨rfl, hw⟩
         rw [← HB.out, hw]
         clear hw HV HB HR HV2
         cases b
         all_goals
           go_wp2
           go_ret
           exact ⟨rfl, rfl⟩)
end Go.Proofs.YtmdmejfcknaokaaDoor
