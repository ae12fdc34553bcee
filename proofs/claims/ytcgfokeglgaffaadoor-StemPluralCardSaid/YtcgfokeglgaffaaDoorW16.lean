/- Walks: the law of plurals. Printed by mk_w16.py. -/
import Derived.Test.YtcgfokeglgaffaaDoorW15
namespace Go.Proofs.YtcgfokeglgaffaaDoor
open Go.RowKit

theorem last_get (t : W) (h : 0 < t.length) : t.getLast? = some (t[t.length - 1]'(by omega)) := by rw [List.getLast?_eq_getElem?, List.getElem?_eq_getElem (by omega)]
theorem ends_ie (t : W) (hd : t.drop (t.length - 2) ≠ [105, 101]) : endsL t (bs "ie") = false := by
  cases h1 : endsL t (bs "ie") with
  | false => rfl
  | true =>
    have hl : bs "ie" = [105, 101] := by decide +kernel
    rw [hl] at h1
    exact absurd (ends_drop h1).2 hd
theorem ends_sse (t : W) (h : 3 ≤ t.length) (hd : t.drop (t.length - 2) = [115, 101] → (t[t.length - 3]'(by omega)).toNat ≠ 115) : endsL t (bs "sse") = false := by
  cases h1 : endsL t (bs "sse") with
  | false => rfl
  | true =>
    have hl : bs "sse" = [115, 115, 101] := by decide +kernel
    rw [hl] at h1
    have h2 := (ends_drop h1).2
    change t.drop (t.length - 3) = _ at h2
    rw [List.drop_eq_getElem_cons (by omega), List.cons.injEq] at h2
    have h3 := h2.2
    rw [show t.length - 3 + 1 = t.length - 2 by omega] at h3
    exact absurd (by rw [h2.1]; rfl) (hd h3)

set_option maxHeartbeats 4000000 in
theorem Plural_any (s : ByteArray) (w : World) (ht : Tab w) : Calls Tryd.prog 5 #[.string s] w fun e w' => e = .returned (.bool true) ∧ Below w.heap.size w w' := by
  have HT := Lib.hid ht
  clear ht
  by_cases h200 : s.size ≤ 200
  · obtain ⟨t, rfl⟩ : ∃ t : W, s = S t := ⟨s.data.toList, (S_of s).symm⟩
    rw [S_size] at h200
    have hz := S_size t
    have h200' : (t.length : Int) ≤ 200 := by omega
    have HP := Lib.hid (lawPlain_any t (by omega))
    by_cases hp : plainB t = true
    · have h3 : 3 ≤ t.length := by
        unfold plainB at hp
        rw [Bool.and_eq_true, decide_eq_true_eq, decide_eq_true_eq] at hp
        exact hp.2
      have HS := Lib.hid (fun w => Stem_any t (by omega) w)
      have HS2 := Lib.hid (fun w => Stem_any (t ++ [115]) (by simp; omega) w)
      have HF := Lib.hid (plural_same t hp)
      have e2 : S (t ++ [115]) = S t ++ ⟨#[115]⟩ := (S_append t [115]).symm
      rw [e2] at HS2
      rw [hp] at HP
      have i1 := idx_S t (t.length - 1) (by omega)
      have i3 := idx_S t (t.length - 3) (by omega)
      have n1 : ((t.length - 1 : Nat) : Int) = (t.length : Int) - 1 := by omega
      have n3 : ((t.length - 3 : Nat) : Int) = (t.length : Int) - 3 := by omega
      have n2 : ((t.length : Int) - 2).toNat = t.length - 2 := by omega
      have hn3 : (3 : Int) ≤ t.length := by omega
      have c1 : (S t).extract (t.length - 2) t.length = S (t.drop (t.length - 2)) := S_drop t _
      have b1 : ((S (t.drop (t.length - 2))).toList == [105, 101]) = decide (t.drop (t.length - 2) = [105, 101]) := by rw [S_list, beq_dec]
      have b2 : ((S (t.drop (t.length - 2))).toList == [115, 101]) = decide (t.drop (t.length - 2) = [115, 101]) := by rw [S_list, beq_dec]
      have HL := Lib.hid (last_get t (by omega))
      have HIE := Lib.hid (ends_ie t)
      have HSSE := Lib.hid (ends_sse t h3)
      rw [n1] at i1
      rw [n3] at i3
      generalize hc1 : t[t.length - 1] = k1 at *
      generalize hc3 : t[t.length - 3] = k3 at *
      generalize S (t.drop (t.length - 2)) = D at *
      generalize t.drop (t.length - 2) = d at *
      clear hc1 hc3 hp
      by_cases q1 : k1 = 115
      · have t1 : ((k1.toNat : Int) == 115) = true := by rw [q1]; rfl
        clear HF HL HIE HSSE q1
        go_enter Tryd.func5, Tryd.ntmps5
        go_wp2_with fail
        refine (HP.out w).mono ?_
        rintro e w1 ⟨rfl, hw1⟩
        obtain rfl := hw1
        clear HP
        go_wp2_with fail
        refine (awake_any _ HT.out).mono ?_
        rintro e w2 ⟨rfl, hb2⟩
        have HB2 := Lib.hid hb2
        clear hb2
        go_wp2
        go_ret
        exact ⟨rfl, HB2.out⟩
      · have t1 : ((k1.toNat : Int) == 115) = false := by
          simp only [beq_eq_false_iff_ne]
          intro h
          exact q1 (UInt8.toNat.inj (by show k1.toNat = 115; omega))
        have HN : Hid (t.getLast? ≠ some 115) := Lib.hid (by rw [HL.out]; simpa using q1)
        clear q1 HL
        by_cases q2 : d = [105, 101]
        · have t2 : (D.toList == [105, 101]) = true := by rw [b1, decide_eq_true q2]
          clear HF HIE HSSE q2 b1 HN
          go_enter Tryd.func5, Tryd.ntmps5
          go_wp2_with fail
          refine (HP.out w).mono ?_
          rintro e w1 ⟨rfl, hw1⟩
          obtain rfl := hw1
          clear HP
          go_wp2_with fail
          refine (awake_any _ HT.out).mono ?_
          rintro e w2 ⟨rfl, hb2⟩
          have HB2 := Lib.hid hb2
          clear hb2
          go_wp2
          go_ret
          exact ⟨rfl, HB2.out⟩
        · have t2 : (D.toList == [105, 101]) = false := by rw [b1, decide_eq_false q2]
          have HI := Lib.hid (HIE.out q2)
          clear HIE b1 q2
          by_cases q3 : d = [115, 101]
          · have t3 : (D.toList == [115, 101]) = true := by rw [b2, decide_eq_true q3]
            by_cases q4 : k3.toNat = 115
            · have t4 : ((k3.toNat : Int) == 115) = true := by rw [q4]; rfl
              clear HF HSSE q3 b2 HN HI q4
              go_enter Tryd.func5, Tryd.ntmps5
              go_wp2_with fail
              refine (HP.out w).mono ?_
              rintro e w1 ⟨rfl, hw1⟩
              obtain rfl := hw1
              clear HP
              go_wp2_with fail
              refine (awake_any _ HT.out).mono ?_
              rintro e w2 ⟨rfl, hb2⟩
              have HB2 := Lib.hid hb2
              clear hb2
              go_wp2
              go_ret
              exact ⟨rfl, HB2.out⟩
            · have t4 : ((k3.toNat : Int) == 115) = false := by
                simp only [beq_eq_false_iff_ne]
                omega
              have HE3 := Lib.hid (HSSE.out (fun _ => q4))
              clear HSSE q3 b2 q4
              have HEQ := HF.out HN.out HI.out HE3.out
              rw [HEQ] at HS2
              clear HF HEQ
              go_enter Tryd.func5, Tryd.ntmps5
              go_wp2_with fail
              refine (HP.out w).mono ?_
              rintro e w1 ⟨rfl, hw1⟩
              obtain rfl := hw1
              clear HP
              go_wp2_with fail
              refine (HS.out _ HT.out).mono ?_
              rintro e w1 ⟨rfl, hb1⟩
              have HB1 := Lib.hid hb1
              clear hb1 HS
              go_wp2_with fail
              refine (HS2.out w1 (HT.out.grew HB1.out)).mono ?_
              rintro e w2 ⟨rfl, hb2⟩
              have HB2 := Lib.hid (grow HB1.out hb2)
              clear hb2 HS2 HB1
              go_wp2_with fail
              refine (awake_any w2 (HT.out.grew HB2.out)).mono ?_
              rintro e w3 ⟨rfl, hb3⟩
              have HB3 := Lib.hid (grow HB2.out hb3)
              clear hb3 HB2
              go_wp2
              go_ret
              exact ⟨rfl, HB3.out⟩
          · have t3 : (D.toList == [115, 101]) = false := by rw [b2, decide_eq_false q3]
            have HE3 := Lib.hid (HSSE.out (fun h => absurd h q3))
            clear HSSE q3 b2
            have HEQ := HF.out HN.out HI.out HE3.out
            rw [HEQ] at HS2
            clear HF HEQ
            go_enter Tryd.func5, Tryd.ntmps5
            go_wp2_with fail
            refine (HP.out w).mono ?_
            rintro e w1 ⟨rfl, hw1⟩
            obtain rfl := hw1
            clear HP
            go_wp2_with fail
            refine (HS.out _ HT.out).mono ?_
            rintro e w1 ⟨rfl, hb1⟩
            have HB1 := Lib.hid hb1
            clear hb1 HS
            go_wp2_with fail
            refine (HS2.out w1 (HT.out.grew HB1.out)).mono ?_
            rintro e w2 ⟨rfl, hb2⟩
            have HB2 := Lib.hid (grow HB1.out hb2)
            clear hb2 HS2 HB1
            go_wp2_with fail
            refine (awake_any w2 (HT.out.grew HB2.out)).mono ?_
            rintro e w3 ⟨rfl, hb3⟩
            have HB3 := Lib.hid (grow HB2.out hb3)
            clear hb3 HB2
            go_wp2
            go_ret
            exact ⟨rfl, HB3.out⟩
    · have hp' : plainB t = false := by simpa using hp
      rw [hp'] at HP
      clear hp hp'
      go_enter Tryd.func5, Tryd.ntmps5
      go_wp2_with fail
      refine (HP.out w).mono ?_
      rintro e w1 ⟨rfl, hw1⟩
      obtain rfl := hw1
      clear HP
      go_wp2_with fail
      refine (awake_any _ HT.out).mono ?_
      rintro e w2 ⟨rfl, hb2⟩
      have HB2 := Lib.hid hb2
      clear hb2
      go_wp2
      go_ret
      exact ⟨rfl, HB2.out⟩
  · have hb : (200 : Int) < s.size := by omega
    have hbel : Below w.heap.size w w := Below.refl _ _
    clear HT
    go_enter Tryd.func5, Tryd.ntmps5
    go_wp2
    go_ret
    exact ⟨rfl, hbel⟩
end Go.Proofs.YtcgfokeglgaffaaDoor
