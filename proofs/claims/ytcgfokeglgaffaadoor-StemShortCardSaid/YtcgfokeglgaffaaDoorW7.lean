/- Walks: step. -/
import Derived.Test.YtcgfokeglgaffaaDoorW6
namespace Go.Proofs.YtcgfokeglgaffaaDoor
open Go.RowKit

theorem suffix_len {w e : W} (h : endsL w e = true) : e.length ≤ w.length := by
  unfold endsL Lib.hasSuffix at h
  exact (List.isSuffixOf_iff_suffix.1 h).length_le
theorem best_le (w : W) : ∀ (l : List Rule) (b : Rule), b.1.length ≤ w.length → (bestL w l b).1.length ≤ w.length
  | [], _, h => h
  | r :: l, b, h => by
    unfold bestL
    refine best_le w l _ ?_
    split
    · rename_i h2
      rw [Bool.and_eq_true] at h2
      exact suffix_len h2.1
    · exact h
theorem best_drop (w : W) (l : List Rule) (b : Rule) (k : Nat) (h : k < l.length) : bestL w (l.drop k) b = bestL w (l.drop (k + 1)) (if endsL w l[k].1 && decide (b.1.length < l[k].1.length) then l[k] else b) := by
  rw [List.drop_eq_getElem_cons h]; rfl

/-- What step tells: the rest of the rules, done. -/
def IsStep (B : Nat) (w0 : World) (r : W × Bool) (called : Bool) (Q : World → World → Prop) (e : Ending) (w' : World) : Prop :=
  e = .returned (.tuple #[.string (S r.1), .bool r.2]) ∧ ((called = false ∧ Below B w0 w') ∨ called = true ∧ ∃ w1, Below B w0 w1 ∧ Q w1 w')

set_option maxHeartbeats 4000000 in
theorem step_any (t : W) (htl : (t.length : Int) ≤ 100000) (l : List Rule) (n : Nat) (hn : n = l.length) (hnb : (n : Int) ≤ 100000) (hll : ∀ r ∈ l, (r.1.length : Int) ≤ 100000 ∧ (r.2.length : Int) ≤ 100000) (A : Option Addr) (c : Nat) (w : World) (hA : RsAt w A l) (g : Nat) (caps : Array Value)
    (eg : ∀ args w, (callFunc g args).run Tryd.prog w = .ok (.enter g args) w) (M : W → W → Bool) (Q : World → World → Prop) (hQ : ∀ w1 w2, Q w1 w2 → ∀ k, w.heap.size ≤ k → k < w1.heap.size → w2.heap[k]? = w1.heap[k]?)
    (hmay : ∀ b, b = bestL t l ([], []) → b.1 ≠ [] → ∀ w1, Below w.heap.size w w1 → Calls Tryd.prog g (#[.string (S (t.take (t.length - b.1.length))), .string (S b.1)] ++ caps) w1 fun e w2 => e = .returned (.bool (M (t.take (t.length - b.1.length)) b.1)) ∧ Q w1 w2) :
    Calls Tryd.prog 16 #[.string (S t), .slice A n c, .func (.func g) #[] caps] w (IsStep w.heap.size w (stepL t l M) (decide ((bestL t l ([], [])).1 ≠ [])) Q) := by
  obtain ⟨b0, hb0⟩ : ∃ b0, b0 = bestL t l ([], []) := ⟨_, rfl⟩
  have hmy := hmay b0 hb0
  have hst : stepL t l M = if b0.1 = [] ∨ M (t.take (t.length - b0.1.length)) b0.1 = false then (t, false) else (t.take (t.length - b0.1.length) ++ b0.2, true) := by rw [hb0]; rfl
  rw [← hb0]
  obtain ⟨res, hres⟩ : ∃ r, r = stepL t l M := ⟨_, rfl⟩
  obtain ⟨cl, hcl⟩ : ∃ cl, cl = decide (b0.1 ≠ []) := ⟨_, rfl⟩
  rw [← hres, ← hcl]
  rw [hst] at hres
  have HRES := Lib.hid hres
  have HCL := Lib.hid hcl
  have hbl := best_le t l ([], []) (by simp)
  rw [← hb0] at hbl
  have hb2 : (b0.2.length : Int) ≤ 100000 := by
    have key : ∀ (l : List Rule) (b : Rule), (∀ r ∈ l, (r.2.length : Int) ≤ 100000) → (b.2.length : Int) ≤ 100000 → ((bestL t l b).2.length : Int) ≤ 100000 := by
      intro l
      induction l with
      | nil => intro b _ h; exact h
      | cons r l ih =>
        intro b h1 h2
        unfold bestL
        refine ih _ (fun x hx => h1 x (by simp [hx])) ?_
        split
        · exact h1 r (by simp)
        · exact h2
    rw [hb0]
    exact key l _ (fun r hr => (hll r hr).2) (by simp)
  have HN := Lib.hid hn
  have HA := Lib.hid hA
  have HQ := Lib.hid hQ
  have HM := Lib.hid hmy
  have HLL := Lib.hid hll
  have HB := Lib.hid (show bestL t (l.drop 0) ([], []) = b0 from hb0.symm)
  have EG := Lib.hid eg
  have hz := S_size t
  clear hn hA hQ hmay hmy hll hb0 hst eg hres hcl
  have hk0 := Blk.new w #[.string (S []), .string (S [])] 40
  have hg0 : Below w.heap.size w (w.alloc (.cells #[.string (S []), .string (S [])] 40)) := (Below.refl _ _).alloc (Nat.le_refl _) _
  have H0 : Hid (Blk (w.alloc (.cells #[.string (S []), .string (S [])] 40)) w.heap.size #[.string (S []), .string (S [])] 40 ∧ Below w.heap.size w (w.alloc (.cells #[.string (S []), .string (S [])] 40))) := Lib.hid ⟨hk0, hg0⟩
  clear hk0 hg0
  go_enter Tryd.func16, Tryd.ntmps16
  go_wp2
  go_loopw [15] (fun iv wr => ∃ (k : Nat) (b : Rule), k ≤ n ∧ iv = .int .i64 k ∧ (b.1.length : Int) ≤ 100000 ∧ Hid (Blk wr w.heap.size #[.string (S b.1), .string (S b.2)] 40 ∧ Below w.heap.size w wr) ∧ Hid (bestL t (l.drop k) b = b0)) (fun iv _ => n - (intOf iv).toNat)
  case atStart => exact ⟨0, ([], []), by omega, rfl, by simp, H0, HB⟩
  case round =>
    clear HB H0
    obtain ⟨k, b, hk, rfl, hb1, HX, HE⟩ := hrel
    obtain ⟨be, bt⟩ := b
    by_cases hlt : k < n
    · have hkl : k < l.length := by rw [← HN.out]; exact hlt
      obtain ⟨g1, hg1, hg2, c1, c2⟩ := (HA.out.grew HX.out.2).get hkl
      subst hg1
      have hE := HE.out
      rw [best_drop t l _ k hkl] at hE
      have hlk := HLL.out _ (List.getElem_mem hkl)
      obtain ⟨⟨re, rt⟩, hr⟩ : ∃ r, r = l[k] := ⟨_, rfl⟩
      rw [← hr] at hE hlk c1 c2
      simp only at hE hlk c1 c2 hb1
      have hz1 := S_size re
      have hz2 := S_size be
      have hkn : (k : Int) < n := by omega
      have hre := hlk.1
      have HE2 := Lib.hid hE
      have fb := HX.out.1.two
      have HSF := Lib.hid (fun w => Suffix_any t re (by omega) w)
      clear hE HE hr hlk
      go_wp2_with fail
      have HR1 := Lib.hid (Blk.new wr #[.string (S re), .string (S rt)] 40)
      have HX1 := Lib.hid (And.intro (HX.out.1.alloc (.cells #[.string (S re), .string (S rt)] 40)) (grow_alloc HX.out.2 (.cells #[.string (S re), .string (S rt)] 40)))
      have hBR : w.heap.size < wr.heap.size := HX.out.1.lt
      clear HX c1 c2 fb
      generalize wr.heap.size = R0 at *
      generalize wr.alloc _ = W1 at *
      refine (HSF.out _).mono ?_
      rintro e w2 ⟨rfl, hw2⟩
      obtain rfl := hw2
      have fb := HX1.out.1.two
      have fr := HR1.out.two
      generalize endsL t re = en at *
      cases en
      · have hst := HE2.out
        simp only [Bool.false_and, Bool.false_eq_true, if_false] at hst
        have HE3 := Lib.hid hst
        clear hst HE2 HSF
        go_wp2
        go_roundw
        case rel => exact ⟨k + 1, (be, bt), by omega, by go_num, hb1, HX1, HE3⟩
        case measure => simp [intOf]; omega
      · by_cases hgt : be.length < re.length
        · have d1 : decide (be.length < re.length) = true := decide_eq_true hgt
          have hst := HE2.out
          rw [d1] at hst
          simp only [Bool.true_and, if_true] at hst
          have HE3 := Lib.hid hst
          have bx := (HX1.out.1.set 0 (.string (S re))).set 1 (.string (S rt))
          have gx := (HX1.out.2.setCell (p := ⟨w.heap.size, 0, none⟩) (Nat.le_refl _) (.string (S re))).setCell (p := ⟨w.heap.size, 1, none⟩) (Nat.le_refl _) (.string (S rt))
          have HX3 := Lib.hid (And.intro bx gx)
          clear hst HE2 HSF bx gx
          go_wp2
          go_roundw
          case rel => exact ⟨k + 1, (re, rt), by omega, by go_num, hre, HX3, HE3⟩
          case measure => simp [intOf]; omega
        · have d1 : decide (be.length < re.length) = false := decide_eq_false hgt
          have hst := HE2.out
          rw [d1] at hst
          simp only [Bool.and_false, Bool.false_eq_true, if_false] at hst
          have HE3 := Lib.hid hst
          clear hst HE2 HSF
          go_wp2
          go_roundw
          case rel => exact ⟨k + 1, (be, bt), by omega, by go_num, hb1, HX1, HE3⟩
          case measure => simp [intOf]; omega
    · have hr : (be, bt) = b0 := by
        have := HE.out
        rw [List.drop_eq_nil_of_le (by rw [← HN.out]; omega)] at this
        exact this
      subst hr
      simp only at hbl hb2 hb1
      have hkn : ¬ (k : Int) < n := by omega
      have fb := HX.out.1.two
      have hz2 := S_size be
      obtain ⟨m, hm⟩ : ∃ m, m = t.length - be.length := ⟨_, rfl⟩
      have hsub : (t.length : Int) - be.length = m := by omega
      have hmt : (m : Int) ≤ (t.length : Int) := by omega
      have hxt : (S t).extract 0 m = S (t.take m) := S_take t m
      have HMY := HM.out
      have hres := HRES.out
      simp only at hres
      rw [← hm] at hres HMY
      have HRES2 := Lib.hid hres
      have HM2 := Lib.hid HMY
      have HXX := Lib.hid HX.out
      clear HE HM HRES HMY hres hbl HX hm
      by_cases he : be = []
      · have e1 : (S be).toList.isEmpty = true := by rw [S_list, he]; rfl
        obtain rfl : res = (t, false) := by rw [HRES2.out, if_pos (Or.inl he)]
        obtain rfl : cl = false := by rw [HCL.out]; simp [he]
        clear he HRES2 HM2 HCL
        go_wp2
        go_ret2
        exact ⟨rfl, Or.inl ⟨rfl, HXX.out.2⟩⟩
      · have e1 : (S be).toList.isEmpty = false := by rw [S_list]; cases be with | nil => exact absurd rfl he | cons => rfl
        obtain rfl : cl = true := by rw [HCL.out]; simp [he]
        have HCALL := Lib.hid (HM2.out he _ HXX.out.2)
        have HNE := Lib.hid he
        have eg := EG.out
        clear HCL HM2 he
        go_wp2_with fail
        refine HCALL.out.mono ?_
        rintro e w2 ⟨rfl, hq⟩
        have bk : Blk w2 w.heap.size #[.string (S be), .string (S bt)] 40 := (HQ.out wr w2 hq _ (Nat.le_refl _) HXX.out.1.lt).trans HXX.out.1
        have fb2 := bk.two
        have HF := Lib.hid (And.intro HXX.out.2 hq)
        have hz3 : (S (t.take m)).size = m := by rw [S_size, List.length_take]; omega
        have hz4 := S_size bt
        have hcat := S_append (t.take m) bt
        generalize M (t.take m) be = mb at *
        clear bk hq fb HCALL eg
        cases mb
        · obtain rfl : res = (t, false) := by rw [HRES2.out, if_pos (Or.inr rfl)]
          clear HRES2 hcat
          go_wp2
          go_ret2
          exact ⟨rfl, Or.inr ⟨rfl, wr, HF.out⟩⟩
        · obtain rfl : res = (t.take m ++ bt, true) := by rw [HRES2.out, if_neg (by simp [HNE.out])]
          clear HRES2
          go_wp2
          go_ret2
          exact ⟨rfl, Or.inr ⟨rfl, wr, HF.out⟩⟩
end Go.Proofs.YtcgfokeglgaffaaDoor
