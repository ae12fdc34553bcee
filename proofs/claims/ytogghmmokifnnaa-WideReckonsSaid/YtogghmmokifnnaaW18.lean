/- Walks: the reference's digits. -/
import Derived.Test.YtogghmmokifnnaaW14
namespace Go.Proofs.Ytogghmmokifnnaa
open Go.RowKit

def strLen : Value → Nat
  | .string s => s.size
  | _ => 0
/-- A row that is divided by ten from its upper end, k figures not yet reached. -/
def divTo (v : Int) (k j : Nat) : Int := if j < k then figZ v j else figZ (v / 10) j
theorem div_swap (v : Int) (k : Nat) : v / 10 / 65536 ^ k = v / 65536 ^ k / 10 := by
  have hp : (0 : Int) ≤ 65536 ^ k := Int.le_of_lt (Int.pow_pos (by decide))
  rw [Int.ediv_ediv_of_nonneg (by decide), Int.ediv_ediv_of_nonneg hp, Int.mul_comm]
theorem div_step (v : Int) (k : Nat) (hv : 0 ≤ v) :
    (65536 * (v / 65536 ^ (k + 1) % 10) + figZ v k) / 10 = figZ (v / 10) k ∧ (65536 * (v / 65536 ^ (k + 1) % 10) + figZ v k) % 10 = v / 65536 ^ k % 10 ∧
    (v / 10 / 65536 ^ k = 0 ↔ v / 10 / 65536 ^ (k + 1) = 0 ∧ figZ (v / 10) k = 0) ∧ 0 ≤ v / 65536 ^ (k + 1) % 10 ∧ v / 65536 ^ (k + 1) % 10 < 10 ∧ 0 ≤ figZ v k ∧ figZ v k < 65536 := by
  have hp : (0 : Int) ≤ 65536 ^ k := Int.le_of_lt (Int.pow_pos (by decide))
  have h0 : 0 ≤ v / 65536 ^ k := Int.ediv_nonneg hv hp
  have e1 := fig_next v k
  have e2 := fig_next (v / 10) k
  unfold figZ
  rw [← e1, ← e2, div_swap v k]
  generalize v / 65536 ^ k = u at *
  omega

theorem str_size (l : List Nat) : (str l).size = l.length := by simp [str, ByteArray.size]
theorem str_append (a b : List Nat) : str (a ++ b) = str a ++ str b := by
  apply ByteArray.ext
  simp [str, ByteArray.data_append]
theorem trim_at (m t : Nat) (ht : t ≤ 39) (h0 : m / 10 ^ (t + 1) = 0) (h1 : t = 0 ∨ ¬ m / 10 ^ t = 0) : trim (digL m) = (digL m).drop (39 - t) := by
  have hlt : m < 10 ^ (t + 1) := by
    rcases Nat.lt_or_ge m (10 ^ (t + 1)) with h | h
    · exact h
    · have := Nat.div_pos h (Nat.pow_pos (by decide : 0 < 10)); omega
  have go : ∀ f, f ≤ 39 - t → trim (digL m) = trim ((digL m).drop f) := by
    intro f
    induction f with
    | zero => intro _; rfl
    | succ f ih =>
      intro hf
      rw [ih (by omega)]
      refine trim_step _ f (by rw [digL_length]; omega) ?_
      rw [digL_get m f (by omega)]
      have hz : m / 10 ^ (39 - f) = 0 := Nat.div_eq_of_lt (Nat.lt_of_lt_of_le hlt (Nat.pow_le_pow_right (by decide) (by omega)))
      rw [hz]
  rw [go (39 - t) (Nat.le_refl _)]
  rcases Nat.eq_zero_or_pos t with h | h
  · subst h
    exact trim_last _ 39 (by rw [digL_length])
  · refine trim_stop _ _ (by rw [digL_length]; omega) ?_
    rw [digL_get m _ (by omega), show 39 - (39 - t) = t by omega]
    have h2 : m / 10 ^ t / 10 = 0 := by rw [Nat.div_div_eq_div_mul, ← Nat.pow_succ]; exact h0
    have h3 : ¬ m / 10 ^ t = 0 := h1.resolve_left (by omega)
    generalize m / 10 ^ t = u at *
    omega

set_option maxRecDepth 20000 in
set_option maxHeartbeats 16000000 in
theorem digits_any (m : Nat) (hm : m < 340282366920938463463374607431768211456) (w : World) :
    Calls Try.prog 36 #[.agg (rowC (figZ m))] w fun e w' => e = .returned (.string (str (trim (digL m)))) ∧ Below w.heap.size w w' := by
  obtain ⟨w0, hw0, p0, g0, z0⟩ := boxes1 w (rowC (figZ m)) 32
  have B0 := Lib.hid (And.intro p0 g0)
  have hpow : m / 10 ^ 39 = 0 := by omega
  have HPOW := Lib.hid hpow
  rw [rowC_eq] at hw0
  have HM0 := Lib.hid hm
  clear p0 g0 z0 hpow hm
  rw [rowC_eq]
  go_enter Try.func36, Try.ntmps36
  go_wp2
  go_loopw [3] (fun s wr => ∃ (t : Nat) (sb : ByteArray), t ≤ 39 ∧ s = .string sb ∧ Hid (sb = str ((digL m).drop (40 - t))) ∧ Hid (t = 0 ∨ ¬ m / 10 ^ t = 0) ∧ Hid (Blk wr w.heap.size (rowC (figZ ((m / 10 ^ t : Nat) : Int))) 32 ∧ Below w.heap.size w wr)) (fun s _ => 40 - strLen s)
  case atStart => exact ⟨0, ⟨#[]⟩, by omega, rfl, Lib.hid (by rw [List.drop_eq_nil_of_le (by rw [digL_length]; omega)]; rfl), Lib.hid (.inl rfl), by rw [Nat.pow_zero, Nat.div_one]; exact B0⟩
  case round =>
    obtain ⟨t, sb, ht, rfl, HS, HT, B⟩ := hrel
    clear B0 hw0
    obtain ⟨v, hv⟩ : ∃ v : Nat, m / 10 ^ t = v := ⟨_, rfl⟩
    rw [hv] at B
    have HV := Lib.hid hv
    clear hv
    go_wp2
    go_loopw [4, 5, 6] (fun r mo i wr => ∃ (k : Nat) (rr : Int) (mm : Bool), k ≤ 8 ∧ i = .int .i64 ((k : Int) - 1) ∧ r = .int .i64 rr ∧ mo = .bool mm ∧ Hid (rr = (v : Int) / 65536 ^ k % 10 ∧ 0 ≤ rr ∧ rr < 10) ∧ Hid (mm = !decide ((v : Int) / 10 / 65536 ^ k = 0)) ∧ Hid (Blk wr w.heap.size (rowC (divTo v k)) 32 ∧ Below w.heap.size w wr)) (fun _ _ i _ => (intOf i + 1).toNat)
    case atStart =>
      have hvm : v < 340282366920938463463374607431768211456 := by
        have h1 := HV.out
        have h2 := HM0.out
        have h3 := Nat.div_le_self m (10 ^ t)
        omega
      have e8 : (65536 : Int) ^ 8 = 340282366920938463463374607431768211456 := rfl
      have hv8 : (v : Int) / 65536 ^ 8 = 0 := by rw [e8]; omega
      have hv9 : (v : Int) / 10 / 65536 ^ 8 = 0 := by rw [e8]; omega
      have hrow : rowC (divTo v 8) = rowC (figZ v) := rowC_congr fun j hj => if_pos hj
      rw [← hrow] at B
      exact ⟨8, 0, false, by omega, val_int (by omega), rfl, rfl, Lib.hid ⟨by rw [hv8]; rfl, by omega, by omega⟩, Lib.hid (by rw [decide_eq_true hv9]; rfl), B⟩
    case round =>
      obtain ⟨k, rr, mm, hk, rfl, rfl, rfl, HR, HM, B2⟩ := hrel
      clear B
      cases k with
      | zero =>
        have hm0 : ((0 : Nat) : Int) - 1 = -1 := by omega
        rw [hm0]
        obtain ⟨hr, hr0, hr1⟩ := HR.out
        rw [Int.pow_zero, Int.ediv_one] at hr
        have hmm := HM.out
        rw [Int.pow_zero, Int.ediv_one] at hmm
        obtain ⟨r, rfl⟩ : ∃ r : Nat, rr = r := ⟨rr.toNat, by omega⟩
        have hr9 : r < 10 := by omega
        have hrv : r = v % 10 := by omega
        have hrow : rowC (divTo v 0) = rowC (figZ ((v / 10 : Nat) : Int)) := rowC_congr fun j _ => by
          unfold divTo; rw [if_neg (by omega)]; rfl
        have hB := B2.out
        rw [hrow] at hB
        have hv10 : v / 10 = m / 10 ^ (t + 1) := by rw [← HV.out, Nat.div_div_eq_div_mul, ← Nat.pow_succ]
        rw [hv10] at hB
        have hnew : str [48 + r] ++ sb = str ((digL m).drop (40 - (t + 1))) := by
          rw [HS.out, ← str_append]
          congr 1
          rw [show 40 - t = 40 - (t + 1) + 1 by omega, List.drop_eq_getElem_cons (i := 40 - (t + 1)) (by rw [digL_length]; omega), digL_get m _ (by omega), show 39 - (40 - (t + 1)) = t by omega, HV.out, hrv]
          rfl
        have hsbs : sb.size = t := by
          rw [HS.out, str_size, List.length_drop, digL_length]; omega
        have hsl : ∀ w, (Instr.slice 9 (.string ⟨#[48, 49, 50, 51, 52, 53, 54, 55, 56, 57]⟩) (some (.int .i64 (r : Int))) (some (.int .i64 ((r : Int) + 1))) none).run Try.prog w = .ok (.string (str [48 + r])) w := by
          match r, hr9 with
          | 0, _ => exact fun _ => by kernel_rfl
          | 1, _ => exact fun _ => by kernel_rfl
          | 2, _ => exact fun _ => by kernel_rfl
          | 3, _ => exact fun _ => by kernel_rfl
          | 4, _ => exact fun _ => by kernel_rfl
          | 5, _ => exact fun _ => by kernel_rfl
          | 6, _ => exact fun _ => by kernel_rfl
          | 7, _ => exact fun _ => by kernel_rfl
          | 8, _ => exact fun _ => by kernel_rfl
          | 9, _ => exact fun _ => by kernel_rfl
        have hcs : (str [48 + r]).size = 1 := str_size _
        have HNEW := Lib.hid hnew
        have HB := Lib.hid hB
        have HRES : Hid (mm = false → trim (digL m) = (digL m).drop (39 - t)) := Lib.hid (fun e => by
          rw [e] at hmm
          have h0 : (v : Int) / 10 = 0 := by
            by_cases h : (v : Int) / 10 = 0
            · exact h
            · rw [decide_eq_false h] at hmm; cases hmm
          exact trim_at m t ht (by rw [← hv10]; omega) (by have := HT.out; exact this))
        have HGO : Hid (mm = true → t + 1 ≤ 39 ∧ ¬ m / 10 ^ (t + 1) = 0) := Lib.hid (fun e => by
          rw [e] at hmm
          have h0 : ¬ (v : Int) / 10 = 0 := fun h => by rw [decide_eq_true h] at hmm; cases hmm
          have h1 : ¬ v / 10 = 0 := by omega
          refine ⟨?_, by rw [← hv10]; exact h1⟩
          rcases Nat.lt_or_ge t 39 with h | h
          · omega
          · have h39 : t = 39 := by omega
            subst h39
            have := HPOW.out
            rw [HV.out] at this
            omega)
        generalize hc : str [48 + r] = c at *
        have hsz : (c ++ sb).size = 1 + t := by rw [ByteArray.size_append, hcs, hsbs]
        clear hr hmm hnew hB hrow HR HM B2 hrv hv10 hr0 hm0
        cases mm
        · have HR2 := Lib.hid (HRES.out rfl)
          have HF : Hid (c ++ sb = str (trim (digL m))) := Lib.hid (by rw [HNEW.out, HR2.out, show 40 - (t + 1) = 39 - t by omega])
          clear HR2
          go_wp2
          go_ret
          exact ⟨congrArg (fun x => Ending.returned (Value.string x)) HF.out, HB.out.2⟩
        · obtain ⟨g1, g2⟩ := HGO.out rfl
          have HT2 := Lib.hid (Or.inr g2 : t + 1 = 0 ∨ ¬ m / 10 ^ (t + 1) = 0)
          clear g2
          go_wp2
          exact ⟨⟨t + 1, _, g1, rfl, HNEW, HT2, HB⟩, by show 40 - (c ++ sb).size < 40 - sb.size; rw [hsz, hsbs]; omega⟩
      | succ k =>
        have hmk : ((k + 1 : Nat) : Int) - 1 = (k : Int) := by omega
        rw [hmk]
        have hlt : k < 8 := by omega
        have hlti : (k : Int) < 8 := by omega
        obtain ⟨s1, s2, s3, s4, s5, s6, s7⟩ := div_step v k (by omega)
        have hrow : (rowC (divTo v (k + 1))).setIfInBounds k (.int .i64 (figZ ((v : Int) / 10) k)) = rowC (divTo v k) := rowC_put _ _ _ _ fun j _ => by
          unfold divTo
          by_cases hjk : j = k
          · subst hjk; rw [if_pos rfl, if_neg (by omega)]
          · rw [if_neg hjk]
            by_cases hj : j < k
            · rw [if_pos (show j < k + 1 by omega), if_pos hj]
            · rw [if_neg (show ¬ j < k + 1 by omega), if_neg hj]
        rw [← HR.out.1] at s1 s2
        have hr0 := HR.out.2.1
        have hr1 := HR.out.2.2
        have ca := B2.out.1.at k (rowC_get _ k hlt)
        have hfk : divTo v (k + 1) k = figZ v k := if_pos (by omega)
        rw [hfk] at ca
        have hB := B2.out.1.set k (.int .i64 (figZ ((v : Int) / 10) k))
        rw [hrow] at hB
        have hB2 := B2.out.2.setCell (p := ⟨w.heap.size, k, none⟩) (Nat.le_refl _) (.int .i64 (figZ ((v : Int) / 10) k))
        have cn := (hB.at k (rowC_get _ k hlt)).1
        have hfn : divTo v k k = figZ ((v : Int) / 10) k := if_neg (by omega)
        rw [hfn] at cn
        generalize figZ v k = fk at *
        generalize figZ ((v : Int) / 10) k = gk at *
        obtain ⟨n, hn⟩ : ∃ n, 65536 * rr + fk = n := ⟨_, rfl⟩
        rw [hn] at s1 s2
        have hn0 : 0 ≤ n ∧ n < 655360 := by omega
        have w1 : IntKind.i64.wrap (65536 * rr) = 65536 * rr := by rw [IntKind.wrap_i64]; omega
        have w2 : IntKind.i64.wrap n = n := by rw [IntKind.wrap_i64]; omega
        have t1 : n.tdiv 10 = gk := by rw [Int.tdiv_eq_ediv_of_nonneg hn0.1]; exact s1
        have t1' : n / 10 = gk := s1
        obtain ⟨r2, hr2⟩ : ∃ r2, n % 10 = r2 := ⟨_, rfl⟩
        have t2 : n.tmod 10 = r2 := by rw [Int.tmod_eq_emod_of_nonneg hn0.1]; exact hr2
        have hr20 : 0 ≤ r2 ∧ r2 < 10 := by omega
        have hgk : 0 ≤ gk ∧ gk < 65536 := by omega
        have w3 : IntKind.i64.wrap gk = gk := by rw [IntKind.wrap_i64]; omega
        have w4 : IntKind.i64.wrap r2 = r2 := by rw [IntKind.wrap_i64]; omega
        have HR2 : Hid (r2 = (v : Int) / 65536 ^ k % 10 ∧ 0 ≤ r2 ∧ r2 < 10) := Lib.hid ⟨by rw [← hr2]; exact s2, hr20⟩
        have HB2 := Lib.hid (And.intro hB hB2)
        have HM2 : Hid ((mm || !decide (gk = 0)) = !decide ((v : Int) / 10 / 65536 ^ k = 0)) := Lib.hid (by
          rw [HM.out]
          by_cases e1 : (v : Int) / 10 / 65536 ^ (k + 1) = 0 <;> by_cases e2 : gk = 0
          · rw [decide_eq_true e1, decide_eq_true e2, decide_eq_true (s3.2 ⟨e1, e2⟩)]; rfl
          · rw [decide_eq_true e1, decide_eq_false e2, decide_eq_false (fun h => e2 (s3.1 h).2)]; rfl
          · rw [decide_eq_false e1, decide_eq_true e2, decide_eq_false (fun h => e1 (s3.1 h).1)]; rfl
          · rw [decide_eq_false e1, decide_eq_false e2, decide_eq_false (fun h => e1 (s3.1 h).1)]; rfl)
        clear s1 s2 s3 s4 s5 s6 s7 hrow hB hB2 HR HM B2 hfk hfn hr2 hmk
        cases mm
        · by_cases hz : gk = 0
          · subst hz
            have HM3 : Hid (false = !decide ((v : Int) / 10 / 65536 ^ k = 0)) := Lib.hid (by have h := HM2.out; rw [decide_eq_true rfl] at h; exact h)
            clear HM2
            go_wp2
            exact ⟨⟨k, r2, false, by omega, rfl, rfl, rfl, HR2, HM3, HB2⟩, by simp only [intOf]; omega⟩
          · have HM3 : Hid (true = !decide ((v : Int) / 10 / 65536 ^ k = 0)) := Lib.hid (by have h := HM2.out; rw [decide_eq_false hz] at h; exact h)
            clear HM2
            go_wp2
            exact ⟨⟨k, r2, true, by omega, rfl, rfl, val_bool (by first | rfl | simp [hz]), HR2, HM3, HB2⟩, by simp only [intOf]; omega⟩
        · have HM3 : Hid (true = !decide ((v : Int) / 10 / 65536 ^ k = 0)) := Lib.hid (by have h := HM2.out; exact h)
          clear HM2
          go_wp2
          exact ⟨⟨k, r2, true, by omega, rfl, rfl, rfl, HR2, HM3, HB2⟩, by simp only [intOf]; omega⟩
end Go.Proofs.Ytogghmmokifnnaa
