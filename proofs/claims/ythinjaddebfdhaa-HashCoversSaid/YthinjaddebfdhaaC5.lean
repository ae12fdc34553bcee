/- Walks: holds, Holds, HashHolds. Printed by mk_c5.py. -/
import Derived.Test.YthinjaddebfdhaaC4
namespace Go.Proofs.Ythinjaddebfdhaa
open Go.RowKit
set_option maxRecDepth 20000

theorem holds_any (a b c e x y : Int) (w : World) : Calls Try.prog 33 #[.agg #[.int .i64 a, .int .i64 b, .int .i64 c, .int .i64 e], .agg #[.int .i64 x, .int .i64 y]] w fun r w' => r = .returned (.bool (holdsB a b c e x y)) ∧ Below w.heap.size w w' := by
  have k1 := within_any x a c
  have k2 := within_any y b e
  unfold holdsB
  generalize inB x a c = b1 at *
  generalize inB y b e = b2 at *
  have K1 := Lib.hid k1
  have K2 := Lib.hid k2
  clear k1 k2
  cases b1
  · go_enter Try.func33, Try.ntmps33
    go_wp2_with fail
    refine (K1.out _).mono ?_
    rintro e w1 ⟨rfl, rfl⟩
    go_wp2
    go_ret
    exact ⟨rfl, by go_grown⟩
  · go_enter Try.func33, Try.ntmps33
    go_wp2_with fail
    refine (K1.out _).mono ?_
    rintro e w1 ⟨rfl, rfl⟩
    go_wp2_with fail
    refine (K2.out _).mono ?_
    rintro e w1 ⟨rfl, rfl⟩
    go_wp2
    go_ret
    exact ⟨rfl, by go_grown⟩

set_option maxHeartbeats 2000000 in
theorem Holds_road (a b c e x y : Int) (p q s : Bool) (h1 : mayR a b c e = p) (h2 : mayB x y = q) (h3 : holdsB a b c e x y = s) (w : World) :
    Calls Try.prog 17 #[.agg #[.int .i64 a, .int .i64 b, .int .i64 c, .int .i64 e], .agg #[.int .i64 x, .int .i64 y]] w fun r w' => r = .returned (.bool (p && q && s)) ∧ Below w.heap.size w w' := by
  have k1 := fun w => MayRect_any a b c e w
  have k2 := fun w => may_any x y w
  have k3 := fun w => holds_any a b c e x y w
  rw [h1] at k1
  rw [h2] at k2
  rw [h3] at k3
  have K1 := Lib.hid k1
  have K2 := Lib.hid k2
  have K3 := Lib.hid k3
  have b1 := (Blk.new w #[.int .i64 a, .int .i64 b, .int .i64 c, .int .i64 e] 34).alloc (.cells #[.int .i64 x, .int .i64 y] 23)
  have b2 := Blk.new' (b := w.heap.size + 1) (w.alloc (.cells #[.int .i64 a, .int .i64 b, .int .i64 c, .int .i64 e] 34)) #[.int .i64 x, .int .i64 y] 23 (by simp)
  have b3 := grow_alloc (grow_alloc (Below.refl w.heap.size w) (.cells #[.int .i64 a, .int .i64 b, .int .i64 c, .int .i64 e] 34)) (.cells #[.int .i64 x, .int .i64 y] 23)
  have HB := Lib.hid (And.intro b1 (And.intro b2 b3))
  clear k1 k2 k3 h1 h2 h3 b1 b2 b3
  have c1 := HB.out.1.four
  cases p
  · go_enter Try.func17, Try.ntmps17
    go_wp2_with fail
    refine (K1.out _).mono ?_
    rintro r w1 ⟨rfl, hb⟩
    have G := Lib.hid (grow HB.out.2.2 hb)
    clear hb
    go_wp2
    go_ret
    exact ⟨rfl, G.out⟩
  · cases q
    · go_enter Try.func17, Try.ntmps17
      go_wp2_with fail
      refine (K1.out _).mono ?_
      rintro r w1 ⟨rfl, hb⟩
      have G := Lib.hid (grow HB.out.2.2 hb)
      have c2 := (HB.out.2.1.grew hb).two
      clear hb c1
      go_wp2_with fail
      refine (K2.out _).mono ?_
      rintro r w2 ⟨rfl, hb⟩
      have G2 := Lib.hid (grow G.out hb)
      clear hb c2
      go_wp2
      go_ret
      exact ⟨rfl, G2.out⟩
    · go_enter Try.func17, Try.ntmps17
      go_wp2_with fail
      refine (K1.out _).mono ?_
      rintro r w1 ⟨rfl, hb⟩
      have G := Lib.hid (grow HB.out.2.2 hb)
      have k1' := HB.out.1.grew hb
      have k2' := HB.out.2.1.grew hb
      have c2 := k2'.two
      have HK := Lib.hid (And.intro k1' k2')
      clear hb c1 k1' k2'
      go_wp2_with fail
      refine (K2.out _).mono ?_
      rintro r w2 ⟨rfl, hb⟩
      have G2 := Lib.hid (grow G.out hb)
      have c3 := (HK.out.1.grew hb).four
      have c4 := (HK.out.2.grew hb).two
      clear hb c2
      go_wp2_with fail
      refine (K3.out _).mono ?_
      rintro r w3 ⟨rfl, hb⟩
      have G3 := Lib.hid (grow G2.out hb)
      clear hb c3 c4
      go_wp2
      go_ret
      exact ⟨rfl, G3.out⟩
theorem Holds_any (a b c e x y : Int) (w : World) : Calls Try.prog 17 #[.agg #[.int .i64 a, .int .i64 b, .int .i64 c, .int .i64 e], .agg #[.int .i64 x, .int .i64 y]] w fun r w' => r = .returned (.bool (mayR a b c e && mayB x y && holdsB a b c e x y)) ∧ Below w.heap.size w w' :=
  Holds_road a b c e x y _ _ _ rfl rfl rfl w

/-- In how many of these ranges a number is. -/
def cnt (may : Bool) (n : Nat) (l : List M.Rg) : Nat := if may then l.countP (fun r => decide (r.1 ≤ n ∧ n ≤ r.2)) else 0
theorem cnt_snoc (may : Bool) (n : Nat) (l : List M.Rg) (r : M.Rg) : cnt may n (l ++ [r]) = cnt may n l + if may && decide (r.1 ≤ n ∧ n ≤ r.2) then 1 else 0 := by
  unfold cnt
  cases may
  · rfl
  · simp [List.countP_append, List.countP_cons]
theorem cnt_le (may : Bool) (n : Nat) (l : List M.Rg) : cnt may n l ≤ l.length := by
  unfold cnt
  split
  · exact List.countP_le_length
  · omega

set_option maxHeartbeats 4000000 in
theorem HashHolds_road (a b c e x y : Int) (m : Nat) (hm : (m : Int) ≤ 255) (L : List M.Rg) (N : Nat) (may hol : Bool)
    (k1 : ∀ w, Calls Try.prog 14 #[.agg #[.int .i64 a, .int .i64 b, .int .i64 c, .int .i64 e], .int .i64 ((m : Int) % 64 + 1)] w fun r w' => ∃ v, r = .returned v ∧ OwnR 40 w' w.heap.size v L ∧ Below w.heap.size w w')
    (k2 : ∀ w, Calls Try.prog 16 #[.agg #[.int .i64 a, .int .i64 b, .int .i64 c, .int .i64 e]] w fun r w' => r = .returned (.bool true) ∧ Below w.heap.size w w')
    (k3 : ∀ w, Calls Try.prog 8 #[.agg #[.int .i64 x, .int .i64 y]] w fun r w' => r = .returned (.tuple #[.int .u64 N, .bool may]) ∧ Below w.heap.size w w')
    (k4 : ∀ w, Calls Try.prog 17 #[.agg #[.int .i64 a, .int .i64 b, .int .i64 c, .int .i64 e], .agg #[.int .i64 x, .int .i64 y]] w fun r w' => r = .returned (.bool hol) ∧ Below w.heap.size w w')
    (l1 : 1 ≤ L.length) (l2 : (L.length : Int) ≤ (m : Int) % 64 + 1) (low : ∀ k (h : k < L.length), L[k].1 ≤ L[k].2) (gap : ∀ k (h : k + 1 < L.length), L[k].2 + 1 < L[k + 1].1)
    (bnd : ∀ k (h : k < L.length), (L[k].2 : Int) ≤ 18446744073709551615) (c1 : cnt may N L ≤ 1) (c2 : hol = true → cnt may N L = 1) (w : World) :
    Calls Try.prog 7 #[.agg #[.int .i64 a, .int .i64 b, .int .i64 c, .int .i64 e], .agg #[.int .i64 x, .int .i64 y], .int .u8 m] w fun r w' => r = .returned (.bool true) ∧ Below w.heap.size w w' := by
  have K1 := Lib.hid k1
  have K2 := Lib.hid k2
  have K3 := Lib.hid k3
  have K4 := Lib.hid k4
  have HAW := Lib.hid awake_any
  have LOW := Lib.hid low
  have GAP := Lib.hid gap
  have BND := Lib.hid bnd
  have HC1 := Lib.hid c1
  have HC2 := Lib.hid c2
  have b1 := (Blk.new w #[.int .i64 a, .int .i64 b, .int .i64 c, .int .i64 e] 34).alloc (.cells #[.int .i64 x, .int .i64 y] 23)
  have b2 := Blk.new' (b := w.heap.size + 1) (w.alloc (.cells #[.int .i64 a, .int .i64 b, .int .i64 c, .int .i64 e] 34)) #[.int .i64 x, .int .i64 y] 23 (by simp)
  have b3 := grow_alloc (grow_alloc (Below.refl w.heap.size w) (.cells #[.int .i64 a, .int .i64 b, .int .i64 c, .int .i64 e] 34)) (.cells #[.int .i64 x, .int .i64 y] 23)
  have HB := Lib.hid (And.intro b1 (And.intro b2 b3))
  have m0 : (0 : Int) ≤ m := by omega
  have m1 : (m : Int) % 64 + 1 ≤ 64 := by omega
  obtain ⟨n, hn⟩ : ∃ n, n = L.length := ⟨_, rfl⟩
  have n1 : (1 : Int) ≤ n := by omega
  have n2 : (n : Int) ≤ (m : Int) % 64 + 1 := by omega
  have n3 : decide (((m : Int) % 64 + 1) < (n : Int)) = false := by simp; omega
  have n4 : ((n : Int) == 0) = false := by simp; omega
  have HN := Lib.hid hn
  have t1 := HB.out.1.four
  clear k1 k2 k3 k4 low gap bnd c1 c2 b1 b2 b3 hn l1 l2
  go_enter Try.func7, Try.ntmps7
  go_wp2_with fail
  refine (K1.out _).mono ?_
  rintro r w1 ⟨v, rfl, ho, hb⟩
  have HB1 := Lib.hid (And.intro (HB.out.1.grew hb) (And.intro (HB.out.2.1.grew hb) (grow HB.out.2.2 hb)))
  obtain ⟨g, cc, rfl, hg⟩ : ∃ g cc, v = .slice (some ⟨g, 0, none⟩) n cc ∧ g < w1.heap.size := by
    rcases ho.form with ⟨_, h0⟩ | ⟨g, cc, h0, _, h1⟩
    · have := HN.out; rw [h0] at this; simp at this; omega
    · exact ⟨g, cc, by rw [HN.out]; exact h0, h1⟩
  have HO1 := Lib.hid ho
  clear hb t1 ho HB
  have t1 := HB1.out.1.four
  go_wp2_with fail
  refine (K2.out _).mono ?_
  rintro r w2 ⟨rfl, hb⟩
  have HB2 := Lib.hid (And.intro (HB1.out.1.grew hb) (And.intro (HB1.out.2.1.grew hb) (grow HB1.out.2.2 hb)))
  have HO2 := Lib.hid (HO1.out.below hb)
  have hg2 : g < w2.heap.size := Nat.lt_of_lt_of_le hg hb.size
  clear hb t1 HB1 HO1 hg
  have t1 := HB2.out.2.1.two
  go_wp2_with fail
  refine (K3.out _).mono ?_
  rintro r w3 ⟨rfl, hb⟩
  have HB3 := Lib.hid (And.intro (HB2.out.1.grew hb) (And.intro (HB2.out.2.1.grew hb) (grow HB2.out.2.2 hb)))
  have HO3 := Lib.hid (HO2.out.below hb)
  clear hb t1 HB2 HO2 hg2
  have HGET : Hid (∀ k (hk : k < L.length), w3.cell? ⟨g, k * 2, none⟩ = some (.int .u64 (L[k].1 : Nat)) ∧ w3.cell? ⟨g, k * 2 + 1, none⟩ = some (.int .u64 (L[k].2 : Nat))) := Lib.hid (fun k hk => by
    have h1 := HO3.out
    rw [HN.out] at h1
    exact ⟨(h1.get hk).1, (h1.get hk).2.1⟩)
  go_wp2_with fail
  go_loopw [9, 12] (fun vi i wr => ∃ k : Nat, i = .int .i64 k ∧ vi = .int .i64 (cnt may N (L.take k) : Nat) ∧ k ≤ n ∧ ∃ q, wr = w3.drewN q) (fun _ i _ => n - (intOf i).toNat)
  case atStart => exact ⟨0, rfl, by simp [cnt], by omega, 0, rfl⟩
  case round =>
    obtain ⟨k, rfl, rfl, hk, q, rfl⟩ := hrel
    by_cases hlt : k < n
    · have hkl : k < L.length := by rw [← HN.out]; exact hlt
      obtain ⟨⟨lk, hi⟩, hr⟩ : ∃ r, r = L[k] := ⟨_, rfl⟩
      have hcc := HGET.out k hkl
      have hlw := LOW.out k hkl
      have hbd := BND.out k hkl
      have HNX := Lib.hid (show cnt may N (L.take (k + 1)) = cnt may N (L.take k) + if may && decide (lk ≤ N ∧ N ≤ hi) then 1 else 0 from by
        rw [List.take_succ_eq_append_getElem hkl, cnt_snoc, ← hr])
      rw [← hr] at hcc hlw hbd
      obtain ⟨x1, x2⟩ := hcc
      have x3 : (w3.drewN q).cell? ⟨g, k * 2, none⟩ = some (.int .u64 (lk : Nat)) := x1
      have x4 : (w3.drewN q).cell? ⟨g, k * 2 + 1, none⟩ = some (.int .u64 (hi : Nat)) := x2
      have hlw' : lk ≤ hi := hlw
      have d1 : decide (hi < lk) = false := by simp; omega
      have d1i : decide ((hi : Int) < (lk : Int)) = false := by simp; omega
      have hcb : (cnt may N (L.take k) : Int) ≤ 64 := by
        have h1 := cnt_le may N (L.take k)
        have h2 : (L.take k).length ≤ k := List.length_take_le _ _
        omega
      obtain ⟨ct, hct⟩ : ∃ ct, ct = cnt may N (L.take k) := ⟨_, rfl⟩
      have HCT := Lib.hid hct
      rw [← hct] at hcb ⊢
      have ct0 : (0 : Int) ≤ ct := by omega
      clear hct x3 x4 hlw hlw'
      have x3 : w3.cell? ⟨g, k * 2, none⟩ = some (.int .u64 (lk : Nat)) := x1
      have x4 : w3.cell? ⟨g, k * 2 + 1, none⟩ = some (.int .u64 (hi : Nat)) := x2
      clear x1 x2
      have hnext : Hid (∀ q2, ∃ k' : Nat, Value.int .i64 ((k : Int) + 1) = .int .i64 k' ∧ (.int .i64 ((ct + if may && decide (lk ≤ N ∧ N ≤ hi) then 1 else 0 : Nat) : Int) : Value) = .int .i64 (cnt may N (L.take k') : Nat) ∧ k' ≤ n ∧ ∃ q, w3.drewN q2 = w3.drewN q) :=
        Lib.hid (fun q2 => ⟨k + 1, by go_num, by rw [HNX.out, HCT.out], by omega, q2, rfl⟩)
      have hyes : may = true → lk ≤ N → N ≤ hi → Hid (∀ q2, ∃ k' : Nat, Value.int .i64 ((k : Int) + 1) = .int .i64 k' ∧ (.int .i64 ((ct : Int) + 1) : Value) = .int .i64 (cnt may N (L.take k') : Nat) ∧ k' ≤ n ∧ ∃ q, w3.drewN q2 = w3.drewN q) :=
        fun h1 h2 h3 => Lib.hid (fun q2 => ⟨k + 1, by go_num, by rw [HNX.out, ← HCT.out, h1, decide_eq_true (And.intro h2 h3)]; go_num, by omega, q2, rfl⟩)
      have hno : (may = false ∨ ¬ lk ≤ N ∨ ¬ N ≤ hi) → Hid (∀ q2, ∃ k' : Nat, Value.int .i64 ((k : Int) + 1) = .int .i64 k' ∧ (.int .i64 (ct : Int) : Value) = .int .i64 (cnt may N (L.take k') : Nat) ∧ k' ≤ n ∧ ∃ q, w3.drewN q2 = w3.drewN q) :=
        fun h1 => Lib.hid (fun q2 => ⟨k + 1, by go_num, by
          rw [HNX.out, ← HCT.out]
          have : (may && decide (lk ≤ N ∧ N ≤ hi)) = false := by
            rcases h1 with h1 | h1 | h1
            · rw [h1]; rfl
            · rw [decide_eq_false (by omega)]; simp
            · rw [decide_eq_false (by omega)]; simp
          rw [this]; rfl, by omega, q2, rfl⟩)
      have HYES := Lib.hid hyes
      have HNO := Lib.hid hno
      clear hnext hyes hno
      have hg1 : (k : Int) < (n : Int) := by omega
      by_cases k0 : k = 0
      · have d2 : decide ((0 : Int) < (k : Int)) = false := by simp; omega
        have d2n : decide (0 < k) = false := by simp; omega
        clear k0
        go_wp2_with fail
        go_quiet (fail)
        cases may
        · have HZ := HNO.out (.inl rfl)
          go_wp2
          go_roundw
          case rel => exact HZ.out _
          case measure => simp [intOf]; omega
        · by_cases e1 : lk ≤ N
          · by_cases e2 : N ≤ hi
            · have HZ := HYES.out rfl e1 e2
              have f1 : decide ((lk : Int) ≤ (N : Int)) = true := by simp; omega
              have f2 : decide ((N : Int) ≤ (hi : Int)) = true := by simp; omega
              go_wp2
              go_roundw
              case rel => exact HZ.out _
              case measure => simp [intOf]; omega
            · have HZ := HNO.out (.inr (.inr e2))
              have f1 : decide ((lk : Int) ≤ (N : Int)) = true := by simp; omega
              have f2 : decide ((N : Int) ≤ (hi : Int)) = false := by simp; omega
              go_wp2
              go_roundw
              case rel => exact HZ.out _
              case measure => simp [intOf]; omega
          · have HZ := HNO.out (.inr (.inl e1))
            have f1 : decide ((lk : Int) ≤ (N : Int)) = false := by simp; omega
            go_wp2
            go_roundw
            case rel => exact HZ.out _
            case measure => simp [intOf]; omega
      · obtain ⟨j, rfl⟩ : ∃ j, k = j + 1 := ⟨k - 1, by omega⟩
        obtain ⟨⟨lj, hj⟩, hrj⟩ : ∃ r, r = L[j] := ⟨_, rfl⟩
        have hcj := (HGET.out j (by omega)).2
        have hgp := GAP.out j hkl
        have hbj := BND.out j (by omega)
        rw [← hrj] at hcj hbj
        rw [← hrj, ← hr] at hgp
        have y1 : w3.cell? ⟨g, j * 2 + 1, none⟩ = some (.int .u64 (hj : Nat)) := hcj
        have hgp' : hj + 1 < lk := hgp
        have hbj' : (hj : Int) ≤ 18446744073709551615 := hbj
        have hbd' : (hi : Int) ≤ 18446744073709551615 := hbd
        have d1' : lk ≤ hi := by simpa using d1
        obtain ⟨k, hk'⟩ : ∃ k, k = j + 1 := ⟨_, rfl⟩
        rw [← hk'] at x3 x4 hlt hg1 HYES HNO ⊢
        have d2 : decide ((0 : Int) < (k : Int)) = true := by simp; omega
        have d2n : decide (0 < k) = true := by simp; omega
        have y2 : (k : Int) - 1 = (j : Int) := by omega
        have y3 : IntKind.i64.wrap ((k : Int) - 1) = (j : Int) := by rw [y2, IntKind.wrap_i64]; omega
        have y4 : IntKind.u64.wrap ((hj : Int) + 1) = (hj : Int) + 1 := by rw [IntKind.wrap_u64]; omega
        have y5 : decide ((lk : Int) ≤ (hj : Int) + 1) = false := by simp; omega
        have y6 : (j : Int) < (n : Int) := by omega
        clear hcj hbj hgp hgp' hbj' hbd hbd' d1' hrj hk' k0 hk hkl hr
        go_wp2_with fail
        go_quiet (fail)
        cases may
        · have HZ := HNO.out (.inl rfl)
          go_wp2
          go_roundw
          case rel => exact HZ.out _
          case measure => simp [intOf]; omega
        · by_cases e1 : lk ≤ N
          · by_cases e2 : N ≤ hi
            · have HZ := HYES.out rfl e1 e2
              have f1 : decide ((lk : Int) ≤ (N : Int)) = true := by simp; omega
              have f2 : decide ((N : Int) ≤ (hi : Int)) = true := by simp; omega
              go_wp2
              go_roundw
              case rel => exact HZ.out _
              case measure => simp [intOf]; omega
            · have HZ := HNO.out (.inr (.inr e2))
              have f1 : decide ((lk : Int) ≤ (N : Int)) = true := by simp; omega
              have f2 : decide ((N : Int) ≤ (hi : Int)) = false := by simp; omega
              go_wp2
              go_roundw
              case rel => exact HZ.out _
              case measure => simp [intOf]; omega
          · have HZ := HNO.out (.inr (.inl e1))
            have f1 : decide ((lk : Int) ≤ (N : Int)) = false := by simp; omega
            go_wp2
            go_roundw
            case rel => exact HZ.out _
            case measure => simp [intOf]; omega
    · obtain rfl : k = n := by omega
      have hfin : cnt may N (L.take k) = cnt may N L := by rw [HN.out, List.take_length]
      rw [hfin]
      have h1 := HC1.out
      obtain ⟨ct, hct⟩ : ∃ ct, ct = cnt may N L := ⟨_, rfl⟩
      rw [← hct] at h1 ⊢
      have HH := Lib.hid (show hol = true → ct = 1 from fun h => by rw [hct]; exact HC2.out h)
      have d1 : decide ((ct : Int) ≤ 1) = true := by simp; omega
      have HB4 := Lib.hid (show Blk (w3.drewN q) w.heap.size #[.int .i64 a, .int .i64 b, .int .i64 c, .int .i64 e] 34 ∧ Blk (w3.drewN q) (w.heap.size + 1) #[.int .i64 x, .int .i64 y] 23 ∧ Below w.heap.size w (w3.drewN q) from ⟨HB3.out.1.drewN q, HB3.out.2.1.drewN q, below_drewN HB3.out.2.2 q⟩)
      clear hfin hct HB3 HO3 HGET
      obtain ⟨w4, hw4⟩ : ∃ w4, w4 = w3.drewN q := ⟨_, rfl⟩
      rw [← hw4] at HB4 ⊢
      clear hw4
      have t1 := HB4.out.1.four
      have t2 := HB4.out.2.1.two
      go_wp2_with fail
      refine (K4.out _).mono ?_
      rintro r w5 ⟨rfl, hb⟩
      have G5 := Lib.hid (grow HB4.out.2.2 hb)
      clear hb t1 t2
      cases hol
      · go_wp2_with fail
        refine (HAW.out _).mono ?_
        rintro r w6 ⟨rfl, hb⟩
        have G6 := Lib.hid (grow G5.out hb)
        clear hb
        go_wp2
        go_ret
        exact ⟨rfl, G6.out⟩
      · have hc := HH.out rfl
        subst hc
        go_wp2_with fail
        refine (HAW.out _).mono ?_
        rintro r w6 ⟨rfl, hb⟩
        have G6 := Lib.hid (grow G5.out hb)
        clear hb
        go_wp2
        go_ret
        exact ⟨rfl, G6.out⟩

end Go.Proofs.Ythinjaddebfdhaa
