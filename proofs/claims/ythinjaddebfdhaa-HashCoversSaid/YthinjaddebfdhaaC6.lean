/- HashHolds: the plain law and the walk. -/
import Derived.Test.YthinjaddebfdhaaC5
namespace Go.Proofs.Ythinjaddebfdhaa
open Go.RowKit
set_option maxRecDepth 20000

theorem cover_inv {a b c e : Int} {m : Nat} (h : mayR4 a b c e) : M.Inv (4 ^ (32 - coverD a b c e m)) (coverS a b c e m) (coverL a b c e m) ∧ (∀ x ∈ coverS a b c e m, (x + 1) * 4 ^ (32 - coverD a b c e m) ≤ 18446744073709551616) := by
  have hd : coverD a b c e m ≤ 32 := coverD_le
  have hb : ∀ x ∈ coverS a b c e m, (x + 1) * 4 ^ (32 - coverD a b c e m) ≤ 18446744073709551616 := fun x hx =>
    (shl_low x _ hd (cells_lt h _ hd x ((M.srt_perm _).mem_iff.1 hx))).2.2
  exact ⟨M.ranges_inv (Nat.pow_pos (by decide)) (M.srt_lt _ (cells_nd h _ hd)) hb, hb⟩

theorem count_le (N : Nat) : ∀ (l : List M.Rg), (∀ r ∈ l, r.1 ≤ r.2) → (l.Pairwise fun r s => r.2 + 1 < s.1) → l.countP (fun r => decide (r.1 ≤ N ∧ N ≤ r.2)) ≤ 1
  | [], _, _ => by simp
  | r :: l, h, hp => by
    rw [List.pairwise_cons] at hp
    have ih := count_le N l (fun s hs => h s (by simp [hs])) hp.2
    rw [List.countP_cons]
    by_cases hr : r.1 ≤ N ∧ N ≤ r.2
    · have h0 : l.countP (fun r => decide (r.1 ≤ N ∧ N ≤ r.2)) = 0 := by
        rw [List.countP_eq_zero]
        intro s hs
        have := hp.1 s hs
        simp
        omega
      rw [h0]; simp [hr]
    · rw [if_neg (by simpa using hr)]; omega

theorem code_cell {a b c e x y : Int} (h : mayR4 a b c e) (hh : holdsB a b c e x y = true) (d : Nat) (hd : d ≤ 32) : codeN x y / 4 ^ (32 - d) ∈ cellsAt a b c e d := by
  rw [cells_d h d hd]
  obtain ⟨h1, h2, h3, h4, h5, h6⟩ := h
  simp only [holdsB, inB, Bool.and_eq_true, decide_eq_true_eq] at hh
  obtain ⟨⟨k1, k2⟩, k3, k4⟩ := hh
  have e1 : codeN x y = M.cod (d + (32 - d)) (x + 1800000000).toNat (y + 900000000).toNat := by
    rw [show d + (32 - d) = 32 by omega]; rfl
  rw [e1, M.cod_div_pow, M.mem_cells]
  have a1 := xc_mono d k1
  have a2 := xc_mono d k2
  have a3 := yc_mono d k3
  have a4 := yc_mono d k4
  have a5 := xc_mono d h2
  have a6 := yc_mono d h5
  exact ⟨xc x d, yc y d, a1, by omega, a3, by omega, rfl⟩

theorem inv_facts {S : Nat} {cs : List Nat} {L : List M.Rg} (I : M.Inv S cs L) (hb : ∀ x ∈ cs, (x + 1) * S ≤ 18446744073709551616) (hS : 0 < S) (hne : 1 ≤ cs.length) :
    1 ≤ L.length ∧ L.length ≤ cs.length ∧ (∀ k (h : k < L.length), L[k].1 ≤ L[k].2) ∧ (∀ k (h : k + 1 < L.length), L[k].2 + 1 < L[k + 1].1) ∧ (∀ k (h : k < L.length), (L[k].2 : Int) ≤ 18446744073709551615) ∧
    (∀ may N, cnt may N L ≤ 1) ∧ (∀ N, N / S ∈ cs → cnt true N L = 1) := by
  have hle : ∀ (may : Bool) (N : Nat), cnt may N L ≤ 1 := by
    intro may N
    unfold cnt
    split
    · exact count_le N L I.low I.gap
    · omega
  have hex : ∀ N, N / S ∈ cs → ∃ r ∈ L, r.1 ≤ N ∧ N ≤ r.2 := fun N hN => (I.mem N).2 hN
  refine ⟨?_, I.len, ?_, ?_, ?_, hle, ?_⟩
  · obtain ⟨z, hz⟩ : ∃ z, z ∈ cs := by
      cases cs with
      | nil => simp at hne
      | cons z _ => exact ⟨z, by simp⟩
    obtain ⟨r, hr, _⟩ := hex (z * S) (by rw [Nat.mul_div_cancel _ hS]; exact hz)
    exact List.length_pos_of_mem hr
  · exact fun k hk => I.low _ (List.getElem_mem hk)
  · exact fun k hk => List.pairwise_iff_getElem.1 I.gap k (k + 1) (by omega) hk (by omega)
  · intro k hk
    have h1 := (I.mem (L[k].2)).1 ⟨L[k], List.getElem_mem hk, I.low _ (List.getElem_mem hk), Nat.le_refl _⟩
    have h2 := hb _ h1
    have h3 := Nat.lt_div_mul_add (a := L[k].2) hS
    rw [Nat.succ_mul] at h2
    omega
  · intro N hN
    have h1 := hle true N
    obtain ⟨r, hr, hr2⟩ := hex N hN
    have h2 : 0 < cnt true N L := by
      unfold cnt
      rw [if_pos rfl, List.countP_pos_iff]
      exact ⟨r, hr, by simpa using hr2⟩
    omega

set_option maxHeartbeats 2000000 in
theorem HashHolds_no (a b c e x y : Int) (m : Nat) (hm : (m : Int) ≤ 255) (h : mayR a b c e = false) (w : World) :
    Calls Try.prog 7 #[.agg #[.int .i64 a, .int .i64 b, .int .i64 c, .int .i64 e], .agg #[.int .i64 x, .int .i64 y], .int .u8 m] w fun r w' => r = .returned (.bool true) ∧ Below w.heap.size w w' := by
  have k1 := fun w => Cover_any a b c e ((m : Int) % 64 + 1) w
  have e1 : coverA a b c e ((m : Int) % 64 + 1) = [] := by unfold coverA; rw [h]; rfl
  rw [e1] at k1
  have k2 := fun w => MayRect_any a b c e w
  rw [h] at k2
  have K1 := Lib.hid k1
  have K2 := Lib.hid k2
  have HAW := Lib.hid awake_any
  have b1 := (Blk.new w #[.int .i64 a, .int .i64 b, .int .i64 c, .int .i64 e] 34).alloc (.cells #[.int .i64 x, .int .i64 y] 23)
  have b3 := grow_alloc (grow_alloc (Below.refl w.heap.size w) (.cells #[.int .i64 a, .int .i64 b, .int .i64 c, .int .i64 e] 34)) (.cells #[.int .i64 x, .int .i64 y] 23)
  have HB := Lib.hid (And.intro b1 b3)
  have m0 : (0 : Int) ≤ m := by omega
  have t1 := HB.out.1.four
  clear k1 k2 b1 b3 e1 h
  go_enter Try.func7, Try.ntmps7
  go_wp2_with fail
  refine (K1.out _).mono ?_
  rintro r w1 ⟨v, rfl, ho, hb⟩
  obtain ⟨A, cc, rfl⟩ := ho.len0
  have HB1 := Lib.hid (And.intro (HB.out.1.grew hb) (grow HB.out.2 hb))
  clear hb t1 ho HB
  have t1 := HB1.out.1.four
  go_wp2_with fail
  refine (K2.out _).mono ?_
  rintro r w2 ⟨rfl, hb⟩
  have G2 := Lib.hid (grow HB1.out.2 hb)
  clear hb t1 HB1
  go_wp2_with fail
  refine (HAW.out _).mono ?_
  rintro r w3 ⟨rfl, hb⟩
  have G3 := Lib.hid (grow G2.out hb)
  clear hb
  go_wp2
  go_ret
  exact ⟨rfl, G3.out⟩

theorem HashHolds_walk (a b c e x y : Int) (m : Nat) (hm : (m : Int) ≤ 255) (w : World) :
    Calls Try.prog 7 #[.agg #[.int .i64 a, .int .i64 b, .int .i64 c, .int .i64 e], .agg #[.int .i64 x, .int .i64 y], .int .u8 m] w fun r w' => r = .returned (.bool true) ∧ Below w.heap.size w w' := by
  cases h : mayR a b c e with
  | false => exact HashHolds_no a b c e x y m hm h w
  | true =>
    obtain ⟨n, hn⟩ : ∃ n : Nat, n = m % 64 + 1 := ⟨_, rfl⟩
    have hn1 : 1 ≤ n := by omega
    have hn2 : n ≤ 64 := by omega
    have h4 := mayR_iff.1 h
    obtain ⟨I, hb⟩ := cover_inv (m := n) h4
    have hf := cells_few h4 _ (coverD_fw h4 hn1)
    have hl : (coverS a b c e n).length = (cellsAt a b c e (coverD a b c e n)).length := (M.srt_perm _).length_eq
    obtain ⟨f1, f2, f3, f4, f5, f6, f7⟩ := inv_facts I hb (Nat.pow_pos (by decide)) (by omega)
    have f8 : (mayR a b c e && mayB x y && holdsB a b c e x y) = true → cnt (mayB x y) (if mayB x y then codeN x y else 0) (coverL a b c e n) = 1 := by
      intro hh
      simp only [Bool.and_eq_true] at hh
      obtain ⟨⟨_, hmy⟩, hho⟩ := hh
      rw [hmy, if_pos rfl]
      exact f7 _ ((M.srt_perm _).mem_iff.2 (code_cell h4 hho _ coverD_le))
    have e1 : coverA a b c e ((m : Int) % 64 + 1) = coverL a b c e n := by
      have e0 : (m : Int) % 64 + 1 = (n : Int) := by omega
      unfold coverA
      rw [h, e0, decide_eq_true (by omega)]
      rfl
    refine HashHolds_road a b c e x y m hm (coverL a b c e n) (if mayB x y then codeN x y else 0) (mayB x y) (mayR a b c e && mayB x y && holdsB a b c e x y) ?_ ?_ ?_ (Holds_any a b c e x y) f1 (by omega) f3 f4 f5 (f6 _ _) f8 w
    · intro w
      have := Cover_any a b c e ((m : Int) % 64 + 1) w
      rwa [e1] at this
    · intro w
      have := MayRect_any a b c e w
      rwa [h] at this
    · intro w
      have := Code_any x y w
      have e2 : codeV x y = ((if mayB x y then codeN x y else 0 : Nat) : Int) := by
        unfold codeV
        cases mayB x y <;> rfl
      rwa [e2] at this

end Go.Proofs.Ythinjaddebfdhaa
