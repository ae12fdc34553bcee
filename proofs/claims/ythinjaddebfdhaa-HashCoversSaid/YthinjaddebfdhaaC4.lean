/- Walk: HashSpots. -/
import Derived.Test.YthinjaddebfdhaaC3
namespace Go.Proofs.Ythinjaddebfdhaa
open Go.RowKit
set_option maxRecDepth 20000

theorem srt_one (c : Nat) : M.srt [c] = [c] := List.perm_singleton.1 (M.srt_perm [c])
theorem spot_cover (x y m : Int) (h : mayB x y = true) (h1 : 1 ≤ m) (h2 : m ≤ 64) : coverA x y x y m = [(codeN x y, codeN x y)] := by
  have hr : mayR x y x y = true := by unfold mayR; rw [h]; simp
  have h4 := mayR_iff.1 hr
  obtain ⟨k1, k2, k3, k4, k5, k6⟩ := h4
  unfold coverA
  rw [hr, decide_eq_true (And.intro h1 h2), Bool.and_self, if_pos rfl]
  obtain ⟨n, rfl⟩ := Int.eq_ofNat_of_zero_le (show 0 ≤ m by omega)
  have hf : fw x y x y n 32 = true := by
    unfold fw fewB
    simp only [Nat.sub_self]
    rw [decide_eq_true_eq]
    omega
  have hd : coverD x y x y n = 32 := dep_yes hf
  have e1 : xc x 32 = (x + 1800000000).toNat := by simp [xc]
  have e2 : yc y 32 = (y + 900000000).toNat := by simp [yc]
  have hc : cellsAt x y x y 32 = [codeN x y] := by
    unfold cellsAt
    rw [e1, e2, Nat.add_sub_cancel_left, Nat.add_sub_cancel_left]
    rfl
  show coverL x y x y n = _
  unfold coverL coverS
  rw [hd, hc, srt_one]
  simp [M.ranges, M.pushR, M.joins]
theorem spot_none (x y m : Int) (h : mayB x y = false) : coverA x y x y m = [] := by
  have hr : mayR x y x y = false := by unfold mayR; rw [h]; simp
  unfold coverA
  rw [hr]; simp
theorem OwnR.len0 {e : TypeId} {w : World} {base : Nat} {v : Value} (h : OwnR e w base v []) : ∃ A c, v = .slice A 0 c := by
  rcases h.form with ⟨rfl, _⟩ | ⟨g, c, rfl, _⟩
  · exact ⟨_, _, rfl⟩
  · exact ⟨_, _, rfl⟩
theorem OwnR.one {e : TypeId} {w : World} {base lo hi : Nat} {v : Value} (h : OwnR e w base v [(lo, hi)]) :
    ∃ g c, v = .slice (some ⟨g, 0, none⟩) 1 c ∧ g < w.heap.size ∧ w.cell? ⟨g, 0, none⟩ = some (.int .u64 lo) ∧ w.cell? ⟨g, 1, none⟩ = some (.int .u64 hi) := by
  rcases h.form with ⟨_, h0⟩ | ⟨g, c, rfl, _, hg⟩
  · cases h0
  · have h2 := h.get (k := 0) (by simp)
    exact ⟨g, c, rfl, hg, by simpa using h2.1, by simpa using h2.2.1⟩

set_option maxHeartbeats 4000000 in
theorem HashSpots_walk (x y : Int) (m : Nat) (hm : (m : Int) ≤ 255) (w : World) :
    Calls Try.prog 6 #[.agg #[.int .i64 x, .int .i64 y], .int .u8 m] w fun e w' => e = .returned (.bool true) ∧ Below w.heap.size w w' := by
  have hc := fun w => Cover_any x y x y ((m : Int) % 64 + 1) w
  have hk := fun w => Code_any x y w
  have HAW := Lib.hid awake_any
  have k1 := Blk.new w #[.int .i64 x, .int .i64 y] 23
  have g1 := grow_alloc (Below.refl w.heap.size w) (.cells #[.int .i64 x, .int .i64 y] 23)
  have HK1 := Lib.hid k1
  have HG1 := Lib.hid g1
  have m0 : (0 : Int) ≤ m := by omega
  have m1 : 1 ≤ (m : Int) % 64 + 1 := by omega
  have m2 : (m : Int) % 64 + 1 ≤ 64 := by omega
  cases hb : mayB x y with
  | false =>
    rw [spot_none x y _ hb] at hc
    rw [hb] at hk
    have HC := Lib.hid hc
    have HK := Lib.hid hk
    clear hc hk hb m1 m2 k1 g1
    have c1 := HK1.out.two
    go_enter Try.func6, Try.ntmps6
    go_wp2_with fail
    refine (HC.out _).mono ?_
    rintro r w1 ⟨v, rfl, ho, hb1⟩
    obtain ⟨A, c, rfl⟩ := ho.len0
    have c2 := (HK1.out.grew hb1).two
    have HG2 := Lib.hid (grow HG1.out hb1)
    clear hb1 ho c1
    go_wp2_with fail
    refine (HK.out _).mono ?_
    rintro r w2 ⟨rfl, hb2⟩
    have HG3 := Lib.hid (grow HG2.out hb2)
    clear hb2 c2
    go_wp2_with fail
    refine (HAW.out _).mono ?_
    rintro r w3 ⟨rfl, hb3⟩
    have HG4 := Lib.hid (grow HG3.out hb3)
    clear hb3
    go_wp2_with fail
    go_ret
    exact ⟨rfl, HG4.out⟩
  | true =>
    rw [spot_cover x y _ hb m1 m2] at hc
    have hv : codeV x y = (codeN x y : Int) := by unfold codeV; rw [hb]; rfl
    rw [hb, hv] at hk
    generalize codeN x y = N at *
    have HC := Lib.hid hc
    have HK := Lib.hid hk
    clear hc hk hb m1 m2 k1 g1 hv
    have c1 := HK1.out.two
    go_enter Try.func6, Try.ntmps6
    go_wp2_with fail
    refine (HC.out _).mono ?_
    rintro r w1 ⟨v, rfl, ho, hb1⟩
    obtain ⟨g, c, rfl, hg, q1, q2⟩ := ho.one
    have c2 := (HK1.out.grew hb1).two
    have HG2 := Lib.hid (grow HG1.out hb1)
    clear hb1 ho c1
    go_wp2_with fail
    refine (HK.out _).mono ?_
    rintro r w2 ⟨rfl, hb2⟩
    have HG3 := Lib.hid (grow HG2.out hb2)
    have q3 := cell_grew q1 hb2
    have q4 := cell_grew q2 hb2
    clear hb2 c2 q1 q2
    go_wp2_with fail
    refine (HAW.out _).mono ?_
    rintro r w3 ⟨rfl, hb3⟩
    have HG4 := Lib.hid (grow HG3.out hb3)
    clear hb3
    go_wp2_with fail
    go_ret
    exact ⟨rfl, HG4.out⟩

end Go.Proofs.Ythinjaddebfdhaa
