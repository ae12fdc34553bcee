/- Walks: right; the document's sector of a change. Printed by mk_a14.py. -/
import Derived.Test.YtpomfokpmbblkaaA13
namespace Go.Proofs.Ytpomfokpmbblkaa
open Go.RowKit Go.Maps
set_option maxRecDepth 8000

def rightB (f c e : Int) : Bool := decide (0 ≤ f ∧ 1 ≤ c ∧ f ≤ 12 ∧ c ≤ 12 ∧ f + c ≤ 12 ∧ 1 ≤ e ∧ e ≤ 1099511627776)
set_option maxHeartbeats 4000000 in
theorem rightW_any (m f c e : Int) (v : Value) (w : World) (hf : -9223372036854775808 ≤ f ∧ f ≤ 9223372036854775807) (hc : -9223372036854775808 ≤ c ∧ c ≤ 9223372036854775807) :
    Calls Try.prog 12 #[.agg #[.int .u8 m, .int .i64 f, .int .i64 c, .int .i64 e, v]] w fun r w' => r = .returned (.bool (rightB f c e)) ∧ Below w.heap.size w w' := by
  obtain ⟨hf1, hf2⟩ := hf
  obtain ⟨hc1, hc2⟩ := hc
  by_cases h0 : 0 ≤ f
  rotate_left
  · have hR : rightB f c e = false := decide_eq_false (by omega)
    have HRR := Lib.hid hR
    clear hR
    go_enter Try.func12, Try.ntmps12
    go_wp2
    go_ret
    exact ⟨ret_bool HRR.out.symm, by go_grown⟩
  by_cases h1 : 1 ≤ c
  rotate_left
  · have hR : rightB f c e = false := decide_eq_false (by omega)
    have HRR := Lib.hid hR
    clear hR
    go_enter Try.func12, Try.ntmps12
    go_wp2
    go_ret
    exact ⟨ret_bool HRR.out.symm, by go_grown⟩
  by_cases h2 : f ≤ 12
  rotate_left
  · have hR : rightB f c e = false := decide_eq_false (by omega)
    have HRR := Lib.hid hR
    clear hR
    go_enter Try.func12, Try.ntmps12
    go_wp2
    go_ret
    exact ⟨ret_bool HRR.out.symm, by go_grown⟩
  by_cases h3 : c ≤ 12
  rotate_left
  · have hR : rightB f c e = false := decide_eq_false (by omega)
    have HRR := Lib.hid hR
    clear hR
    go_enter Try.func12, Try.ntmps12
    go_wp2
    go_ret
    exact ⟨ret_bool HRR.out.symm, by go_grown⟩
  by_cases h4 : f + c ≤ 12
  rotate_left
  · have hR : rightB f c e = false := decide_eq_false (by omega)
    have HRR := Lib.hid hR
    clear hR
    go_enter Try.func12, Try.ntmps12
    go_wp2
    go_ret
    exact ⟨ret_bool HRR.out.symm, by go_grown⟩
  by_cases h5 : 1 ≤ e
  rotate_left
  · have hR : rightB f c e = false := decide_eq_false (by omega)
    have HRR := Lib.hid hR
    clear hR
    go_enter Try.func12, Try.ntmps12
    go_wp2
    go_ret
    exact ⟨ret_bool HRR.out.symm, by go_grown⟩
  by_cases h6 : e ≤ 1099511627776
  rotate_left
  · have hR : rightB f c e = false := decide_eq_false (by omega)
    have HRR := Lib.hid hR
    clear hR
    go_enter Try.func12, Try.ntmps12
    go_wp2
    go_ret
    exact ⟨ret_bool HRR.out.symm, by go_grown⟩
  have hR : rightB f c e = true := decide_eq_true (by omega)
  have HRR := Lib.hid hR
  clear hR
  go_enter Try.func12, Try.ntmps12
  go_wp2
  go_ret
  exact ⟨ret_bool HRR.out.symm, by go_grown⟩

theorem str_get (l : List Nat) (hb : ∀ b ∈ l, b < 256) (j : Nat) (h : j < l.length) : ∃ h' : j < (str l).data.size, ((str l).data[j].toNat : Int) = (l[j] : Nat) := by
  refine ⟨by simp [str]; exact h, ?_⟩
  have := hb _ (List.getElem_mem h)
  simp [str]
  omega
theorem str_len (l : List Nat) : (str l).size = l.length := by simp [str, ByteArray.size]
/-- '[]byte(s)'. -/
theorem run_bytes (w : World) (l : List Nat) (hb : ∀ b ∈ l, b < 256) :
    ∃ c W, (convert 9 42 (.string (str l))).run Try.prog w = .ok (.slice (some ⟨w.heap.size, 0, none⟩) l.length c) W ∧ Rd W W.heap.size (some ⟨w.heap.size, 0, none⟩) l ∧ Below w.heap.size w W := by
  have hr := run_bytes_of_string (P := Try.prog) w 9 42 5 (str l) Try.underlying9 Try.underlying42 Try.underlying5
  rw [str_len] at hr
  refine ⟨_, _, hr, ⟨hb, fun _ => ⟨_, rfl, by simp, fun k hk => ?_⟩⟩, ?_⟩
  · obtain ⟨h', e⟩ := str_get l hb k hk
    have hat := bytesRow_at (str l) (grownCap w l.length 0 5) k h'
    have hc : (⟨w.heap.size, 0, none⟩ : Addr).add k = ⟨w.heap.size, k, none⟩ := by first | (rw [addr_add]; done) | (rw [addr_add]; simp)
    rw [hc]
    unfold World.cell?
    have hn := World.alloc_heap_new w.drew (.cells (bytesRow (str l) (grownCap w l.length 0 5)) 5 ((bytesRow (str l) (grownCap w l.length 0 5)).size, (bytesRow (str l) (grownCap w l.length 0 5)).size + 1))
    have hs : w.drew.heap.size = w.heap.size := rfl
    rw [hs] at hn
    simp only [hn]
    rw [← e, ← hat]
    rfl
  · exact (Below.refl _ w).drew.alloc (Nat.le_refl _) _
set_option maxHeartbeats 4000000 in
theorem refSector_any (z e i p : Nat) (l : List Nat) (last : Bool) (w : World) (h1 : (64 : Int) ≤ z) (h2 : (z : Int) ≤ 4096) (he : (1 : Int) ≤ e ∧ (e : Int) ≤ 1099511627776) (hi : (i : Int) ≤ 1048576) (hp : (p : Int) ≤ 9223372036854775807) (hl : l.length + 45 ≤ z) (hb : ∀ b ∈ l, b < 256) :
    Calls Try.prog 19 #[.int .i64 z, .int .i64 e, .int .i64 i, .agg #[.int .i64 p, .string (str l)], .bool last] w fun r w' => ∃ v', r = .returned v' ∧ Own w' w.heap.size v' (sector z (e * 2097152 + i + 1) (leb p 8 ++ [if last then 1 else 0] ++ l)) ∧ Below w.heap.size w w' := by
  obtain ⟨w1, hw1⟩ : ∃ w1, w1 = w.alloc (.cells #[.int .i64 p, .string (str l)] 47) := ⟨_, rfl⟩
  have hb1 : Below w.heap.size w w1 := by subst hw1; exact grow_alloc (Below.refl _ _) _
  have hx1 : Blk w1 w.heap.size #[.int .i64 p, .string (str l)] 47 := by subst hw1; exact Blk.new _ _ _
  have HX := Lib.hid (And.intro hb1 hx1)
  have HW1 := Lib.hid hw1
  have c0 := hx1.cell 0
  have HBY := Lib.hid hb
  have HL := Lib.hid hl
  obtain ⟨he1, he2⟩ := he
  clear hb1 hx1 hw1 hb hl
  obtain ⟨SEC, hSEC⟩ : ∃ S, S = sector z (e * 2097152 + i + 1) (leb p 8 ++ [if last then 1 else 0] ++ l) := ⟨_, rfl⟩
  rw [← hSEC]
  have HSEC := Lib.hid hSEC
  clear hSEC
  have hmc : (2097152 * (e : Int) + i + 1) = ((e * 2097152 + i + 1 : Nat) : Int) := by omega
  have HMC := Lib.hid hmc
  clear hmc
  cases last with
  | true =>
    go_enter Try.func19, Try.ntmps19
    go_wp2_with fail
    rw [← HW1.out]
    clear HW1
    refine (Bytes_any w1 p 8 (by omega) (Nat.le_refl _)).mono ?_
    rintro r w2 ⟨v2, rfl, ho2, hb2⟩
    have hg3 := grow_alloc (Below.refl w2.heap.size w2) (.cells #[.int .u8 1] 5)
    obtain ⟨v4, w4, hr4, ho4, hb4⟩ := run_app 42 (ho2.below hg3) _ _ 1 [1] (rd_one (f := 1) (Blk.new w2 _ _) (by omega)) (Nat.le_trans hb2.size hg3.size) (by simp)
    have hb24 : Below w1.heap.size w1 w4 := (hb2.trans (hg3.mono hb2.size)).trans hb4
    obtain ⟨c5, w5, hr5, rd5, hb5⟩ := run_bytes w4 l HBY.out
    obtain ⟨v6, w6, hr6, ho6, hb6⟩ := run_app 42 (ho4.below hb5) _ _ c5 l rd5 (Nat.le_trans hb24.size hb5.size) (by have := HL.out; simp; omega)
    have hb16 : Below w1.heap.size w1 w6 := (hb24.trans (hb5.mono hb24.size)).trans hb6
    obtain ⟨A2, c2, rfl, _⟩ := ho2.form
    obtain ⟨A4, c4, rfl, _⟩ := ho4.form
    obtain ⟨A6, c6, rfl, rd6⟩ := ho6.form
    have c1 : w4.cell? ⟨w.heap.size, 1, none⟩ = some (.string (str l)) := (HX.out.2.below hb24 HX.out.2.lt).cell 1
    obtain ⟨n2, hn2⟩ : ∃ n2, n2 = (leb p 8).length := ⟨_, rfl⟩
    obtain ⟨n4, hn4⟩ : ∃ n4, n4 = (leb p 8 ++ [1]).length := ⟨_, rfl⟩
    have hl6 : ((leb p 8 ++ [1] ++ l).length : Int) ≤ z - 36 := by have := HL.out; simp; omega
    obtain ⟨q6, hq6⟩ : ∃ q6, q6 = leb p 8 ++ [1] ++ l := ⟨_, rfl⟩
    rw [← hq6] at ho6 rd6 hr6 hl6
    have HQ6 := Lib.hid hq6
    obtain ⟨n6, hn6⟩ : ∃ n6, n6 = q6.length := ⟨_, rfl⟩
    have HBD := Lib.hid (refBuild_ok z (e * 2097152 + i + 1) A6 q6 c6 w6 rd6 h1 h2 (by omega) (by omega) hl6)
    rw [← hn6] at HBD hr6
    rw [← hn4] at hr4 hr6
    rw [← hn2] at hr4 ⊢
    have HR4 := Lib.hid hr4
    have HR6 := Lib.hid hr6
    have HLOW := Lib.hid (HX.out.1.trans (hb16.mono HX.out.1.size))
    clear ho2 ho4 ho6 rd5 rd6 hb2 hg3 hb4 hb24 hb5 hb6 hb16 hr4 hr6 hl6 hq6 hn2 hn4 hn6
    go_wp2_with (at_builtin; first
      | refine Lib.wpList_append_run _ rfl (.tmp 18) (.tmp 19) 42 42 rfl _ _ rfl rfl _ w4 HR4.out ?_
      | refine Lib.wpList_append_run _ rfl (.tmp 24) (.tmp 27) 42 42 rfl _ _ rfl rfl _ w6 HR6.out ?_)
    rw [HMC.out]
    refine HBD.out.mono ?_
    rintro r w7 ⟨v7, rfl, ho7, hb7⟩
    have HO := Lib.hid (And.intro ho7 (grow HLOW.out hb7))
    have hsz := Lib.hid HLOW.out.size
    clear ho7 hb7 hr5
    go_wp2
    go_ret
    refine ⟨_, rfl, ?_, HO.out.2⟩
    have ho := HO.out.1
    rw [HQ6.out] at ho
    rw [HSEC.out]
    exact ⟨ho.1, Own.base_ hsz.out ho.2⟩
  | false =>
    go_enter Try.func19, Try.ntmps19
    go_wp2_with fail
    rw [← HW1.out]
    clear HW1
    refine (Bytes_any w1 p 8 (by omega) (Nat.le_refl _)).mono ?_
    rintro r w2 ⟨v2, rfl, ho2, hb2⟩
    have hg3 := grow_alloc (Below.refl w2.heap.size w2) (.cells #[.int .u8 0] 5)
    obtain ⟨v4, w4, hr4, ho4, hb4⟩ := run_app 42 (ho2.below hg3) _ _ 1 [0] (rd_one (f := 0) (Blk.new w2 _ _) (by omega)) (Nat.le_trans hb2.size hg3.size) (by simp)
    have hb24 : Below w1.heap.size w1 w4 := (hb2.trans (hg3.mono hb2.size)).trans hb4
    obtain ⟨c5, w5, hr5, rd5, hb5⟩ := run_bytes w4 l HBY.out
    obtain ⟨v6, w6, hr6, ho6, hb6⟩ := run_app 42 (ho4.below hb5) _ _ c5 l rd5 (Nat.le_trans hb24.size hb5.size) (by have := HL.out; simp; omega)
    have hb16 : Below w1.heap.size w1 w6 := (hb24.trans (hb5.mono hb24.size)).trans hb6
    obtain ⟨A2, c2, rfl, _⟩ := ho2.form
    obtain ⟨A4, c4, rfl, _⟩ := ho4.form
    obtain ⟨A6, c6, rfl, rd6⟩ := ho6.form
    have c1 : w4.cell? ⟨w.heap.size, 1, none⟩ = some (.string (str l)) := (HX.out.2.below hb24 HX.out.2.lt).cell 1
    obtain ⟨n2, hn2⟩ : ∃ n2, n2 = (leb p 8).length := ⟨_, rfl⟩
    obtain ⟨n4, hn4⟩ : ∃ n4, n4 = (leb p 8 ++ [0]).length := ⟨_, rfl⟩
    have hl6 : ((leb p 8 ++ [0] ++ l).length : Int) ≤ z - 36 := by have := HL.out; simp; omega
    obtain ⟨q6, hq6⟩ : ∃ q6, q6 = leb p 8 ++ [0] ++ l := ⟨_, rfl⟩
    rw [← hq6] at ho6 rd6 hr6 hl6
    have HQ6 := Lib.hid hq6
    obtain ⟨n6, hn6⟩ : ∃ n6, n6 = q6.length := ⟨_, rfl⟩
    have HBD := Lib.hid (refBuild_ok z (e * 2097152 + i + 1) A6 q6 c6 w6 rd6 h1 h2 (by omega) (by omega) hl6)
    rw [← hn6] at HBD hr6
    rw [← hn4] at hr4 hr6
    rw [← hn2] at hr4 ⊢
    have HR4 := Lib.hid hr4
    have HR6 := Lib.hid hr6
    have HLOW := Lib.hid (HX.out.1.trans (hb16.mono HX.out.1.size))
    clear ho2 ho4 ho6 rd5 rd6 hb2 hg3 hb4 hb24 hb5 hb6 hb16 hr4 hr6 hl6 hq6 hn2 hn4 hn6
    go_wp2_with (at_builtin; first
      | refine Lib.wpList_append_run _ rfl (.tmp 21) (.tmp 22) 42 42 rfl _ _ rfl rfl _ w4 HR4.out ?_
      | refine Lib.wpList_append_run _ rfl (.tmp 24) (.tmp 27) 42 42 rfl _ _ rfl rfl _ w6 HR6.out ?_)
    rw [HMC.out]
    refine HBD.out.mono ?_
    rintro r w7 ⟨v7, rfl, ho7, hb7⟩
    have HO := Lib.hid (And.intro ho7 (grow HLOW.out hb7))
    have hsz := Lib.hid HLOW.out.size
    clear ho7 hb7 hr5
    go_wp2
    go_ret
    refine ⟨_, rfl, ?_, HO.out.2⟩
    have ho := HO.out.1
    rw [HQ6.out] at ho
    rw [HSEC.out]
    exact ⟨ho.1, Own.base_ hsz.out ho.2⟩
end Go.Proofs.Ytpomfokpmbblkaa
