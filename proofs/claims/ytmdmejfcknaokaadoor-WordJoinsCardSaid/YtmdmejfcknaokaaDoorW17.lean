/- Walks: WordJoins. -/
import Derived.Test.YtmdmejfcknaokaaDoorW15
namespace Go.Proofs.YtmdmejfcknaokaaDoor
open Go.RowKit

set_option maxHeartbeats 2000000 in
set_option maxRecDepth 20000 in
theorem Joins_any (a b : ByteArray) (w : World) (ht : Tab w) : Calls Tryd.prog 6 #[.string a, .string b] w fun e w' => e = .returned (.bool true) ∧ Below w.heap.size w w' := by
  by_cases hs : 300 < a.size
  · have hs' : (300 : Int) < a.size := by omega
    clear ht
    go_enter Tryd.func6, Tryd.ntmps6
    go_wp2
    go_ret
    exact ⟨rfl, Below.refl _ _⟩
  · have hs' : ¬ (300 : Int) < a.size := by omega
    by_cases hs2 : 300 < b.size
    · have hs2' : (300 : Int) < b.size := by omega
      clear ht
      go_enter Tryd.func6, Tryd.ntmps6
      go_wp2
      go_ret
      exact ⟨rfl, Below.refl _ _⟩
    · have hs2' : ¬ (300 : Int) < b.size := by omega
      have hz : (a ++ ⟨#[32]⟩ ++ b : ByteArray).size = a.size + 1 + b.size := by rw [ByteArray.size_append, ByteArray.size_append]; rfl
      have H1 := Lib.hid (Words_any a (by omega) w)
      have H2 := Lib.hid (fun w => Words_any b (by omega) w)
      have H3 := Lib.hid (fun w => Words_any (a ++ ⟨#[32]⟩ ++ b) (by rw [hz]; omega) w)
      have hj := words_join a b _ rfl
      have hn1 := words_len a
      have hn2 := words_len b
      rw [hj] at H3
      have HKB : Hid (∀ w ∈ wordsL b, w.2.1 < w.2.2 ∧ w.2.2 ≤ b.size) := Lib.hid (fun w hw => ⟨((words_know b).1 w hw).1, ((words_know b).1 w hw).2.1⟩)
      generalize wordsL a = x at *
      generalize wordsL b = y at *
      have HT := Lib.hid ht
      have hx : (x.length : Int) ≤ 1000 := by omega
      have hy : (y.length : Int) ≤ 1000 := by omega
      clear ht hj hs hs2 hz hn1 hn2
      go_enter Tryd.func6, Tryd.ntmps6
      go_wp2_with fail
      refine H1.out.mono ?_
      rintro e w1 ⟨v1, rfl, hown1, hb1⟩
      go_wp2_with fail
      refine (H2.out _).mono ?_
      rintro e w2 ⟨v2, rfl, hown2, hb2⟩
      go_wp2_with fail
      refine (H3.out _).mono ?_
      rintro e w3 ⟨v3, rfl, hown3, hb3⟩
      obtain ⟨A1, c1, rfl, hA1⟩ := ((hown1.below hb2).below hb3).form
      obtain ⟨A2, c2, rfl, hA2⟩ := (hown2.below hb3).form
      obtain ⟨A3, c3, rfl, hA3⟩ := hown3.form
      have HA1 := Lib.hid hA1
      have HA2 := Lib.hid hA2
      have HA3 := Lib.hid hA3
      have HB := Lib.hid (grow (grow hb1 hb2) hb3)
      obtain ⟨nx, hnx⟩ : ∃ nx, nx = x.length := ⟨_, rfl⟩
      obtain ⟨ny, hny⟩ : ∃ ny, ny = y.length := ⟨_, rfl⟩
      obtain ⟨n, hn⟩ : ∃ n, n = (x ++ y.map (shW (a.size + 1))).length := ⟨_, rfl⟩
      have hnn : (n : Int) = nx + ny := by rw [hn, hnx, hny]; simp
      rw [← hnx] at hx ⊢
      rw [← hny] at hy ⊢
      rw [← hn]
      have HNX := Lib.hid hnx
      have HNY := Lib.hid hny
      have HNN := Lib.hid hnn
      have hxy : (n : Int) ≤ 2000 := by omega
      clear hnx hny hA1 hA2 hA3 hb1 hb2 hb3 H1 H2 H3 hown1 hown2 hown3 hn
      go_wp2_with fail
      clear hnn
      go_loopw [8] (fun i wr => ∃ k : Nat, k ≤ n ∧ i = .int .i64 k ∧ Hid (Below w3.heap.size w3 wr)) (fun i _ => n - (intOf i).toNat)
      case atStart => exact ⟨0, by omega, rfl, Lib.hid (Below.refl _ _)⟩
      case round =>
        obtain ⟨k, hk, rfl, HBR⟩ := hrel
        by_cases hlt : k < n
        · have hlt' : (k : Int) < n := by omega
          have hkl : k < (x ++ y.map (shW (a.size + 1))).length := by
            have h1 := HNN.out
            have h2 := HNX.out
            have h3 := HNY.out
            simp
            omega
          obtain ⟨p, hp, p0, p1, p2, p3⟩ := (HA3.out.grew HBR.out).get hkl
          cases hp
          clear p0
          by_cases hkx : k < nx
          · have hkx' : k < x.length := by rw [← HNX.out]; exact hkx
            obtain ⟨q, hq, q0, q1, q2, q3⟩ := (HA1.out.grew HBR.out).get hkx'
            cases hq
            clear q0
            have he : (x ++ y.map (shW (a.size + 1)))[k] = x[k] := List.getElem_append_left hkx'
            rw [he] at p1 p2 p3
            generalize x[k] = z at *
            have d1 : decide (k < nx) = true := decide_eq_true hkx
            have d2 : decide (nx ≤ k) = false := decide_eq_false (by omega)
            have hkx2 : (k : Int) < nx := by omega
            clear he
            go_wp2_with fail
            go_quiet (fail)
            go_wp2
            go_roundw
            case rel => exact ⟨k + 1, by omega, by go_num, Lib.hid (below_drewN HBR.out _)⟩
            case measure => simp [intOf]; omega
          · obtain ⟨j, hj⟩ : ∃ j, k = nx + j := ⟨k - nx, by omega⟩
            have hjl : j < y.length := by
              have h1 := HNN.out
              have h3 := HNY.out
              omega
            obtain ⟨q, hq, q0, q1, q2, q3⟩ := (HA2.out.grew HBR.out).get hjl
            cases hq
            clear q0
            have he : (x ++ y.map (shW (a.size + 1)))[k] = shW (a.size + 1) y[j] := by
              rw [List.getElem_append_right (by have := HNX.out; omega), List.getElem_map]
              congr 2
              have := HNX.out
              omega
            rw [he] at p1 p2 p3
            obtain ⟨⟨t, f, e⟩, hze⟩ : ∃ z, z = y[j] := ⟨_, rfl⟩
            rw [← hze] at p1 p2 p3 q1 q2 q3
            simp only [shW] at p1 p2 p3 q1 q2 q3
            have hfe : f ≤ 100000 ∧ e ≤ 100000 := by
              have := HKB.out (t, f, e) (by rw [hze]; exact List.getElem_mem hjl)
              simp only at this
              omega
            rw [show ((f + (a.size + 1) : Nat) : Int) = (f : Int) + a.size + 1 by omega] at p2
            rw [show ((e + (a.size + 1) : Nat) : Int) = (e : Int) + a.size + 1 by omega] at p3
            have d1 : decide (k < nx) = false := decide_eq_false hkx
            have d2 : decide (nx ≤ k) = true := decide_eq_true (by omega)
            have hkj : (k : Int) - nx = j := by omega
            have hjy : (j : Int) < ny := by have := HNY.out; omega
            have hf : (f : Int) ≤ 100000 := by omega
            have he2 : (e : Int) ≤ 100000 := by omega
            clear he hze hfe hj hjl
            go_wp2_with fail
            go_quiet (fail)
            have BD := below_drewN (Below.refl wr.heap.size wr) nq
            replace p1 := cell_grew p1 BD
            replace p2 := cell_grew p2 BD
            replace p3 := cell_grew p3 BD
            replace q1 := cell_grew q1 BD
            replace q2 := cell_grew q2 BD
            replace q3 := cell_grew q3 BD
            have HBD := Lib.hid (grow HBR.out BD)
            clear BD
            generalize wr.drewN nq = W0 at *
            go_wp2_with fail
            have bq := (Blk.new W0 #[.string (str t), .int .i64 ((f : Int) + a.size + 1), .int .i64 ((e : Int) + a.size + 1)] 33)
            have c0 := bq.cell 0
            have c1 := bq.cell 1
            have c2 := bq.cell 2
            have hg : Below W0.heap.size W0 (W0.alloc (.cells #[.string (str t), .int .i64 ((f : Int) + a.size + 1), .int .i64 ((e : Int) + a.size + 1)] 33)) := (Below.refl _ W0).alloc (Nat.le_refl _) _
            replace p1 := cell_grew p1 hg
            replace p2 := cell_grew p2 hg
            replace p3 := cell_grew p3 hg
            have HBE := Lib.hid (grow HBD.out hg)
            clear hg bq q1 q2 q3 HBD
            generalize W0.alloc _ = W5 at *
            generalize W0.heap.size = B0 at *
            go_quiet (fail)
            go_wp2
            go_roundw
            case rel => exact ⟨k + 1, by omega, by go_num, Lib.hid (below_drewN HBE.out _)⟩
            case measure => simp [intOf]; omega
        · have hlt' : ¬ (k : Int) < n := by omega
          have HAW := Lib.hid (awake_any wr (HT.out.grew (grow HB.out HBR.out)))
          go_wp2_with fail
          refine HAW.out.mono ?_
          rintro e w4 ⟨rfl, hb4⟩
          have HB4 := Lib.hid (grow (grow HB.out HBR.out) hb4)
          clear hb4 HAW
          go_wp2
          go_ret
          exact ⟨rfl, HB4.out⟩
end Go.Proofs.YtmdmejfcknaokaaDoor
