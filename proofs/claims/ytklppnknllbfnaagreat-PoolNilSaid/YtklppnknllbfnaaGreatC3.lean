/- Walks: PoolNil. Printed by mk_c3.py. -/
import Derived.Test.YtklppnknllbfnaaGreatC2
namespace Go.Proofs.YtklppnknllbfnaaGreat
open Go.RowKit Go.Maps
set_option maxRecDepth 8000

theorem Pages_nil (w : World) : Calls Tryz.prog 11 #[.pointer none] w fun e w' => e = .returned (.int .i64 0) ∧ w' = w := by
  go_enter Tryz.func11, Tryz.ntmps11
  go_wp2
  go_ret
  exact ⟨rfl, rfl⟩
theorem PRead_nil2 (page : Int) (w : World) : Calls Tryz.prog 13 #[.pointer none, .int .i64 page] w fun e w' => e = .returned (.tuple #[.slice none 0 0, .int .i64 1]) ∧ w' = w := PRead_nil page w
set_option maxRecDepth 20000 in
set_option maxHeartbeats 8000000 in
theorem Nil_any (s z : Int) (w : World) : Calls Tryz.prog 6 #[.int .i64 s, .int .i64 z] w fun e w' => e = .returned (.bool true) ∧ Below w.heap.size w w' := by
  by_cases hbad : s < 1 ∨ 1048576 < s ∨ z < 64 ∨ 4096 < z
  · have HN := Lib.hid (New_no s z w hbad)
    clear hbad
    go_enter Tryz.func6, Tryz.ntmps6
    go_wp2_with fail
    refine (PTake_nil _).mono ?_
    rintro e _ ⟨rfl, rfl⟩
    go_wp2_with fail
    refine (PRead_nil2 1 _).mono ?_
    rintro e _ ⟨rfl, rfl⟩
    go_wp2_with fail
    refine (Format_nil _).mono ?_
    rintro e _ ⟨rfl, rfl⟩
    go_wp2_with fail
    refine (Open_nil _).mono ?_
    rintro e _ ⟨rfl, rfl⟩
    go_wp2_with fail
    refine (PWrite_nil 1 _ _).mono ?_
    rintro e _ ⟨rfl, rfl⟩
    go_wp2_with fail
    refine (PGive_nil 1 _).mono ?_
    rintro e _ ⟨rfl, rfl⟩
    go_wp2_with fail
    refine (SetRoot_nil 0 0 _).mono ?_
    rintro e _ ⟨rfl, rfl⟩
    go_wp2_with fail
    refine (PCommit_nil _).mono ?_
    rintro e _ ⟨rfl, rfl⟩
    go_wp2_with fail
    refine (PBack_nil _).mono ?_
    rintro e _ ⟨rfl, rfl⟩
    go_wp2_with fail
    refine (PCheckpoint_nil _).mono ?_
    rintro e _ ⟨rfl, rfl⟩
    go_wp2_with fail
    refine (Dead_nil _).mono ?_
    rintro e _ ⟨rfl, rfl⟩
    go_wp2_with fail
    refine (Room_nil _).mono ?_
    rintro e _ ⟨rfl, rfl⟩
    go_wp2_with fail
    refine (Pages_nil _).mono ?_
    rintro e _ ⟨rfl, rfl⟩
    go_wp2_with fail
    refine (Taken_nil _).mono ?_
    rintro e _ ⟨rfl, rfl⟩
    go_wp2_with fail
    refine (Root_nil 0 _).mono ?_
    rintro e _ ⟨rfl, rfl⟩
    go_wp2_with fail
    refine HN.out.mono ?_
    rintro e _ ⟨rfl, rfl⟩
    go_wp2_with fail
    refine (awake_any _).mono ?_
    rintro e w9 ⟨rfl, hb9⟩
    have HB := Lib.hid hb9
    clear hb9
    go_wp2
    go_ret
    exact ⟨rfl, HB.out⟩
  · obtain ⟨a, rfl⟩ := Int.eq_ofNat_of_zero_le (show 0 ≤ s by omega)
    obtain ⟨b, rfl⟩ := Int.eq_ofNat_of_zero_le (show 0 ≤ z by omega)
    have hb1 : (1 : Int) ≤ a := by omega
    have hb2 : (a : Int) ≤ 1048576 := by omega
    have hb3 : (64 : Int) ≤ b := by omega
    have hb4 : (b : Int) ≤ 4096 := by omega
    have HN := Lib.hid (New_dk w a b (fun _ _ => trivial) (Below.refl _ _) hb1 hb2 hb3 hb4)
    clear hbad
    by_cases h100 : (100 : Int) < a
    · go_enter Tryz.func6, Tryz.ntmps6
      go_wp2_with fail
      refine (PTake_nil _).mono ?_
      rintro e _ ⟨rfl, rfl⟩
      go_wp2_with fail
      refine (PRead_nil2 1 _).mono ?_
      rintro e _ ⟨rfl, rfl⟩
      go_wp2_with fail
      refine (Format_nil _).mono ?_
      rintro e _ ⟨rfl, rfl⟩
      go_wp2_with fail
      refine (Open_nil _).mono ?_
      rintro e _ ⟨rfl, rfl⟩
      go_wp2_with fail
      refine (PWrite_nil 1 _ _).mono ?_
      rintro e _ ⟨rfl, rfl⟩
      go_wp2_with fail
      refine (PGive_nil 1 _).mono ?_
      rintro e _ ⟨rfl, rfl⟩
      go_wp2_with fail
      refine (SetRoot_nil 0 0 _).mono ?_
      rintro e _ ⟨rfl, rfl⟩
      go_wp2_with fail
      refine (PCommit_nil _).mono ?_
      rintro e _ ⟨rfl, rfl⟩
      go_wp2_with fail
      refine (PBack_nil _).mono ?_
      rintro e _ ⟨rfl, rfl⟩
      go_wp2_with fail
      refine (PCheckpoint_nil _).mono ?_
      rintro e _ ⟨rfl, rfl⟩
      go_wp2_with fail
      refine (Dead_nil _).mono ?_
      rintro e _ ⟨rfl, rfl⟩
      go_wp2_with fail
      refine (Room_nil _).mono ?_
      rintro e _ ⟨rfl, rfl⟩
      go_wp2_with fail
      refine (Pages_nil _).mono ?_
      rintro e _ ⟨rfl, rfl⟩
      go_wp2_with fail
      refine (Taken_nil _).mono ?_
      rintro e _ ⟨rfl, rfl⟩
      go_wp2_with fail
      refine (Root_nil 0 _).mono ?_
      rintro e _ ⟨rfl, rfl⟩
      go_wp2_with fail
      refine HN.out.mono ?_
      rintro e w1 ⟨b1, m1, rfl, hk, hbw⟩
      have HB1 := Lib.hid hbw
      clear hk hbw
      go_wp2_with fail
      refine (awake_any _).mono ?_
      rintro e w9 ⟨rfl, hb9⟩
      have HB := Lib.hid (grow HB1.out hb9)
      clear hb9
      go_wp2
      go_ret
      exact ⟨rfl, HB.out⟩
    · by_cases hsm : a < 24 ∨ b < 512
      · have HSM := Lib.hid hsm
        have hsmI : (a : Int) < 24 ∨ (b : Int) < 512 := by omega
        clear hsm
        by_cases h24 : (a : Int) < 24
        · clear hsmI
          go_enter Tryz.func6, Tryz.ntmps6
          go_wp2_with fail
          refine (PTake_nil _).mono ?_
          rintro e _ ⟨rfl, rfl⟩
          go_wp2_with fail
          refine (PRead_nil2 1 _).mono ?_
          rintro e _ ⟨rfl, rfl⟩
          go_wp2_with fail
          refine (Format_nil _).mono ?_
          rintro e _ ⟨rfl, rfl⟩
          go_wp2_with fail
          refine (Open_nil _).mono ?_
          rintro e _ ⟨rfl, rfl⟩
          go_wp2_with fail
          refine (PWrite_nil 1 _ _).mono ?_
          rintro e _ ⟨rfl, rfl⟩
          go_wp2_with fail
          refine (PGive_nil 1 _).mono ?_
          rintro e _ ⟨rfl, rfl⟩
          go_wp2_with fail
          refine (SetRoot_nil 0 0 _).mono ?_
          rintro e _ ⟨rfl, rfl⟩
          go_wp2_with fail
          refine (PCommit_nil _).mono ?_
          rintro e _ ⟨rfl, rfl⟩
          go_wp2_with fail
          refine (PBack_nil _).mono ?_
          rintro e _ ⟨rfl, rfl⟩
          go_wp2_with fail
          refine (PCheckpoint_nil _).mono ?_
          rintro e _ ⟨rfl, rfl⟩
          go_wp2_with fail
          refine (Dead_nil _).mono ?_
          rintro e _ ⟨rfl, rfl⟩
          go_wp2_with fail
          refine (Room_nil _).mono ?_
          rintro e _ ⟨rfl, rfl⟩
          go_wp2_with fail
          refine (Pages_nil _).mono ?_
          rintro e _ ⟨rfl, rfl⟩
          go_wp2_with fail
          refine (Taken_nil _).mono ?_
          rintro e _ ⟨rfl, rfl⟩
          go_wp2_with fail
          refine (Root_nil 0 _).mono ?_
          rintro e _ ⟨rfl, rfl⟩
          go_wp2_with fail
          refine HN.out.mono ?_
          rintro e w1 ⟨b1, m1, rfl, hk, hbw⟩
          have HO := Lib.hid (Open_size hk.disk HSM.out)
          have HF := Lib.hid (fun w' (k : Below w1.heap.size w1 w') => Format_size (hk.disk.grew k) HSM.out)
          have HB1 := Lib.hid hbw
          clear hk hbw HN
          go_wp2_with fail
          refine HO.out.mono ?_
          rintro e _ ⟨rfl, q, rfl⟩
          have HB2 := Lib.hid (grow HB1.out (below_drewN w1 q))
          have HF2 := Lib.hid (HF.out _ (below_drewN w1 q))
          go_wp2_with fail
          refine HF2.out.mono ?_
          rintro e _ ⟨rfl, q2, rfl⟩
          have HB3 := Lib.hid (grow HB1.out (below_drewN w1 (q + q2)))
          go_wp2_with fail
          refine (awake_any _).mono ?_
          rintro e w9 ⟨rfl, hb9⟩
          have HB := Lib.hid (grow HB3.out hb9)
          clear hb9
          go_wp2
          go_ret
          exact ⟨rfl, HB.out⟩
        · have h512 : (b : Int) < 512 := by omega
          clear hsmI
          go_enter Tryz.func6, Tryz.ntmps6
          go_wp2_with fail
          refine (PTake_nil _).mono ?_
          rintro e _ ⟨rfl, rfl⟩
          go_wp2_with fail
          refine (PRead_nil2 1 _).mono ?_
          rintro e _ ⟨rfl, rfl⟩
          go_wp2_with fail
          refine (Format_nil _).mono ?_
          rintro e _ ⟨rfl, rfl⟩
          go_wp2_with fail
          refine (Open_nil _).mono ?_
          rintro e _ ⟨rfl, rfl⟩
          go_wp2_with fail
          refine (PWrite_nil 1 _ _).mono ?_
          rintro e _ ⟨rfl, rfl⟩
          go_wp2_with fail
          refine (PGive_nil 1 _).mono ?_
          rintro e _ ⟨rfl, rfl⟩
          go_wp2_with fail
          refine (SetRoot_nil 0 0 _).mono ?_
          rintro e _ ⟨rfl, rfl⟩
          go_wp2_with fail
          refine (PCommit_nil _).mono ?_
          rintro e _ ⟨rfl, rfl⟩
          go_wp2_with fail
          refine (PBack_nil _).mono ?_
          rintro e _ ⟨rfl, rfl⟩
          go_wp2_with fail
          refine (PCheckpoint_nil _).mono ?_
          rintro e _ ⟨rfl, rfl⟩
          go_wp2_with fail
          refine (Dead_nil _).mono ?_
          rintro e _ ⟨rfl, rfl⟩
          go_wp2_with fail
          refine (Room_nil _).mono ?_
          rintro e _ ⟨rfl, rfl⟩
          go_wp2_with fail
          refine (Pages_nil _).mono ?_
          rintro e _ ⟨rfl, rfl⟩
          go_wp2_with fail
          refine (Taken_nil _).mono ?_
          rintro e _ ⟨rfl, rfl⟩
          go_wp2_with fail
          refine (Root_nil 0 _).mono ?_
          rintro e _ ⟨rfl, rfl⟩
          go_wp2_with fail
          refine HN.out.mono ?_
          rintro e w1 ⟨b1, m1, rfl, hk, hbw⟩
          have HO := Lib.hid (Open_size hk.disk HSM.out)
          have HF := Lib.hid (fun w' (k : Below w1.heap.size w1 w') => Format_size (hk.disk.grew k) HSM.out)
          have HB1 := Lib.hid hbw
          clear hk hbw HN
          go_wp2_with fail
          refine HO.out.mono ?_
          rintro e _ ⟨rfl, q, rfl⟩
          have HB2 := Lib.hid (grow HB1.out (below_drewN w1 q))
          have HF2 := Lib.hid (HF.out _ (below_drewN w1 q))
          go_wp2_with fail
          refine HF2.out.mono ?_
          rintro e _ ⟨rfl, q2, rfl⟩
          have HB3 := Lib.hid (grow HB1.out (below_drewN w1 (q + q2)))
          go_wp2_with fail
          refine (awake_any _).mono ?_
          rintro e w9 ⟨rfl, hb9⟩
          have HB := Lib.hid (grow HB3.out hb9)
          clear hb9
          go_wp2
          go_ret
          exact ⟨rfl, HB.out⟩
      · have h24 : ¬ (a : Int) < 24 := by omega
        have h512 : ¬ (b : Int) < 512 := by omega
        clear hsm
        have HS : Hid (24 ≤ a ∧ 512 ≤ b) := Lib.hid (by omega)
        have HA : Hid (a ≤ 1048576 ∧ b ≤ 4096) := Lib.hid (by omega)
        go_enter Tryz.func6, Tryz.ntmps6
        go_wp2_with fail
        refine (PTake_nil _).mono ?_
        rintro e _ ⟨rfl, rfl⟩
        go_wp2_with fail
        refine (PRead_nil2 1 _).mono ?_
        rintro e _ ⟨rfl, rfl⟩
        go_wp2_with fail
        refine (Format_nil _).mono ?_
        rintro e _ ⟨rfl, rfl⟩
        go_wp2_with fail
        refine (Open_nil _).mono ?_
        rintro e _ ⟨rfl, rfl⟩
        go_wp2_with fail
        refine (PWrite_nil 1 _ _).mono ?_
        rintro e _ ⟨rfl, rfl⟩
        go_wp2_with fail
        refine (PGive_nil 1 _).mono ?_
        rintro e _ ⟨rfl, rfl⟩
        go_wp2_with fail
        refine (SetRoot_nil 0 0 _).mono ?_
        rintro e _ ⟨rfl, rfl⟩
        go_wp2_with fail
        refine (PCommit_nil _).mono ?_
        rintro e _ ⟨rfl, rfl⟩
        go_wp2_with fail
        refine (PBack_nil _).mono ?_
        rintro e _ ⟨rfl, rfl⟩
        go_wp2_with fail
        refine (PCheckpoint_nil _).mono ?_
        rintro e _ ⟨rfl, rfl⟩
        go_wp2_with fail
        refine (Dead_nil _).mono ?_
        rintro e _ ⟨rfl, rfl⟩
        go_wp2_with fail
        refine (Room_nil _).mono ?_
        rintro e _ ⟨rfl, rfl⟩
        go_wp2_with fail
        refine (Pages_nil _).mono ?_
        rintro e _ ⟨rfl, rfl⟩
        go_wp2_with fail
        refine (Taken_nil _).mono ?_
        rintro e _ ⟨rfl, rfl⟩
        go_wp2_with fail
        refine (Root_nil 0 _).mono ?_
        rintro e _ ⟨rfl, rfl⟩
        go_wp2_with fail
        refine HN.out.mono ?_
        rintro e w1 ⟨b1, m1, rfl, hk, hbw⟩
        have HO := Lib.hid (Open_none hk.disk HS.out.1 HS.out.2 rfl (by show (0 : Nat) ≤ _; omega) (by
          have := (Cln.new HS.out.1 HA.out.1 HS.out.2 HA.out.2).heads (by decide)
          exact this))
        have HB1 := Lib.hid hbw
        clear hk hbw HN
        go_wp2_with fail
        refine HO.out.mono ?_
        rintro e w2 ⟨rfl, hb2'⟩
        have HB2 := Lib.hid (grow HB1.out hb2')
        clear hb2'
        go_wp2_with fail
        refine (awake_any _).mono ?_
        rintro e w9 ⟨rfl, hb9⟩
        have HB := Lib.hid (grow HB2.out hb9)
        clear hb9
        go_wp2
        go_ret
        exact ⟨rfl, HB.out⟩
end Go.Proofs.YtklppnknllbfnaaGreat
