/- Walks: meet, Cross. -/
import Derived.Test.YtkneohngbkmlpaaW7
namespace Go.Proofs.Ytkneohngbkmlpaa
open Go.RowKit

set_option maxHeartbeats 2000000 in
theorem meet_road (ax ay bx byy cx cy dx dy s0 s1 s2 s3 : Int) (x b1 b2 b3 b4 : Bool)
    (k1 : ∀ w, Calls Try.prog 47 #[.agg #[.int .i64 ax, .int .i64 ay], .agg #[.int .i64 bx, .int .i64 byy], .agg #[.int .i64 cx, .int .i64 cy], .agg #[.int .i64 dx, .int .i64 dy]] w fun e w' => e = .returned (.agg #[.int .i64 s0, .int .i64 s1, .int .i64 s2, .int .i64 s3]) ∧ Below w.heap.size w w')
    (k2 : ∀ w, Calls Try.prog 46 #[.agg #[.int .i64 s0, .int .i64 s1, .int .i64 s2, .int .i64 s3]] w fun e w' => e = .returned (.bool x) ∧ Below w.heap.size w w')
    (o1 : ∀ w, Calls Try.prog 41 #[.agg #[.int .i64 ax, .int .i64 ay], .agg #[.int .i64 bx, .int .i64 byy], .agg #[.int .i64 cx, .int .i64 cy]] w fun e w' => e = .returned (.bool b1) ∧ Below w.heap.size w w')
    (o2 : ∀ w, Calls Try.prog 41 #[.agg #[.int .i64 ax, .int .i64 ay], .agg #[.int .i64 bx, .int .i64 byy], .agg #[.int .i64 dx, .int .i64 dy]] w fun e w' => e = .returned (.bool b2) ∧ Below w.heap.size w w')
    (o3 : ∀ w, Calls Try.prog 41 #[.agg #[.int .i64 cx, .int .i64 cy], .agg #[.int .i64 dx, .int .i64 dy], .agg #[.int .i64 ax, .int .i64 ay]] w fun e w' => e = .returned (.bool b3) ∧ Below w.heap.size w w')
    (o4 : ∀ w, Calls Try.prog 41 #[.agg #[.int .i64 cx, .int .i64 cy], .agg #[.int .i64 dx, .int .i64 dy], .agg #[.int .i64 bx, .int .i64 byy]] w fun e w' => e = .returned (.bool b4) ∧ Below w.heap.size w w') (w : World) :
    Calls Try.prog 45 #[.agg #[.int .i64 ax, .int .i64 ay], .agg #[.int .i64 bx, .int .i64 byy], .agg #[.int .i64 cx, .int .i64 cy], .agg #[.int .i64 dx, .int .i64 dy]] w fun e w' => e = .returned (.bool (x || (b1 || (b2 || (b3 || b4))))) ∧ Below w.heap.size w w' := by
  have K1 := Lib.hid k1
  have K2 := Lib.hid k2
  have O1 := Lib.hid o1
  have O2 := Lib.hid o2
  have O3 := Lib.hid o3
  have O4 := Lib.hid o4
  clear k1 k2 o1 o2 o3 o4
  obtain ⟨w0, hw0, p0, p1, p2, p3, g0, z0⟩ := boxes4 w #[.int .i64 ax, .int .i64 ay] #[.int .i64 bx, .int .i64 byy] #[.int .i64 cx, .int .i64 cy] #[.int .i64 dx, .int .i64 dy] 24 24 24 24
  have c0 := p0.two
  have c1 := p1.two
  have c2 := p2.two
  have c3 := p3.two
  have HP := Lib.hid (And.intro p0 (And.intro p1 (And.intro p2 p3)))
  have HG := Lib.hid g0
  clear p0 p1 p2 p3 g0 z0
  cases x
  · cases b1
    · cases b2
      · cases b3
        · cases b4
          · go_enter Try.func45, Try.ntmps45
            go_wp2_with fail
            refine (K1.out _).mono ?_
            rintro e w1 ⟨rfl, hb⟩
            have HP1 := Lib.hid (And.intro (HP.out.1.grew hb) (And.intro (HP.out.2.1.grew hb) (And.intro (HP.out.2.2.1.grew hb) (HP.out.2.2.2.grew hb))))
            have c0 := HP1.out.1.two
            have c1 := HP1.out.2.1.two
            have c2 := HP1.out.2.2.1.two
            have c3 := HP1.out.2.2.2.two
            have HG1 := Lib.hid (grow HG.out hb)
            clear hb
            clear HP HG
            go_wp2_with fail
            refine (K2.out _).mono ?_
            rintro e w2 ⟨rfl, hb⟩
            have HP2 := Lib.hid (And.intro (HP1.out.1.grew hb) (And.intro (HP1.out.2.1.grew hb) (And.intro (HP1.out.2.2.1.grew hb) (HP1.out.2.2.2.grew hb))))
            have c0 := HP2.out.1.two
            have c1 := HP2.out.2.1.two
            have c2 := HP2.out.2.2.1.two
            have c3 := HP2.out.2.2.2.two
            have HG2 := Lib.hid (grow HG1.out hb)
            clear hb
            clear HP1 HG1
            go_wp2_with fail
            refine (O1.out _).mono ?_
            rintro e w3 ⟨rfl, hb⟩
            have HP3 := Lib.hid (And.intro (HP2.out.1.grew hb) (And.intro (HP2.out.2.1.grew hb) (And.intro (HP2.out.2.2.1.grew hb) (HP2.out.2.2.2.grew hb))))
            have c0 := HP3.out.1.two
            have c1 := HP3.out.2.1.two
            have c2 := HP3.out.2.2.1.two
            have c3 := HP3.out.2.2.2.two
            have HG3 := Lib.hid (grow HG2.out hb)
            clear hb
            clear HP2 HG2
            go_wp2_with fail
            refine (O2.out _).mono ?_
            rintro e w4 ⟨rfl, hb⟩
            have HP4 := Lib.hid (And.intro (HP3.out.1.grew hb) (And.intro (HP3.out.2.1.grew hb) (And.intro (HP3.out.2.2.1.grew hb) (HP3.out.2.2.2.grew hb))))
            have c0 := HP4.out.1.two
            have c1 := HP4.out.2.1.two
            have c2 := HP4.out.2.2.1.two
            have c3 := HP4.out.2.2.2.two
            have HG4 := Lib.hid (grow HG3.out hb)
            clear hb
            clear HP3 HG3
            go_wp2_with fail
            refine (O3.out _).mono ?_
            rintro e w5 ⟨rfl, hb⟩
            have HP5 := Lib.hid (And.intro (HP4.out.1.grew hb) (And.intro (HP4.out.2.1.grew hb) (And.intro (HP4.out.2.2.1.grew hb) (HP4.out.2.2.2.grew hb))))
            have c0 := HP5.out.1.two
            have c1 := HP5.out.2.1.two
            have c2 := HP5.out.2.2.1.two
            have c3 := HP5.out.2.2.2.two
            have HG5 := Lib.hid (grow HG4.out hb)
            clear hb
            clear HP4 HG4
            go_wp2_with fail
            refine (O4.out _).mono ?_
            rintro e w6 ⟨rfl, hb⟩
            have HP6 := Lib.hid (And.intro (HP5.out.1.grew hb) (And.intro (HP5.out.2.1.grew hb) (And.intro (HP5.out.2.2.1.grew hb) (HP5.out.2.2.2.grew hb))))
            have c0 := HP6.out.1.two
            have c1 := HP6.out.2.1.two
            have c2 := HP6.out.2.2.1.two
            have c3 := HP6.out.2.2.2.two
            have HG6 := Lib.hid (grow HG5.out hb)
            clear hb
            clear HP5 HG5
            go_wp2
            go_ret
            exact ⟨rfl, HG6.out⟩
          · go_enter Try.func45, Try.ntmps45
            go_wp2_with fail
            refine (K1.out _).mono ?_
            rintro e w1 ⟨rfl, hb⟩
            have HP1 := Lib.hid (And.intro (HP.out.1.grew hb) (And.intro (HP.out.2.1.grew hb) (And.intro (HP.out.2.2.1.grew hb) (HP.out.2.2.2.grew hb))))
            have c0 := HP1.out.1.two
            have c1 := HP1.out.2.1.two
            have c2 := HP1.out.2.2.1.two
            have c3 := HP1.out.2.2.2.two
            have HG1 := Lib.hid (grow HG.out hb)
            clear hb
            clear HP HG
            go_wp2_with fail
            refine (K2.out _).mono ?_
            rintro e w2 ⟨rfl, hb⟩
            have HP2 := Lib.hid (And.intro (HP1.out.1.grew hb) (And.intro (HP1.out.2.1.grew hb) (And.intro (HP1.out.2.2.1.grew hb) (HP1.out.2.2.2.grew hb))))
            have c0 := HP2.out.1.two
            have c1 := HP2.out.2.1.two
            have c2 := HP2.out.2.2.1.two
            have c3 := HP2.out.2.2.2.two
            have HG2 := Lib.hid (grow HG1.out hb)
            clear hb
            clear HP1 HG1
            go_wp2_with fail
            refine (O1.out _).mono ?_
            rintro e w3 ⟨rfl, hb⟩
            have HP3 := Lib.hid (And.intro (HP2.out.1.grew hb) (And.intro (HP2.out.2.1.grew hb) (And.intro (HP2.out.2.2.1.grew hb) (HP2.out.2.2.2.grew hb))))
            have c0 := HP3.out.1.two
            have c1 := HP3.out.2.1.two
            have c2 := HP3.out.2.2.1.two
            have c3 := HP3.out.2.2.2.two
            have HG3 := Lib.hid (grow HG2.out hb)
            clear hb
            clear HP2 HG2
            go_wp2_with fail
            refine (O2.out _).mono ?_
            rintro e w4 ⟨rfl, hb⟩
            have HP4 := Lib.hid (And.intro (HP3.out.1.grew hb) (And.intro (HP3.out.2.1.grew hb) (And.intro (HP3.out.2.2.1.grew hb) (HP3.out.2.2.2.grew hb))))
            have c0 := HP4.out.1.two
            have c1 := HP4.out.2.1.two
            have c2 := HP4.out.2.2.1.two
            have c3 := HP4.out.2.2.2.two
            have HG4 := Lib.hid (grow HG3.out hb)
            clear hb
            clear HP3 HG3
            go_wp2_with fail
            refine (O3.out _).mono ?_
            rintro e w5 ⟨rfl, hb⟩
            have HP5 := Lib.hid (And.intro (HP4.out.1.grew hb) (And.intro (HP4.out.2.1.grew hb) (And.intro (HP4.out.2.2.1.grew hb) (HP4.out.2.2.2.grew hb))))
            have c0 := HP5.out.1.two
            have c1 := HP5.out.2.1.two
            have c2 := HP5.out.2.2.1.two
            have c3 := HP5.out.2.2.2.two
            have HG5 := Lib.hid (grow HG4.out hb)
            clear hb
            clear HP4 HG4
            go_wp2_with fail
            refine (O4.out _).mono ?_
            rintro e w6 ⟨rfl, hb⟩
            have HP6 := Lib.hid (And.intro (HP5.out.1.grew hb) (And.intro (HP5.out.2.1.grew hb) (And.intro (HP5.out.2.2.1.grew hb) (HP5.out.2.2.2.grew hb))))
            have c0 := HP6.out.1.two
            have c1 := HP6.out.2.1.two
            have c2 := HP6.out.2.2.1.two
            have c3 := HP6.out.2.2.2.two
            have HG6 := Lib.hid (grow HG5.out hb)
            clear hb
            clear HP5 HG5
            go_wp2
            go_ret
            exact ⟨rfl, HG6.out⟩
        · go_enter Try.func45, Try.ntmps45
          go_wp2_with fail
          refine (K1.out _).mono ?_
          rintro e w1 ⟨rfl, hb⟩
          have HP1 := Lib.hid (And.intro (HP.out.1.grew hb) (And.intro (HP.out.2.1.grew hb) (And.intro (HP.out.2.2.1.grew hb) (HP.out.2.2.2.grew hb))))
          have c0 := HP1.out.1.two
          have c1 := HP1.out.2.1.two
          have c2 := HP1.out.2.2.1.two
          have c3 := HP1.out.2.2.2.two
          have HG1 := Lib.hid (grow HG.out hb)
          clear hb
          clear HP HG
          go_wp2_with fail
          refine (K2.out _).mono ?_
          rintro e w2 ⟨rfl, hb⟩
          have HP2 := Lib.hid (And.intro (HP1.out.1.grew hb) (And.intro (HP1.out.2.1.grew hb) (And.intro (HP1.out.2.2.1.grew hb) (HP1.out.2.2.2.grew hb))))
          have c0 := HP2.out.1.two
          have c1 := HP2.out.2.1.two
          have c2 := HP2.out.2.2.1.two
          have c3 := HP2.out.2.2.2.two
          have HG2 := Lib.hid (grow HG1.out hb)
          clear hb
          clear HP1 HG1
          go_wp2_with fail
          refine (O1.out _).mono ?_
          rintro e w3 ⟨rfl, hb⟩
          have HP3 := Lib.hid (And.intro (HP2.out.1.grew hb) (And.intro (HP2.out.2.1.grew hb) (And.intro (HP2.out.2.2.1.grew hb) (HP2.out.2.2.2.grew hb))))
          have c0 := HP3.out.1.two
          have c1 := HP3.out.2.1.two
          have c2 := HP3.out.2.2.1.two
          have c3 := HP3.out.2.2.2.two
          have HG3 := Lib.hid (grow HG2.out hb)
          clear hb
          clear HP2 HG2
          go_wp2_with fail
          refine (O2.out _).mono ?_
          rintro e w4 ⟨rfl, hb⟩
          have HP4 := Lib.hid (And.intro (HP3.out.1.grew hb) (And.intro (HP3.out.2.1.grew hb) (And.intro (HP3.out.2.2.1.grew hb) (HP3.out.2.2.2.grew hb))))
          have c0 := HP4.out.1.two
          have c1 := HP4.out.2.1.two
          have c2 := HP4.out.2.2.1.two
          have c3 := HP4.out.2.2.2.two
          have HG4 := Lib.hid (grow HG3.out hb)
          clear hb
          clear HP3 HG3
          go_wp2_with fail
          refine (O3.out _).mono ?_
          rintro e w5 ⟨rfl, hb⟩
          have HP5 := Lib.hid (And.intro (HP4.out.1.grew hb) (And.intro (HP4.out.2.1.grew hb) (And.intro (HP4.out.2.2.1.grew hb) (HP4.out.2.2.2.grew hb))))
          have c0 := HP5.out.1.two
          have c1 := HP5.out.2.1.two
          have c2 := HP5.out.2.2.1.two
          have c3 := HP5.out.2.2.2.two
          have HG5 := Lib.hid (grow HG4.out hb)
          clear hb
          clear HP4 HG4
          go_wp2
          go_ret
          exact ⟨rfl, HG5.out⟩
      · go_enter Try.func45, Try.ntmps45
        go_wp2_with fail
        refine (K1.out _).mono ?_
        rintro e w1 ⟨rfl, hb⟩
        have HP1 := Lib.hid (And.intro (HP.out.1.grew hb) (And.intro (HP.out.2.1.grew hb) (And.intro (HP.out.2.2.1.grew hb) (HP.out.2.2.2.grew hb))))
        have c0 := HP1.out.1.two
        have c1 := HP1.out.2.1.two
        have c2 := HP1.out.2.2.1.two
        have c3 := HP1.out.2.2.2.two
        have HG1 := Lib.hid (grow HG.out hb)
        clear hb
        clear HP HG
        go_wp2_with fail
        refine (K2.out _).mono ?_
        rintro e w2 ⟨rfl, hb⟩
        have HP2 := Lib.hid (And.intro (HP1.out.1.grew hb) (And.intro (HP1.out.2.1.grew hb) (And.intro (HP1.out.2.2.1.grew hb) (HP1.out.2.2.2.grew hb))))
        have c0 := HP2.out.1.two
        have c1 := HP2.out.2.1.two
        have c2 := HP2.out.2.2.1.two
        have c3 := HP2.out.2.2.2.two
        have HG2 := Lib.hid (grow HG1.out hb)
        clear hb
        clear HP1 HG1
        go_wp2_with fail
        refine (O1.out _).mono ?_
        rintro e w3 ⟨rfl, hb⟩
        have HP3 := Lib.hid (And.intro (HP2.out.1.grew hb) (And.intro (HP2.out.2.1.grew hb) (And.intro (HP2.out.2.2.1.grew hb) (HP2.out.2.2.2.grew hb))))
        have c0 := HP3.out.1.two
        have c1 := HP3.out.2.1.two
        have c2 := HP3.out.2.2.1.two
        have c3 := HP3.out.2.2.2.two
        have HG3 := Lib.hid (grow HG2.out hb)
        clear hb
        clear HP2 HG2
        go_wp2_with fail
        refine (O2.out _).mono ?_
        rintro e w4 ⟨rfl, hb⟩
        have HP4 := Lib.hid (And.intro (HP3.out.1.grew hb) (And.intro (HP3.out.2.1.grew hb) (And.intro (HP3.out.2.2.1.grew hb) (HP3.out.2.2.2.grew hb))))
        have c0 := HP4.out.1.two
        have c1 := HP4.out.2.1.two
        have c2 := HP4.out.2.2.1.two
        have c3 := HP4.out.2.2.2.two
        have HG4 := Lib.hid (grow HG3.out hb)
        clear hb
        clear HP3 HG3
        go_wp2
        go_ret
        exact ⟨rfl, HG4.out⟩
    · go_enter Try.func45, Try.ntmps45
      go_wp2_with fail
      refine (K1.out _).mono ?_
      rintro e w1 ⟨rfl, hb⟩
      have HP1 := Lib.hid (And.intro (HP.out.1.grew hb) (And.intro (HP.out.2.1.grew hb) (And.intro (HP.out.2.2.1.grew hb) (HP.out.2.2.2.grew hb))))
      have c0 := HP1.out.1.two
      have c1 := HP1.out.2.1.two
      have c2 := HP1.out.2.2.1.two
      have c3 := HP1.out.2.2.2.two
      have HG1 := Lib.hid (grow HG.out hb)
      clear hb
      clear HP HG
      go_wp2_with fail
      refine (K2.out _).mono ?_
      rintro e w2 ⟨rfl, hb⟩
      have HP2 := Lib.hid (And.intro (HP1.out.1.grew hb) (And.intro (HP1.out.2.1.grew hb) (And.intro (HP1.out.2.2.1.grew hb) (HP1.out.2.2.2.grew hb))))
      have c0 := HP2.out.1.two
      have c1 := HP2.out.2.1.two
      have c2 := HP2.out.2.2.1.two
      have c3 := HP2.out.2.2.2.two
      have HG2 := Lib.hid (grow HG1.out hb)
      clear hb
      clear HP1 HG1
      go_wp2_with fail
      refine (O1.out _).mono ?_
      rintro e w3 ⟨rfl, hb⟩
      have HP3 := Lib.hid (And.intro (HP2.out.1.grew hb) (And.intro (HP2.out.2.1.grew hb) (And.intro (HP2.out.2.2.1.grew hb) (HP2.out.2.2.2.grew hb))))
      have c0 := HP3.out.1.two
      have c1 := HP3.out.2.1.two
      have c2 := HP3.out.2.2.1.two
      have c3 := HP3.out.2.2.2.two
      have HG3 := Lib.hid (grow HG2.out hb)
      clear hb
      clear HP2 HG2
      go_wp2
      go_ret
      exact ⟨rfl, HG3.out⟩
  · go_enter Try.func45, Try.ntmps45
    go_wp2_with fail
    refine (K1.out _).mono ?_
    rintro e w1 ⟨rfl, hb⟩
    have HP1 := Lib.hid (And.intro (HP.out.1.grew hb) (And.intro (HP.out.2.1.grew hb) (And.intro (HP.out.2.2.1.grew hb) (HP.out.2.2.2.grew hb))))
    have c0 := HP1.out.1.two
    have c1 := HP1.out.2.1.two
    have c2 := HP1.out.2.2.1.two
    have c3 := HP1.out.2.2.2.two
    have HG1 := Lib.hid (grow HG.out hb)
    clear hb
    clear HP HG
    go_wp2_with fail
    refine (K2.out _).mono ?_
    rintro e w2 ⟨rfl, hb⟩
    have HP2 := Lib.hid (And.intro (HP1.out.1.grew hb) (And.intro (HP1.out.2.1.grew hb) (And.intro (HP1.out.2.2.1.grew hb) (HP1.out.2.2.2.grew hb))))
    have c0 := HP2.out.1.two
    have c1 := HP2.out.2.1.two
    have c2 := HP2.out.2.2.1.two
    have c3 := HP2.out.2.2.2.two
    have HG2 := Lib.hid (grow HG1.out hb)
    clear hb
    clear HP1 HG1
    go_wp2
    go_ret
    exact ⟨rfl, HG2.out⟩

end Go.Proofs.Ytkneohngbkmlpaa
