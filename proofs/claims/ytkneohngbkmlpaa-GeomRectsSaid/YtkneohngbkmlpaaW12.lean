/- Walks: what the chapter's examples say. -/
import Derived.Test.YtkneohngbkmlpaaW11
namespace Go.Proofs.Ytkneohngbkmlpaa
open Go.RowKit

def sq : List Pt := [⟨0, 0⟩, ⟨10, 0⟩, ⟨10, 10⟩, ⟨0, 10⟩]
theorem ex1 : TurnF ⟨0, 0⟩ ⟨1, 0⟩ ⟨0, 1⟩ = 1 := by decide
theorem ex2 : MeetF ⟨0, 0⟩ ⟨2, 2⟩ ⟨0, 2⟩ ⟨2, 0⟩ = true := by decide
theorem ex3 : CrossF ⟨0, 0⟩ ⟨2, 2⟩ ⟨0, 2⟩ ⟨2, 0⟩ = true := by decide
theorem ex4 : CrossF ⟨0, 0⟩ ⟨2, 0⟩ ⟨2, 0⟩ ⟨3, 5⟩ = false := by decide
theorem ex5 : InsideF sq ⟨5, 5⟩ = 1 := by decide
theorem ex6 : InsideF sq ⟨0, 5⟩ = 0 := by decide
theorem ex7 : InsideF sq ⟨11, 5⟩ = -1 := by decide

set_option maxRecDepth 20000 in
set_option maxHeartbeats 4000000 in
theorem awake_any (w : World) : Calls Try.prog 14 #[] w fun e w' => e = .returned (.bool true) ∧ Below w.heap.size w w' := by
  have c1 := Turn_any ⟨0, 0⟩ ⟨1, 0⟩ ⟨0, 1⟩
  rw [ex1] at c1
  have c2 := Meet_any ⟨0, 0⟩ ⟨2, 2⟩ ⟨0, 2⟩ ⟨2, 0⟩
  rw [ex2] at c2
  have c3 := Cross_any ⟨0, 0⟩ ⟨2, 2⟩ ⟨0, 2⟩ ⟨2, 0⟩
  rw [ex3] at c3
  have c4 := Cross_any ⟨0, 0⟩ ⟨2, 0⟩ ⟨2, 0⟩ ⟨3, 5⟩
  rw [ex4] at c4
  have ci : ∀ (x y v : Int), InsideF sq ⟨x, y⟩ = v → ∀ (b : Nat) (w : World), Blk w b #[.int .i64 0, .int .i64 0, .int .i64 10, .int .i64 0, .int .i64 10, .int .i64 10, .int .i64 0, .int .i64 10] 24 →
      Calls Try.prog 13 #[.slice (some ⟨b, 0, none⟩) 4 4, .agg #[.int .i64 x, .int .i64 y]] w fun e w' => e = .returned (.int .i64 v) ∧ Below w.heap.size w w' := fun x y v hv b w hb => by
    have := Inside_any (some ⟨b, 0, none⟩) sq 4 4 ⟨x, y⟩ w rfl (pts4 hb) (by decide)
    rw [hv] at this
    exact this
  have C1 := Lib.hid c1
  have C2 := Lib.hid c2
  have C3 := Lib.hid c3
  have C4 := Lib.hid c4
  have C5 := Lib.hid (ci 5 5 1 ex5)
  have C6 := Lib.hid (ci 0 5 0 ex6)
  have C7 := Lib.hid (ci 11 5 (-1) ex7)
  clear c1 c2 c3 c4 ci
  have HG0 := Lib.hid (Below.refl w.heap.size w)
  go_enter Try.func14, Try.ntmps14
  go_wp2_with fail
  refine (at_any _ _ _).mono ?_
  rintro e w1 ⟨rfl, hb⟩
  have HG1 := Lib.hid (grow HG0.out hb)
  clear hb HG0
  go_wp2_with fail
  refine (at_any _ _ _).mono ?_
  rintro e w2 ⟨rfl, hb⟩
  have HG2 := Lib.hid (grow HG1.out hb)
  clear hb HG1
  go_wp2_with fail
  refine (at_any _ _ _).mono ?_
  rintro e w3 ⟨rfl, hb⟩
  have HG3 := Lib.hid (grow HG2.out hb)
  clear hb HG2
  go_wp2_with fail
  refine (at_any _ _ _).mono ?_
  rintro e w4 ⟨rfl, hb⟩
  have HG4 := Lib.hid (grow HG3.out hb)
  clear hb HG3
  have rb := Blk.new w4 #[.int .i64 0, .int .i64 0, .int .i64 10, .int .i64 0, .int .i64 10, .int .i64 10, .int .i64 0, .int .i64 10] 24
  have HGa := Lib.hid (grow_alloc HG4.out (.cells #[.int .i64 0, .int .i64 0, .int .i64 10, .int .i64 0, .int .i64 10, .int .i64 10, .int .i64 0, .int .i64 10] 24))
  have HR4 := Lib.hid rb
  clear rb HG4
  have HG4 := HGa
  clear HGa
  go_wp2_with fail
  refine (at_any _ _ _).mono ?_
  rintro e w5 ⟨rfl, hb⟩
  have HG5 := Lib.hid (grow HG4.out hb)
  have HR5 := Lib.hid (HR4.out.grew hb)
  clear HR4
  clear hb HG4
  go_wp2_with fail
  refine (at_any _ _ _).mono ?_
  rintro e w6 ⟨rfl, hb⟩
  have HG6 := Lib.hid (grow HG5.out hb)
  have HR6 := Lib.hid (HR5.out.grew hb)
  clear HR5
  clear hb HG5
  go_wp2_with fail
  refine (at_any _ _ _).mono ?_
  rintro e w7 ⟨rfl, hb⟩
  have HG7 := Lib.hid (grow HG6.out hb)
  have HR7 := Lib.hid (HR6.out.grew hb)
  clear HR6
  clear hb HG6
  go_wp2_with fail
  refine (C1.out _).mono ?_
  rintro e w8 ⟨rfl, hb⟩
  have HG8 := Lib.hid (grow HG7.out hb)
  have HR8 := Lib.hid (HR7.out.grew hb)
  clear HR7 hb HG7
  go_wp2_with fail
  refine (at_any _ _ _).mono ?_
  rintro e w9 ⟨rfl, hb⟩
  have HG9 := Lib.hid (grow HG8.out hb)
  have HR9 := Lib.hid (HR8.out.grew hb)
  clear HR8
  clear hb HG8
  go_wp2_with fail
  refine (at_any _ _ _).mono ?_
  rintro e w10 ⟨rfl, hb⟩
  have HG10 := Lib.hid (grow HG9.out hb)
  have HR10 := Lib.hid (HR9.out.grew hb)
  clear HR9
  clear hb HG9
  go_wp2_with fail
  refine (at_any _ _ _).mono ?_
  rintro e w11 ⟨rfl, hb⟩
  have HG11 := Lib.hid (grow HG10.out hb)
  have HR11 := Lib.hid (HR10.out.grew hb)
  clear HR10
  clear hb HG10
  go_wp2_with fail
  refine (at_any _ _ _).mono ?_
  rintro e w12 ⟨rfl, hb⟩
  have HG12 := Lib.hid (grow HG11.out hb)
  have HR12 := Lib.hid (HR11.out.grew hb)
  clear HR11
  clear hb HG11
  go_wp2_with fail
  refine (C2.out _).mono ?_
  rintro e w13 ⟨rfl, hb⟩
  have HG13 := Lib.hid (grow HG12.out hb)
  have HR13 := Lib.hid (HR12.out.grew hb)
  clear HR12 hb HG12
  go_wp2_with fail
  refine (at_any _ _ _).mono ?_
  rintro e w14 ⟨rfl, hb⟩
  have HG14 := Lib.hid (grow HG13.out hb)
  have HR14 := Lib.hid (HR13.out.grew hb)
  clear HR13
  clear hb HG13
  go_wp2_with fail
  refine (at_any _ _ _).mono ?_
  rintro e w15 ⟨rfl, hb⟩
  have HG15 := Lib.hid (grow HG14.out hb)
  have HR15 := Lib.hid (HR14.out.grew hb)
  clear HR14
  clear hb HG14
  go_wp2_with fail
  refine (at_any _ _ _).mono ?_
  rintro e w16 ⟨rfl, hb⟩
  have HG16 := Lib.hid (grow HG15.out hb)
  have HR16 := Lib.hid (HR15.out.grew hb)
  clear HR15
  clear hb HG15
  go_wp2_with fail
  refine (at_any _ _ _).mono ?_
  rintro e w17 ⟨rfl, hb⟩
  have HG17 := Lib.hid (grow HG16.out hb)
  have HR17 := Lib.hid (HR16.out.grew hb)
  clear HR16
  clear hb HG16
  go_wp2_with fail
  refine (C3.out _).mono ?_
  rintro e w18 ⟨rfl, hb⟩
  have HG18 := Lib.hid (grow HG17.out hb)
  have HR18 := Lib.hid (HR17.out.grew hb)
  clear HR17 hb HG17
  go_wp2_with fail
  refine (at_any _ _ _).mono ?_
  rintro e w19 ⟨rfl, hb⟩
  have HG19 := Lib.hid (grow HG18.out hb)
  have HR19 := Lib.hid (HR18.out.grew hb)
  clear HR18
  clear hb HG18
  go_wp2_with fail
  refine (at_any _ _ _).mono ?_
  rintro e w20 ⟨rfl, hb⟩
  have HG20 := Lib.hid (grow HG19.out hb)
  have HR20 := Lib.hid (HR19.out.grew hb)
  clear HR19
  clear hb HG19
  go_wp2_with fail
  refine (at_any _ _ _).mono ?_
  rintro e w21 ⟨rfl, hb⟩
  have HG21 := Lib.hid (grow HG20.out hb)
  have HR21 := Lib.hid (HR20.out.grew hb)
  clear HR20
  clear hb HG20
  go_wp2_with fail
  refine (at_any _ _ _).mono ?_
  rintro e w22 ⟨rfl, hb⟩
  have HG22 := Lib.hid (grow HG21.out hb)
  have HR22 := Lib.hid (HR21.out.grew hb)
  clear HR21
  clear hb HG21
  go_wp2_with fail
  refine (C4.out _).mono ?_
  rintro e w23 ⟨rfl, hb⟩
  have HG23 := Lib.hid (grow HG22.out hb)
  have HR23 := Lib.hid (HR22.out.grew hb)
  clear HR22 hb HG22
  go_wp2_with fail
  refine (at_any _ _ _).mono ?_
  rintro e w24 ⟨rfl, hb⟩
  have HG24 := Lib.hid (grow HG23.out hb)
  have HR24 := Lib.hid (HR23.out.grew hb)
  clear HR23
  clear hb HG23
  go_wp2_with fail
  refine (C5.out _ _ HR24.out).mono ?_
  rintro e w25 ⟨rfl, hb⟩
  have HG25 := Lib.hid (grow HG24.out hb)
  have HR25 := Lib.hid (HR24.out.grew hb)
  clear HR24 hb HG24
  go_wp2_with fail
  refine (at_any _ _ _).mono ?_
  rintro e w26 ⟨rfl, hb⟩
  have HG26 := Lib.hid (grow HG25.out hb)
  have HR26 := Lib.hid (HR25.out.grew hb)
  clear HR25
  clear hb HG25
  go_wp2_with fail
  refine (C6.out _ _ HR26.out).mono ?_
  rintro e w27 ⟨rfl, hb⟩
  have HG27 := Lib.hid (grow HG26.out hb)
  have HR27 := Lib.hid (HR26.out.grew hb)
  clear HR26 hb HG26
  go_wp2_with fail
  refine (at_any _ _ _).mono ?_
  rintro e w28 ⟨rfl, hb⟩
  have HG28 := Lib.hid (grow HG27.out hb)
  have HR28 := Lib.hid (HR27.out.grew hb)
  clear HR27
  clear hb HG27
  go_wp2_with fail
  refine (C7.out _ _ HR28.out).mono ?_
  rintro e w29 ⟨rfl, hb⟩
  have HG29 := Lib.hid (grow HG28.out hb)
  have HR29 := Lib.hid (HR28.out.grew hb)
  clear HR28 hb HG28
  go_wp2
  go_ret
  exact ⟨rfl, HG29.out⟩

end Go.Proofs.Ytkneohngbkmlpaa
