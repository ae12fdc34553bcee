/- Walks: LogNil. -/
import Derived.Test.YtpomfokpmbblkaaA3
namespace Go.Proofs.Ytpomfokpmbblkaa
open Go.RowKit Go.Maps
set_option maxRecDepth 8000

set_option maxHeartbeats 4000000 in
theorem Nil_any (f c : Int) (w : World) : Calls Try.prog 7 #[.int .i64 f, .int .i64 c] w fun e w' => e = .returned (.bool true) ∧ Below w.heap.size w w' := by
  go_enter Try.func7, Try.ntmps7
  go_wp2_with fail
  refine (LRead_not (AtNo.nil f c w) 1).mono ?_
  rintro e w1 ⟨rfl, hb⟩
  have HB := Lib.hid hb
  clear hb
  go_wp2_with fail
  refine (Latest_not (AtNo.nil f c w1)).mono ?_
  rintro e w2 ⟨rfl, hb⟩
  have HB := Lib.hid (grow HB.out hb)
  clear hb
  go_wp2_with fail
  refine (Start_not (AtNo.nil f c w2) 1).mono ?_
  rintro e w3 ⟨rfl, hb⟩
  have HB := Lib.hid (grow HB.out hb)
  clear hb
  go_wp2_with fail
  refine (Clean_not (AtNo.nil f c w3)).mono ?_
  rintro e w4 ⟨rfl, hb⟩
  have HB := Lib.hid (grow HB.out hb)
  clear hb
  go_wp2_with fail
  refine (Append_nil _ w4).mono ?_
  rintro e w5 ⟨rfl, hw⟩
  subst hw
  go_wp2_with fail
  refine (Left_nil w5).mono ?_
  rintro e w6 ⟨rfl, hw⟩
  subst hw
  go_wp2_with fail
  refine (Dead_nil w6).mono ?_
  rintro e w7 ⟨rfl, hw⟩
  subst hw
  go_wp2_with fail
  refine (awake_any w7).mono ?_
  rintro e w8 ⟨rfl, hb⟩
  have HB := Lib.hid (grow HB.out hb)
  clear hb
  go_wp2
  go_ret
  exact ⟨rfl, HB.out⟩
end Go.Proofs.Ytpomfokpmbblkaa
