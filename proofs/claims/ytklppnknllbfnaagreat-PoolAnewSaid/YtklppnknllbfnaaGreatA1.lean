/- Walks: what a log that is not there, on no disk or on no place of a disk tells. -/
import Derived.Test.YtklppnknllbfnaaGreatLD
namespace Go.Proofs.YtklppnknllbfnaaGreat
open Go.RowKit Go.Maps Go.Shelf
attribute [local go_sem] Oper.semAt_some
set_option maxRecDepth 8000
variable {ι : Type} [Bar ι]

def AtNo (P : Option Addr) (f c : Int) (w : World) : Prop := ∀ w', Below w.heap.size w w' → Calls Tryz.prog 76 #[.pointer P, .int .i64 f, .int .i64 c] w' fun r w'' => r = .returned (.tuple #[.agg #[.pointer none, .int .i64 0, .int .i64 0], .int .i64 1]) ∧ Below w'.heap.size w' w''

section
variable {b m : Nat} {vl : Value} {D : Dsk} {w : World}
theorem at_bad (h : DiskAt w b m vl D) (f c : Int) (hk : okAt D f c = false) (hf : -9223372036854775808 ≤ f ∧ f ≤ 9223372036854775807) (hc : -9223372036854775808 ≤ c ∧ c ≤ 9223372036854775807) :
    Calls Tryz.prog 76 #[.pointer (some ⟨b, 0, none⟩), .int .i64 f, .int .i64 c] w fun e w' => e = .returned (.tuple #[.agg #[.pointer none, .int .i64 0, .int .i64 0], .int .i64 1]) ∧ Below w.heap.size w w' := by
  unfold okAt at hk
  have hk2 := of_decide_eq_false hk
  have hs2 := h.ok.s2
  have HS := Lib.hid (Sectors_any (h.alloc (.cells #[.pointer none, .int .i64 0, .int .i64 0] 116)))
  have hb : Below w.heap.size w ((w.alloc (.cells #[.pointer none, .int .i64 0, .int .i64 0] 116)).setCell ⟨w.heap.size, 0, none⟩ (.pointer none)) := by
    exact ((Below.refl _ w).alloc (Nat.le_refl _) _).setCell (p := ⟨w.heap.size, 0, none⟩) (Nat.le_refl _) _
  clear hk h
  by_cases h1 : f < 0
  · clear HS hk2
    go_enter Tryz.func76, Tryz.ntmps76
    go_wp2
    refine bodyPost_ret (v := .tuple #[.agg #[.pointer none, .int .i64 0, .int .i64 0], .int .i64 1]) ?_ rfl ⟨rfl, ?_⟩
    · simp [results, Tryz.results76, go_sem]
    · go_grown
  by_cases h2 : c < 1
  · clear HS hk2
    go_enter Tryz.func76, Tryz.ntmps76
    go_wp2
    refine bodyPost_ret (v := .tuple #[.agg #[.pointer none, .int .i64 0, .int .i64 0], .int .i64 1]) ?_ rfl ⟨rfl, ?_⟩
    · simp [results, Tryz.results76, go_sem]
    · go_grown
  by_cases h3 : 1048576 < c
  · clear HS hk2
    go_enter Tryz.func76, Tryz.ntmps76
    go_wp2
    refine bodyPost_ret (v := .tuple #[.agg #[.pointer none, .int .i64 0, .int .i64 0], .int .i64 1]) ?_ rfl ⟨rfl, ?_⟩
    · simp [results, Tryz.results76, go_sem]
    · go_grown
  have h4 : (D.sectors : Int) - c < f := by omega
  clear hk2
  go_enter Tryz.func76, Tryz.ntmps76
  go_wp2_with fail
  refine HS.out.mono ?_
  rintro e w1 ⟨rfl, rfl⟩
  clear HS
  go_wp2
  refine bodyPost_ret (v := .tuple #[.agg #[.pointer none, .int .i64 0, .int .i64 0], .int .i64 1]) ?_ rfl ⟨rfl, ?_⟩
  · simp [results, Tryz.results76, go_sem]
  · go_grown
theorem AtNo.nil (f c : Int) (w : World) : AtNo none f c w := fun w1 _ => at_nil f c w1
theorem AtNo.bad (h : DiskAt w b m vl D) (f c : Int) (hk : okAt D f c = false) (hf : -9223372036854775808 ≤ f ∧ f ≤ 9223372036854775807) (hc : -9223372036854775808 ≤ c ∧ c ≤ 9223372036854775807) : AtNo (some ⟨b, 0, none⟩) f c w :=
  fun _ hb => at_bad (h.grew hb) f c hk hf hc
end

theorem Start_not {P : Option Addr} {f c : Int} {w : World} (h : AtNo P f c w) (e : Int) :
    Calls Tryz.prog 81 #[.pointer P, .int .i64 f, .int .i64 c, .int .i64 e] w fun r w' => r = .returned (.tuple #[.pointer none, .int .i64 1]) ∧ Below w.heap.size w w' := by
  have HA := Lib.hid (h w (Below.refl _ _))
  clear h
  go_enter Tryz.func81, Tryz.ntmps81
  go_wp2_with fail
  refine HA.out.mono ?_
  rintro r w1 ⟨rfl, hb⟩
  have HB := Lib.hid (grow_alloc hb (.cells #[.pointer none, .int .i64 0, .int .i64 0] 116))
  clear hb HA
  go_wp2
  go_ret2
  exact ⟨rfl, HB.out⟩
theorem LRead_not {P : Option Addr} {f c : Int} {w : World} (h : AtNo P f c w) (e : Int) :
    Calls Tryz.prog 55 #[.pointer P, .int .i64 f, .int .i64 c, .int .i64 e] w fun r w' => r = .returned (.tuple #[nilv, .int .i64 1]) ∧ Below w.heap.size w w' := by
  refine (callsIn_wide (n := 5)).1 ?_
  have HA := Lib.hid (h (w.alloc (.cells #[.int .i64 e] 3)) (grow_alloc (Below.refl _ _) _))
  clear h
  refine callsIn_of_wp_marks Tryz.func55 rfl trivial ?_
  simp only [Tryz.ntmps55, List.size_toArray, List.length_cons, List.length_nil, Nat.reduceAdd, Nat.reduceSub, Array.replicate_succ, Array.replicate_zero, List.push_toArray, List.append_toArray, List.nil_append, List.cons_append]
  gi_wp2_with fail
  refine ⟨trivial, callsIn_wide.2 (HA.out.mono ?_)⟩
  rintro r w1 ⟨rfl, hb⟩
  have HB := Lib.hid (grow_alloc (grow_alloc (grow (grow_alloc (Below.refl _ w) (.cells #[.int .i64 e] 3)) hb) (.cells #[.pointer none, .int .i64 0, .int .i64 0] 116)) (.cells #[.int .i64 1] 25))
  clear hb HA
  gi_wp2
  refine ⟨trivial, ?_⟩
  gi_wp2
  exact ⟨_, results_tmp2 rfl _ _ _, rfl, HB.out⟩
theorem Latest_not {P : Option Addr} {f c : Int} {w : World} (h : AtNo P f c w) :
    Calls Tryz.prog 41 #[.pointer P, .int .i64 f, .int .i64 c] w fun r w' => r = .returned (.tuple #[.int .i64 0, .int .i64 1]) ∧ Below w.heap.size w w' := by
  refine (callsIn_wide (n := 5)).1 ?_
  have HA := Lib.hid (h w (Below.refl _ _))
  clear h
  refine callsIn_of_wp_marks Tryz.func41 rfl trivial ?_
  simp only [Tryz.ntmps41, List.size_toArray, List.length_cons, List.length_nil, Nat.reduceAdd, Nat.reduceSub, Array.replicate_succ, Array.replicate_zero, List.push_toArray, List.append_toArray, List.nil_append, List.cons_append]
  gi_wp2_with fail
  refine ⟨trivial, callsIn_wide.2 (HA.out.mono ?_)⟩
  rintro r w1 ⟨rfl, hb⟩
  have HB := Lib.hid (grow_alloc (grow_alloc hb (.cells #[.pointer none, .int .i64 0, .int .i64 0] 116)) (.cells #[.int .i64 1] 25))
  clear hb HA
  gi_wp2
  gi_region
  gi_wp2
  exact ⟨_, results_tmp2 rfl _ _ _, rfl, HB.out.drew⟩
theorem Clean_not {P : Option Addr} {f c : Int} {w : World} (h : AtNo P f c w) :
    Calls Tryz.prog 42 #[.pointer P, .int .i64 f, .int .i64 c] w fun r w' => r = .returned (.int .i64 1) ∧ Below w.heap.size w w' := by
  refine (callsIn_wide (n := 5)).1 ?_
  have HA := Lib.hid (h w (Below.refl _ _))
  clear h
  refine callsIn_of_wp_marks Tryz.func42 rfl trivial ?_
  simp only [Tryz.ntmps42, List.size_toArray, List.length_cons, List.length_nil, Nat.reduceAdd, Nat.reduceSub, Array.replicate_succ, Array.replicate_zero, List.push_toArray, List.append_toArray, List.nil_append, List.cons_append]
  gi_wp2_with fail
  refine ⟨trivial, callsIn_wide.2 (HA.out.mono ?_)⟩
  rintro r w1 ⟨rfl, hb⟩
  have HB := Lib.hid (grow_alloc (grow_alloc hb (.cells #[.pointer none, .int .i64 0, .int .i64 0] 116)) (.cells #[.int .i64 1] 25))
  clear hb HA
  gi_wp2
  exact ⟨_, results_tmp rfl _ _ _, rfl, HB.out⟩
theorem Append_nil (v : Value) (w : World) : Calls Tryz.prog 68 #[.pointer none, v] w fun r w' => r = .returned (.int .i64 1) ∧ w' = w := by
  go_enter Tryz.func68, Tryz.ntmps68
  go_wp2
  go_ret
  exact ⟨rfl, rfl⟩
section
variable {b m : Nat} {vl : Value} {D : Dsk} {w : World}
theorem LRead_ep (h : DiskAt w b m vl D) (f c e : Int) (hk : okAt D f c = true) (he : okEp e = false) :
    Calls Tryz.prog 55 #[.pointer (some ⟨b, 0, none⟩), .int .i64 f, .int .i64 c, .int .i64 e] w fun r w' => r = .returned (.tuple #[nilv, .int .i64 1]) ∧ Below w.heap.size w w' := by
  refine (callsIn_wide (n := 5)).1 ?_
  obtain ⟨w0, hw0⟩ : ∃ w0, w0 = w.alloc (.cells #[.int .i64 e] 3) := ⟨_, rfl⟩
  have hb0 : Below w.heap.size w w0 := by subst hw0; exact grow_alloc (Below.refl _ _) _
  have hE : Blk w0 w.heap.size #[.int .i64 e] 3 := by subst hw0; exact Blk.new _ _ _
  have HA := Lib.hid (at_ok (h.grew hb0) f c hk)
  have HM := Lib.hid (fun w => lmay_any e w)
  rw [he] at HM
  have HE := Lib.hid (And.intro hb0 hE)
  clear h hk he hb0 hE
  refine callsIn_of_wp_marks Tryz.func55 rfl trivial ?_
  simp only [Tryz.ntmps55, List.size_toArray, List.length_cons, List.length_nil, Nat.reduceAdd, Nat.reduceSub, Array.replicate_succ, Array.replicate_zero, List.push_toArray, List.append_toArray, List.nil_append, List.cons_append]
  gi_wp2_with fail
  rw [← hw0]
  clear hw0
  refine ⟨trivial, callsIn_wide.2 (HA.out.mono ?_)⟩
  rintro r w1 ⟨rfl, hb⟩
  have hg := grow_alloc (grow_alloc (Below.refl _ w1) (.cells #[.pointer (some ⟨b, 0, none⟩), .int .i64 f, .int .i64 c] 116)) (.cells #[.int .i64 0] 25)
  have HB := Lib.hid (grow (grow HE.out.1 hb) hg)
  have hc := ((HE.out.2.grew hb).grew hg).cell 0
  clear hb HA hg
  gi_wp2_with fail
  refine ⟨trivial, callsIn_wide.2 ((HM.out _).mono ?_)⟩
  rintro r w2 ⟨rfl, rfl⟩
  gi_wp2
  exact ⟨_, results_tmp2 rfl _ _ _, rfl, HB.out⟩
end
end Go.Proofs.YtklppnknllbfnaaGreat
