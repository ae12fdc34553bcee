/- Walks: GeomJoins; the plain law of bounds. -/
import Derived.Test.YtkneohngbkmlpaaW26
import Derived.Test.YtkneohngbkmlpaaRow
import Derived.Test.YtkneohngbkmlpaaW12
import Derived.Lib.AppendZeros
namespace Go.Proofs.Ytkneohngbkmlpaa
open Go.RowKit

def addP (o : Rc) (q : Pt) : Rc := joinR o (ptR q)
theorem join_comm (r s : Rc) : joinR r s = joinR s r := by
  unfold joinR
  rw [Int.min_comm r.x0, Int.min_comm r.y0, Int.max_comm r.x1, Int.max_comm r.y1]
theorem join_assoc (r s t : Rc) : joinR (joinR r s) t = joinR r (joinR s t) := by
  unfold joinR
  dsimp only
  rw [Int.min_assoc, Int.min_assoc, Int.max_assoc, Int.max_assoc]
theorem join_self (r : Rc) : joinR r r = r := by
  unfold joinR
  rw [Int.min_self, Int.min_self, Int.max_self, Int.max_self]
theorem fold_join (o r : Rc) : ∀ l : List Pt, l.foldl addP (joinR o r) = joinR o (l.foldl addP r) := by
  intro l
  induction l generalizing r with
  | nil => rfl
  | cons q l ih =>
    simp only [List.foldl_cons]
    rw [← ih]
    unfold addP
    rw [join_assoc]
theorem bnd_cons (p : Pt) (l : List Pt) : bndL (p :: l) = l.foldl addP (ptR p) := by
  show (p :: l).foldl addP (ptR p) = _
  rw [List.foldl_cons]
  unfold addP
  rw [join_self]
theorem fold_bnd (o : Rc) : ∀ l : List Pt, l ≠ [] → l.foldl addP o = joinR o (bndL l)
  | [], h => absurd rfl h
  | p :: l, _ => by
    rw [bnd_cons, List.foldl_cons, ← fold_join]
    rfl
theorem bnd_append {l m : List Pt} (hl : l ≠ []) (hm : m ≠ []) : bndL (l ++ m) = joinR (bndL l) (bndL m) := by
  cases l with
  | nil => exact absurd rfl hl
  | cons p l =>
    rw [List.cons_append, bnd_cons, List.foldl_append, bnd_cons]
    exact fold_bnd _ m hm
theorem mayR_fold : ∀ (l : List Pt) (o : Rc), MayR o → (∀ q ∈ l, May q) → MayR (l.foldl addP o)
  | [], _, h, _ => h
  | q :: l, o, h, hl => by
    rw [List.foldl_cons]
    refine mayR_fold l _ ?_ (fun r hr => hl r (List.mem_cons_of_mem _ hr))
    have hq := hl q List.mem_cons_self
    unfold MayR May addP joinR ptR at *
    dsimp only at *
    omega
theorem mayR_bnd {l : List Pt} (hne : l ≠ []) (hl : ∀ q ∈ l, May q) : MayR (bndL l) := by
  cases l with
  | nil => exact absurd rfl hne
  | cons p l =>
    rw [bnd_cons]
    refine mayR_fold l _ ?_ (fun r hr => hl r (List.mem_cons_of_mem _ hr))
    have hq := hl p List.mem_cons_self
    unfold MayR May ptR at *
    dsimp only at *
    omega
theorem holds_fold : ∀ (l : List Pt) (o : Rc) (q : Pt), holdsR o q ∨ q ∈ l → holdsR (l.foldl addP o) q
  | [], _, _, h => h.elim id (fun h => absurd h List.not_mem_nil)
  | p :: l, o, q, h => by
    rw [List.foldl_cons]
    refine holds_fold l _ q ?_
    rcases h with h | h
    · left
      unfold holdsR addP joinR at *
      dsimp only at *
      omega
    · rcases List.mem_cons.1 h with rfl | h
      · left
        unfold holdsR addP joinR ptR
        dsimp only
        omega
      · exact .inr h
theorem holds_bnd {l : List Pt} {q : Pt} (h : q ∈ l) : holdsR (bndL l) q := by
  cases l with
  | nil => exact absurd h List.not_mem_nil
  | cons p l => exact holds_fold (p :: l) (ptR p) q (.inr h)

theorem holdsF_bnd {l : List Pt} (hl : ∀ q ∈ l, May q) {q : Pt} (h : q ∈ l) : HoldsF (bndL l) q = true := by
  unfold HoldsF
  rw [decide_eq_true (mayR_bnd (List.ne_nil_of_mem h) hl), decide_eq_true (hl q h), decide_eq_true (holds_bnd h)]; rfl

theorem isB_false {l m : List Pt} (h : ¬ (isB l = true ∧ isB m = true)) : isB (l ++ m) = ((isB l && decide (m = [])) || (isB m && decide (l = []))) := by
  cases l with
  | nil => simp [isB]
  | cons p l =>
    cases m with
    | nil => simp [isB]
    | cons q m =>
      have e : isB ((p :: l) ++ (q :: m)) = false := decide_eq_false fun k => h ⟨decide_eq_true ⟨by simp, fun r hr => k.2 r (List.mem_append_left _ hr)⟩, decide_eq_true ⟨by simp, fun r hr => k.2 r (List.mem_append_right _ hr)⟩⟩
      rw [e]
      simp
theorem isB_true {l m : List Pt} (h : isB l = true) (k : isB m = true) : isB (l ++ m) = true := by
  unfold isB at *
  rw [decide_eq_true_eq] at *
  refine ⟨by simp [h.1], fun r hr => ?_⟩
  rcases List.mem_append.1 hr with hr | hr
  · exact h.2 r hr
  · exact k.2 r hr

set_option maxRecDepth 20000 in
set_option maxHeartbeats 4000000 in
theorem Joins_out
    (A B A2 : Option Addr) (n k c d c2 : Nat) (v1 : Value) (w w1 w2 : World) (rx0 ry0 rx1 ry1 sx0 sy0 sx1 sy1 bx0 by0 bx1 by1 : Int)
    (hn : (n : Int) ≤ 60) (hk : (k : Int) ≤ 60)
    (hr1 : (Builtin.append_ #[22, 22] 22 #[.slice (some ⟨w.heap.size, 0, none⟩) 0 0, .slice A n c]).run Try.prog (w.alloc (.cells #[] 24)) = .ok v1 w1)
    (hr2 : (Builtin.append_ #[22, 22] 22 #[v1, .slice B k d]).run Try.prog w1 = .ok (.slice A2 (n + k) c2) w2)
    (hbw : Below w.heap.size w w2)
 (x y z bl bm : Bool) (hbl : ((n : Int) == 0) = bl) (hbm : ((k : Int) == 0) = bm)
    (k1 : ∀ w', Below w.heap.size w w' → Calls Try.prog 25 #[.slice A n c] w' fun e w'' => e = .returned (.tuple #[.agg #[.int .i64 rx0, .int .i64 ry0, .int .i64 rx1, .int .i64 ry1], .bool x]) ∧ Below w'.heap.size w' w'')
    (k2 : ∀ w', Below w.heap.size w w' → Calls Try.prog 25 #[.slice B k d] w' fun e w'' => e = .returned (.tuple #[.agg #[.int .i64 sx0, .int .i64 sy0, .int .i64 sx1, .int .i64 sy1], .bool y]) ∧ Below w'.heap.size w' w'')
    (k3 : ∀ w', Below w2.heap.size w2 w' → Calls Try.prog 25 #[.slice A2 (n + k) c2] w' fun e w'' => e = .returned (.tuple #[.agg #[.int .i64 bx0, .int .i64 by0, .int .i64 bx1, .int .i64 by1], .bool z]) ∧ Below w'.heap.size w' w'') (hxy : (x && y) = false) (hz : z = ((x && bm) || (y && bl))) :
    Calls Try.prog 7 #[.slice A n c, .slice B k d] w fun e w' => e = .returned (.bool true) ∧ Below w.heap.size w w' := by
  subst hz
  have K1 := Lib.hid k1
  have K2 := Lib.hid k2
  have K3 := Lib.hid k3
  have HW := Lib.hid hbw
  have R1 := Lib.hid hr1
  have R2 := Lib.hid hr2
  clear k1 k2 k3 hbw hr1 hr2
  cases x <;> cases y <;> cases bl <;> cases bm <;> (try cases hxy)
  all_goals
    go_enter Try.func7, Try.ntmps7
    go_wp2_with (first
      | (at_builtin; refine Lib.wpList_append_run _ rfl (.tmp 21) (.tmp 22) 22 22 rfl _ _ rfl rfl v1 w1 R1.out ?_)
      | (at_builtin; refine Lib.wpList_append_run _ rfl (.tmp 23) (.tmp 24) 22 22 rfl _ _ rfl rfl _ w2 R2.out ?_))
    refine (K1.out _ HW.out).mono ?_
    rintro e w3 ⟨rfl, hb⟩
    have D1 := Lib.hid hb
    clear hb R1 R2
    go_wp2_with fail
    refine (K2.out _ ((HW.out.trans (D1.out.mono HW.out.size)).alloc (Nat.le_trans HW.out.size D1.out.size) _)).mono ?_
    rintro e w4 ⟨rfl, hb⟩
    have D2 : Hid (Blk w4 w3.heap.size #[.int .i64 rx0, .int .i64 ry0, .int .i64 rx1, .int .i64 ry1] 38 ∧ Below w2.heap.size w2 w4) := Lib.hid ⟨(Blk.new' w3 _ 38 rfl).grew hb, grow (grow_alloc D1.out _) hb⟩
    clear hb D1
    obtain ⟨P1, hP1⟩ : ∃ P1, P1 = w3.heap.size := ⟨_, rfl⟩
    rw [← hP1] at D2 ⊢
    clear hP1
    clear w3
    go_wp2_with fail
    refine (K3.out _ (grow_alloc D2.out.2 _)).mono ?_
    rintro e w5 ⟨rfl, hb⟩
    have D3 : Hid (Blk w5 w4.heap.size #[.int .i64 sx0, .int .i64 sy0, .int .i64 sx1, .int .i64 sy1] 38 ∧ Blk w5 P1 #[.int .i64 rx0, .int .i64 ry0, .int .i64 rx1, .int .i64 ry1] 38 ∧ Below w2.heap.size w2 w5) := Lib.hid ⟨(Blk.new' w4 _ 38 rfl).grew hb, (D2.out.1.alloc _).grew hb, grow (grow_alloc D2.out.2 _) hb⟩
    clear hb D2
    obtain ⟨P2, hP2⟩ : ∃ P2, P2 = w4.heap.size := ⟨_, rfl⟩
    rw [← hP2] at D3 ⊢
    clear hP2
    clear w4
    go_wp2_with fail
    refine (awake_any _).mono ?_
    rintro e w6 ⟨rfl, hb⟩
    have HE := Lib.hid (HW.out.trans ((grow (grow_alloc D3.out.2.2 _) hb).mono HW.out.size))
    clear hb
    go_wp2
    go_ret
    exact ⟨rfl, HE.out⟩

set_option maxRecDepth 20000 in
set_option maxHeartbeats 4000000 in
theorem Joins_in
    (A B A2 : Option Addr) (n k c d c2 : Nat) (v1 : Value) (w w1 w2 : World) (rx0 ry0 rx1 ry1 sx0 sy0 sx1 sy1 bx0 by0 bx1 by1 : Int)
    (hn : (n : Int) ≤ 60) (hk : (k : Int) ≤ 60)
    (hr1 : (Builtin.append_ #[22, 22] 22 #[.slice (some ⟨w.heap.size, 0, none⟩) 0 0, .slice A n c]).run Try.prog (w.alloc (.cells #[] 24)) = .ok v1 w1)
    (hr2 : (Builtin.append_ #[22, 22] 22 #[v1, .slice B k d]).run Try.prog w1 = .ok (.slice A2 (n + k) c2) w2)
    (hbw : Below w.heap.size w w2)
 (all : List Pt)
    (k1 : ∀ w', Below w.heap.size w w' → Calls Try.prog 25 #[.slice A n c] w' fun e w'' => e = .returned (.tuple #[.agg #[.int .i64 rx0, .int .i64 ry0, .int .i64 rx1, .int .i64 ry1], .bool true]) ∧ Below w'.heap.size w' w'')
    (k2 : ∀ w', Below w.heap.size w w' → Calls Try.prog 25 #[.slice B k d] w' fun e w'' => e = .returned (.tuple #[.agg #[.int .i64 sx0, .int .i64 sy0, .int .i64 sx1, .int .i64 sy1], .bool true]) ∧ Below w'.heap.size w' w'')
    (k3 : ∀ w', Below w2.heap.size w2 w' → Calls Try.prog 25 #[.slice A2 (n + k) c2] w' fun e w'' => e = .returned (.tuple #[.agg #[.int .i64 bx0, .int .i64 by0, .int .i64 bx1, .int .i64 by1], .bool true]) ∧ Below w'.heap.size w' w'')
    (hall : all.length = n + k) (hP : Pts w2 w2.heap.size A2 all)
    (k4 : ∀ w', Calls Try.prog 26 #[.agg #[.int .i64 rx0, .int .i64 ry0, .int .i64 rx1, .int .i64 ry1], .agg #[.int .i64 sx0, .int .i64 sy0, .int .i64 sx1, .int .i64 sy1]] w' fun e w'' => e = .returned (.agg #[.int .i64 bx0, .int .i64 by0, .int .i64 bx1, .int .i64 by1]) ∧ Below w'.heap.size w' w'')
    (k5 : ∀ w', Calls Try.prog 26 #[.agg #[.int .i64 sx0, .int .i64 sy0, .int .i64 sx1, .int .i64 sy1], .agg #[.int .i64 rx0, .int .i64 ry0, .int .i64 rx1, .int .i64 ry1]] w' fun e w'' => e = .returned (.agg #[.int .i64 bx0, .int .i64 by0, .int .i64 bx1, .int .i64 by1]) ∧ Below w'.heap.size w' w'')
    (k6 : ∀ q ∈ all, ∀ w', Calls Try.prog 27 #[.agg #[.int .i64 bx0, .int .i64 by0, .int .i64 bx1, .int .i64 by1], pt q] w' fun e w'' => e = .returned (.bool true) ∧ Below w'.heap.size w' w'') :
    Calls Try.prog 7 #[.slice A n c, .slice B k d] w fun e w' => e = .returned (.bool true) ∧ Below w.heap.size w w' := by
  have K1 := Lib.hid k1
  have K2 := Lib.hid k2
  have K3 := Lib.hid k3
  have HW := Lib.hid hbw
  have R1 := Lib.hid hr1
  have R2 := Lib.hid hr2
  clear k1 k2 k3 hbw hr1 hr2
  have K4 := Lib.hid k4
  have K5 := Lib.hid k5
  have K6 := Lib.hid k6
  have HA := Lib.hid hall
  have HP := Lib.hid hP
  clear k4 k5 k6 hall hP
  go_enter Try.func7, Try.ntmps7
  go_wp2_with (first
    | (at_builtin; refine Lib.wpList_append_run _ rfl (.tmp 21) (.tmp 22) 22 22 rfl _ _ rfl rfl v1 w1 R1.out ?_)
    | (at_builtin; refine Lib.wpList_append_run _ rfl (.tmp 23) (.tmp 24) 22 22 rfl _ _ rfl rfl _ w2 R2.out ?_))
  refine (K1.out _ HW.out).mono ?_
  rintro e w3 ⟨rfl, hb⟩
  have D1 := Lib.hid hb
  clear hb R1 R2
  go_wp2_with fail
  refine (K2.out _ ((HW.out.trans (D1.out.mono HW.out.size)).alloc (Nat.le_trans HW.out.size D1.out.size) _)).mono ?_
  rintro e w4 ⟨rfl, hb⟩
  have D2 : Hid (Blk w4 w3.heap.size #[.int .i64 rx0, .int .i64 ry0, .int .i64 rx1, .int .i64 ry1] 38 ∧ Below w2.heap.size w2 w4) := Lib.hid ⟨(Blk.new' w3 _ 38 rfl).grew hb, grow (grow_alloc D1.out _) hb⟩
  clear hb D1
  obtain ⟨P1, hP1⟩ : ∃ P1, P1 = w3.heap.size := ⟨_, rfl⟩
  rw [← hP1] at D2 ⊢
  clear hP1
  clear w3
  go_wp2_with fail
  refine (K3.out _ (grow_alloc D2.out.2 _)).mono ?_
  rintro e w5 ⟨rfl, hb⟩
  have D3 : Hid (Blk w5 w4.heap.size #[.int .i64 sx0, .int .i64 sy0, .int .i64 sx1, .int .i64 sy1] 38 ∧ Blk w5 P1 #[.int .i64 rx0, .int .i64 ry0, .int .i64 rx1, .int .i64 ry1] 38 ∧ Below w2.heap.size w2 w5) := Lib.hid ⟨(Blk.new' w4 _ 38 rfl).grew hb, (D2.out.1.alloc _).grew hb, grow (grow_alloc D2.out.2 _) hb⟩
  clear hb D2
  obtain ⟨P2, hP2⟩ : ∃ P2, P2 = w4.heap.size := ⟨_, rfl⟩
  rw [← hP2] at D3 ⊢
  clear hP2
  clear w4
  go_wp2_with fail
  obtain ⟨P3, hP3⟩ : ∃ P3, P3 = w5.heap.size := ⟨_, rfl⟩
  have D4 : Hid (Blk (w5.alloc (.cells #[.int .i64 bx0, .int .i64 by0, .int .i64 bx1, .int .i64 by1] 38)) P3 #[.int .i64 bx0, .int .i64 by0, .int .i64 bx1, .int .i64 by1] 38 ∧ Blk (w5.alloc (.cells #[.int .i64 bx0, .int .i64 by0, .int .i64 bx1, .int .i64 by1] 38)) P2 #[.int .i64 sx0, .int .i64 sy0, .int .i64 sx1, .int .i64 sy1] 38 ∧ Blk (w5.alloc (.cells #[.int .i64 bx0, .int .i64 by0, .int .i64 bx1, .int .i64 by1] 38)) P1 #[.int .i64 rx0, .int .i64 ry0, .int .i64 rx1, .int .i64 ry1] 38 ∧ Below w2.heap.size w2 (w5.alloc (.cells #[.int .i64 bx0, .int .i64 by0, .int .i64 bx1, .int .i64 by1] 38))) :=
    Lib.hid ⟨Blk.new' w5 _ 38 hP3, D3.out.1.alloc _, D3.out.2.1.alloc _, grow_alloc D3.out.2.2 _⟩
  rw [← hP3]
  clear hP3 D3
  generalize w5.alloc (.cells #[.int .i64 bx0, .int .i64 by0, .int .i64 bx1, .int .i64 by1] 38) = W5 at *
  clear w5
  obtain ⟨S0, S0d⟩ : ∃ S : World → Prop, S = fun v : World => Blk v P3 #[.int .i64 bx0, .int .i64 by0, .int .i64 bx1, .int .i64 by1] 38 ∧ Blk v P2 #[.int .i64 sx0, .int .i64 sy0, .int .i64 sx1, .int .i64 sy1] 38 ∧ Blk v P1 #[.int .i64 rx0, .int .i64 ry0, .int .i64 rx1, .int .i64 ry1] 38 ∧ Below w2.heap.size w2 v := ⟨_, rfl⟩
  have S0t0 : Stands S0 := by rw [S0d]; exact ((stands_blk _ _ _).and ((stands_blk _ _ _).and ((stands_blk _ _ _).and (stands_below _))))
  have S0u0 : ∀ v, S0 v → Blk v P3 #[.int .i64 bx0, .int .i64 by0, .int .i64 bx1, .int .i64 by1] 38 ∧ Blk v P2 #[.int .i64 sx0, .int .i64 sy0, .int .i64 sx1, .int .i64 sy1] 38 ∧ Blk v P1 #[.int .i64 rx0, .int .i64 ry0, .int .i64 rx1, .int .i64 ry1] 38 ∧ Below w2.heap.size w2 v := fun v h => by rw [S0d] at h; exact h
  have S0m0 : ∀ v, (Blk v P3 #[.int .i64 bx0, .int .i64 by0, .int .i64 bx1, .int .i64 by1] 38 ∧ Blk v P2 #[.int .i64 sx0, .int .i64 sy0, .int .i64 sx1, .int .i64 sy1] 38 ∧ Blk v P1 #[.int .i64 rx0, .int .i64 ry0, .int .i64 rx1, .int .i64 ry1] 38 ∧ Below w2.heap.size w2 v) → S0 v := fun v h => by rw [S0d]; exact h
  have S0u := Lib.hid S0u0
  have S0m := Lib.hid S0m0
  have S0t := Lib.hid S0t0
  clear S0d S0u0 S0m0 S0t0
  refine wp_region_X (S := S0) (by kernel_rfl) (S0m.out _ ⟨D4.out.1.drew, D4.out.2.1.drew, D4.out.2.2.1.drew, D4.out.2.2.2.drew⟩) ?_
  clear D4
  refine wpX_take (i := 0) (v := ?_) S0t.out rfl rfl (by kernel_rfl) (by kernel_rfl) (by kernel_rfl) (fun _ _ _ h => h) (SteadyX.value (by rfl) ?_) ?_
  rotate_left
  · (intro w_ hS; obtain ⟨q0, q1, q2, q3⟩ := S0u.out _ hS; (have q0 := q0.four); (have q1 := q1.four); (have q2 := q2.four); (clear q3); go_simp; try with_reducible rfl)
  simp only [List.setIfInBounds_toArray, List.set_cons_zero, List.set_cons_succ]
  refine wpX_take (i := 1) (v := ?_) S0t.out rfl rfl (by kernel_rfl) (by kernel_rfl) (by kernel_rfl) (fun _ _ _ h => h) (SteadyX.value (by rfl) ?_) ?_
  rotate_left
  · (intro w_ hS; obtain ⟨q0, q1, q2, q3⟩ := S0u.out _ hS; (have q0 := q0.four); (have q1 := q1.four); (have q2 := q2.four); (clear q3); go_simp; try with_reducible rfl)
  simp only [List.setIfInBounds_toArray, List.set_cons_zero, List.set_cons_succ]
  refine wpX_take (i := 2) (v := ?_) S0t.out rfl rfl (by kernel_rfl) (by kernel_rfl) (by kernel_rfl) (fun _ _ _ h => h) (SteadyX.value (by rfl) ?_) ?_
  rotate_left
  · (intro w_ hS; obtain ⟨q0, q1, q2, q3⟩ := S0u.out _ hS; (have q0 := q0.four); (have q1 := q1.four); (have q2 := q2.four); (clear q3); go_simp; try with_reducible rfl)
  simp only [List.setIfInBounds_toArray, List.set_cons_zero, List.set_cons_succ]
  refine wpX_take (i := 3) (v := ?_) S0t.out rfl rfl (by kernel_rfl) (by kernel_rfl) (by kernel_rfl) (fun _ _ _ h => h) (SteadyX.value (by rfl) ?_) ?_
  rotate_left
  · (intro w_ hS; obtain ⟨q0, q1, q2, q3⟩ := S0u.out _ hS; (have q0 := q0.four); (have q1 := q1.four); (have q2 := q2.four); (clear q3); go_simp; try with_reducible rfl)
  simp only [List.setIfInBounds_toArray, List.set_cons_zero, List.set_cons_succ]
  refine wpX_take (i := 4) (v := ?_) S0t.out rfl rfl (by kernel_rfl) (by kernel_rfl) (by kernel_rfl) (fun _ _ _ h => h) (SteadyX.value (by rfl) ?_) ?_
  rotate_left
  · (intro w_ hS; obtain ⟨q0, q1, q2, q3⟩ := S0u.out _ hS; (have q0 := q0.four); (have q1 := q1.four); (have q2 := q2.four); (clear q3); go_simp; try with_reducible rfl)
  simp only [List.setIfInBounds_toArray, List.set_cons_zero, List.set_cons_succ]
  refine wpX_take (i := 5) S0t.out rfl rfl (by kernel_rfl) (by kernel_rfl) (by kernel_rfl) (fun _ _ _ h => h) (SteadyX.call (by rfl) (fun w_ hS => K4.out w_) (fun w_ hS => by (obtain ⟨q0, q1, q2, q3⟩ := S0u.out _ hS; (have q0 := q0.four); (have q1 := q1.four); (have q2 := q2.four); (clear q3); go_simp))) ?_
  simp only [List.setIfInBounds_toArray, List.set_cons_zero, List.set_cons_succ]
  refine wpX_take (i := 6) (v := ?_) S0t.out rfl rfl (by kernel_rfl) (by kernel_rfl) (by kernel_rfl) (fun _ _ _ h => h) (SteadyX.value (by rfl) ?_) ?_
  rotate_left
  · (intro w_ hS; obtain ⟨q0, q1, q2, q3⟩ := S0u.out _ hS; (have q0 := q0.four); (have q1 := q1.four); (have q2 := q2.four); (clear q3); go_simp; try with_reducible rfl)
  simp only [List.setIfInBounds_toArray, List.set_cons_zero, List.set_cons_succ]
  refine wpX_take (i := 7) (v := ?_) S0t.out rfl rfl (by kernel_rfl) (by kernel_rfl) (by kernel_rfl) (fun _ _ _ h => h) (SteadyX.value (by rfl) ?_) ?_
  rotate_left
  · (intro w_ hS; obtain ⟨q0, q1, q2, q3⟩ := S0u.out _ hS; (have q0 := q0.four); (have q1 := q1.four); (have q2 := q2.four); (clear q3); go_simp; try with_reducible rfl)
  simp only [List.setIfInBounds_toArray, List.set_cons_zero, List.set_cons_succ]
  refine wpX_take (i := 8) (v := ?_) S0t.out rfl rfl (by kernel_rfl) (by kernel_rfl) (by kernel_rfl) (fun _ _ _ h => h) (SteadyX.value (by rfl) ?_) ?_
  rotate_left
  · (intro w_ hS; obtain ⟨q0, q1, q2, q3⟩ := S0u.out _ hS; (have q0 := q0.four); (have q1 := q1.four); (have q2 := q2.four); (clear q3); go_simp; try with_reducible rfl)
  simp only [List.setIfInBounds_toArray, List.set_cons_zero, List.set_cons_succ]
  refine wpX_take (i := 9) (v := ?_) S0t.out rfl rfl (by kernel_rfl) (by kernel_rfl) (by kernel_rfl) (fun _ _ _ h => h) (SteadyX.value (by rfl) ?_) ?_
  rotate_left
  · (intro w_ hS; obtain ⟨q0, q1, q2, q3⟩ := S0u.out _ hS; (have q0 := q0.four); (have q1 := q1.four); (have q2 := q2.four); (clear q3); go_simp; try with_reducible rfl)
  simp only [List.setIfInBounds_toArray, List.set_cons_zero, List.set_cons_succ]
  refine wpX_take (i := 10) (v := ?_) S0t.out rfl rfl (by kernel_rfl) (by kernel_rfl) (by kernel_rfl) (fun _ _ _ h => h) (SteadyX.value (by rfl) ?_) ?_
  rotate_left
  · (intro w_ hS; obtain ⟨q0, q1, q2, q3⟩ := S0u.out _ hS; (have q0 := q0.four); (have q1 := q1.four); (have q2 := q2.four); (clear q3); go_simp; try with_reducible rfl)
  simp only [List.setIfInBounds_toArray, List.set_cons_zero, List.set_cons_succ]
  refine wpX_take (i := 11) (v := ?_) S0t.out rfl rfl (by kernel_rfl) (by kernel_rfl) (by kernel_rfl) (fun _ _ _ h => h) (SteadyX.value (by rfl) ?_) ?_
  rotate_left
  · (intro w_ hS; obtain ⟨q0, q1, q2, q3⟩ := S0u.out _ hS; (have q0 := q0.four); (have q1 := q1.four); (have q2 := q2.four); (clear q3); go_simp; try with_reducible rfl)
  simp only [List.setIfInBounds_toArray, List.set_cons_zero, List.set_cons_succ]
  refine wpX_take (i := 12) S0t.out rfl rfl (by kernel_rfl) (by kernel_rfl) (by kernel_rfl) (fun _ _ _ h => h) (SteadyX.call (by rfl) (fun w_ hS => K5.out w_) (fun w_ hS => by (obtain ⟨q0, q1, q2, q3⟩ := S0u.out _ hS; (have q0 := q0.four); (have q1 := q1.four); (have q2 := q2.four); (clear q3); go_simp))) ?_
  simp only [List.setIfInBounds_toArray, List.set_cons_zero, List.set_cons_succ]
  refine wpX_take (i := 13) (v := ?_) S0t.out rfl rfl (by kernel_rfl) (by kernel_rfl) (by kernel_rfl) (fun _ _ _ h => h) (SteadyX.value (by rfl) ?_) ?_
  rotate_left
  · (intro w_ hS; obtain ⟨q0, q1, q2, q3⟩ := S0u.out _ hS; (have q0 := q0.four); (have q1 := q1.four); (have q2 := q2.four); (clear q3); go_simp; try with_reducible rfl)
  simp only [List.setIfInBounds_toArray, List.set_cons_zero, List.set_cons_succ]
  refine wpX_take (i := 14) (v := ?_) S0t.out rfl rfl (by kernel_rfl) (by kernel_rfl) (by kernel_rfl) (fun _ _ _ h => h) (SteadyX.value (by rfl) ?_) ?_
  rotate_left
  · (intro w_ hS; obtain ⟨q0, q1, q2, q3⟩ := S0u.out _ hS; (have q0 := q0.four); (have q1 := q1.four); (have q2 := q2.four); (clear q3); go_simp; try with_reducible rfl)
  simp only [List.setIfInBounds_toArray, List.set_cons_zero, List.set_cons_succ]
  refine wpX_take (i := 15) (v := ?_) S0t.out rfl rfl (by kernel_rfl) (by kernel_rfl) (by kernel_rfl) (fun _ _ _ h => h) (SteadyX.value (by rfl) ?_) ?_
  rotate_left
  · (intro w_ hS; obtain ⟨q0, q1, q2, q3⟩ := S0u.out _ hS; (have q0 := q0.four); (have q1 := q1.four); (have q2 := q2.four); (clear q3); go_simp; try with_reducible rfl)
  simp only [List.setIfInBounds_toArray, List.set_cons_zero, List.set_cons_succ]
  refine wpX_done (by kernel_rfl) (fun W6 hS => ?_) _
  obtain ⟨q0, q1, q2, q3⟩ := S0u.out _ hS
  have D5 := Lib.hid (And.intro q0 q3)
  clear q0 q1 q2 q3 hS
  go_wp2
  go_loopw [12] (fun i wr => ∃ j : Nat, j ≤ n + k ∧ i = .int .i64 j ∧ Hid (Blk wr P3 #[.int .i64 bx0, .int .i64 by0, .int .i64 bx1, .int .i64 by1] 38 ∧ Below w2.heap.size w2 wr)) (fun i _ => n + k - (intOf i).toNat)
  case atStart => exact ⟨0, by omega, rfl, D5⟩
  case round =>
    obtain ⟨j, hj, rfl, HB⟩ := hrel
    clear D5
    by_cases hlt : j < n + k
    · have hjl : j < all.length := by rw [HA.out]; exact hlt
      obtain ⟨p, e, hpl, h1, h2⟩ := (HP.out.below HB.out.2 (Nat.le_refl _)).get hjl
      cases e
      have k7 := K6.out _ (List.getElem_mem hjl)
      generalize all[j] = q at *
      obtain ⟨qx, qy⟩ := q
      dsimp only at h1 h2
      rw [add_one] at h2
      have K7 := Lib.hid k7
      have C0 := Lib.hid (And.intro h1 (And.intro h2 HB.out))
      clear k7 hpl h1 h2 HB
      go_wp2_with fail
      obtain ⟨Sa0, Sa0d⟩ : ∃ S : World → Prop, S = fun v : World => v.cell? (p.add (j * 2)) = some (.int .i64 qx) ∧ v.cell? ⟨(p.add (j * 2)).block, (p.add (j * 2)).off + 1, none⟩ = some (.int .i64 qy) ∧ Blk v P3 #[.int .i64 bx0, .int .i64 by0, .int .i64 bx1, .int .i64 by1] 38 ∧ Below w2.heap.size w2 v := ⟨_, rfl⟩
      have Sa0t0 : Stands Sa0 := by rw [Sa0d]; exact ((stands_cell _ _).and ((stands_cell _ _).and ((stands_blk _ _ _).and (stands_below _))))
      have Sa0u0 : ∀ v, Sa0 v → v.cell? (p.add (j * 2)) = some (.int .i64 qx) ∧ v.cell? ⟨(p.add (j * 2)).block, (p.add (j * 2)).off + 1, none⟩ = some (.int .i64 qy) ∧ Blk v P3 #[.int .i64 bx0, .int .i64 by0, .int .i64 bx1, .int .i64 by1] 38 ∧ Below w2.heap.size w2 v := fun v h => by rw [Sa0d] at h; exact h
      have Sa0m0 : ∀ v, (v.cell? (p.add (j * 2)) = some (.int .i64 qx) ∧ v.cell? ⟨(p.add (j * 2)).block, (p.add (j * 2)).off + 1, none⟩ = some (.int .i64 qy) ∧ Blk v P3 #[.int .i64 bx0, .int .i64 by0, .int .i64 bx1, .int .i64 by1] 38 ∧ Below w2.heap.size w2 v) → Sa0 v := fun v h => by rw [Sa0d]; exact h
      have Sa0u := Lib.hid Sa0u0
      have Sa0m := Lib.hid Sa0m0
      have Sa0t := Lib.hid Sa0t0
      clear Sa0d Sa0u0 Sa0m0 Sa0t0
      refine wp_region_X (S := Sa0) (by kernel_rfl) (Sa0m.out _ ⟨C0.out.1, C0.out.2.1, C0.out.2.2.1.drew, C0.out.2.2.2.drew⟩) ?_
      clear C0
      refine wpX_take (i := 0) (v := ?_) Sa0t.out rfl rfl (by kernel_rfl) (by kernel_rfl) (by kernel_rfl) (fun _ _ _ h => h) (SteadyX.value (by rfl) ?_) ?_
      rotate_left
      · (intro w_ hS; obtain ⟨q0, q1, q2, q3⟩ := Sa0u.out _ hS; (have q2 := q2.four); (clear q3); go_simp; try with_reducible rfl)
      simp only [List.setIfInBounds_toArray, List.set_cons_zero, List.set_cons_succ]
      refine wpX_take (i := 1) (v := ?_) Sa0t.out rfl rfl (by kernel_rfl) (by kernel_rfl) (by kernel_rfl) (fun _ _ _ h => h) (SteadyX.value (by rfl) ?_) ?_
      rotate_left
      · (intro w_ hS; obtain ⟨q0, q1, q2, q3⟩ := Sa0u.out _ hS; (have q2 := q2.four); (clear q3); go_simp; try with_reducible rfl)
      simp only [List.setIfInBounds_toArray, List.set_cons_zero, List.set_cons_succ]
      refine wpX_take (i := 2) (v := ?_) Sa0t.out rfl rfl (by kernel_rfl) (by kernel_rfl) (by kernel_rfl) (fun _ _ _ h => h) (SteadyX.value (by rfl) ?_) ?_
      rotate_left
      · (intro w_ hS; obtain ⟨q0, q1, q2, q3⟩ := Sa0u.out _ hS; (have q2 := q2.four); (clear q3); go_simp; try with_reducible rfl)
      simp only [List.setIfInBounds_toArray, List.set_cons_zero, List.set_cons_succ]
      refine wpX_take (i := 3) (v := ?_) Sa0t.out rfl rfl (by kernel_rfl) (by kernel_rfl) (by kernel_rfl) (fun _ _ _ h => h) (SteadyX.value (by rfl) ?_) ?_
      rotate_left
      · (intro w_ hS; obtain ⟨q0, q1, q2, q3⟩ := Sa0u.out _ hS; (have q2 := q2.four); (clear q3); go_simp; try with_reducible rfl)
      simp only [List.setIfInBounds_toArray, List.set_cons_zero, List.set_cons_succ]
      refine wpX_take (i := 4) (v := ?_) Sa0t.out rfl rfl (by kernel_rfl) (by kernel_rfl) (by kernel_rfl) (fun _ _ _ h => h) (SteadyX.value (by rfl) ?_) ?_
      rotate_left
      · (intro w_ hS; obtain ⟨q0, q1, q2, q3⟩ := Sa0u.out _ hS; (have q2 := q2.four); (clear q3); go_simp; try with_reducible rfl)
      simp only [List.setIfInBounds_toArray, List.set_cons_zero, List.set_cons_succ]
      refine wpX_take (i := 5) Sa0t.out rfl rfl (by kernel_rfl) (by kernel_rfl) (by kernel_rfl) (fun _ _ _ h => h) (SteadyX.call (by rfl) (fun w_ hS => K7.out w_) (fun w_ hS => by (obtain ⟨q0, q1, q2, q3⟩ := Sa0u.out _ hS; (have q2 := q2.four); (clear q3); go_simp))) ?_
      simp only [List.setIfInBounds_toArray, List.set_cons_zero, List.set_cons_succ]
      refine wpX_take (i := 6) (v := ?_) Sa0t.out rfl rfl (by kernel_rfl) (by kernel_rfl) (by kernel_rfl) (fun _ _ _ h => h) (SteadyX.value (by rfl) ?_) ?_
      rotate_left
      · (intro w_ hS; obtain ⟨q0, q1, q2, q3⟩ := Sa0u.out _ hS; (have q2 := q2.four); (clear q3); go_simp; try with_reducible rfl)
      simp only [List.setIfInBounds_toArray, List.set_cons_zero, List.set_cons_succ]
      refine wpX_done (by kernel_rfl) (fun W7 hS => ?_) _
      obtain ⟨q0, q1, q2, q3⟩ := Sa0u.out _ hS
      have HB := Lib.hid (And.intro q2 q3)
      clear q0 q1 q2 q3 hS
      go_wp2
      go_round
      case rel => exact ⟨j + 1, by omega, val_int rfl, HB⟩
      case measure => simp only [intOf]; omega
    · go_wp2_with fail
      refine (awake_any _).mono ?_
      rintro e w6 ⟨rfl, hb⟩
      have HE := Lib.hid (HW.out.trans ((grow HB.out.2 hb).mono HW.out.size))
      clear hb
      go_wp2
      go_ret
      exact ⟨rfl, HE.out⟩

end Go.Proofs.Ytkneohngbkmlpaa
