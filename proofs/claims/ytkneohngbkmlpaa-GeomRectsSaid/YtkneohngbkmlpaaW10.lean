/- Walks: edges. -/
import Derived.Test.YtkneohngbkmlpaaW9
import Derived.Test.YtkneohngbkmlpaaRange
import Derived.Stop.RegionWithIn
namespace Go.Proofs.Ytkneohngbkmlpaa
open Go.RowKit Go.Shelf
attribute [local go_sem] Oper.semAt_some

theorem edges_any (A : Option Addr) (n c : Nat) (w : World) :
    Calls Try.prog 40 #[.slice A n c] w fun e w' => e = .returned (.func (.func 54) #[] #[.pointer (some ⟨w.heap.size, 0, none⟩)]) ∧ w' = w.alloc (.cells #[.slice A n c] 22) := by
  go_enter Try.func40, Try.ntmps40
  go_wp2
  go_ret
  exact ⟨rfl, rfl⟩

/-- Does an edge go over the line to the right of a point? -/
def flipB (a b p : Pt) : Bool := (decide (p.y < a.y) != decide (p.y < b.y)) && (decide (0 < turnZ a b p) == decide (p.y < b.y))
/-- A ring's edges, gone through. -/
def goIn (p : Pt) : List (Pt × Pt) → Int → Int
  | [], o => o
  | (a, b) :: r, o => if onZ a b p then 0 else goIn p r (if flipB a b p then -o else o)

/-- A ring's edges. -/
def edgesOf (l : List Pt) : List (Pt × Pt) := (List.range l.length).map fun i => (l.getD i ⟨0, 0⟩, l.getD ((i + 1) % l.length) ⟨0, 0⟩)
theorem edges_drop (l : List Pt) (k : Nat) (h : k < l.length) : (edgesOf l).drop k = (l[k], l[(k + 1) % l.length]'(Nat.mod_lt _ (by omega))) :: (edgesOf l).drop (k + 1) := by
  have hk : k < (edgesOf l).length := by simp [edgesOf]; exact h
  rw [List.drop_eq_getElem_cons hk]
  have h2 : (k + 1) % l.length < l.length := Nat.mod_lt _ (by omega)
  simp [edgesOf, List.getD_eq_getElem?_getD, List.getElem?_eq_getElem h, List.getElem?_eq_getElem h2]

/-- What stands in memory while a ring's edges are gone through: the point (block B), the result (B + 1), 'out' (O), the ring (O + 1), what is deferred (O + 2). -/
structure St (w : World) (px py : Int) (A : Option Addr) (n c O : Nat) (W : World) (o : Int) : Prop where
  p : Blk W w.heap.size #[.int .i64 px, .int .i64 py] 24
  r : Blk W (w.heap.size + 1) #[.int .i64 0] 3
  o : Blk W O #[.int .i64 o] 3
  s : Blk W (O + 1) #[.slice A n c] 22
  d : W.heap[O + 1 + 1]? = some (.deferred (some []))
  b : Below w.heap.size w W
  lt : w.heap.size + 2 ≤ O
section
variable {w W W' : World} {px py o : Int} {A : Option Addr} {n c O : Nat}
theorem St.grew (h : St w px py A n c O W o) (hb : Below W.heap.size W W') : St w px py A n c O W' o :=
  ⟨h.p.grew hb, h.r.grew hb, h.o.grew hb, h.s.grew hb, (hb.block _ (lt_of_block h.d)).trans h.d, grow h.b hb, h.lt⟩
theorem St.turned {ob : Obj} {r : Loop} (h : St w px py A n c O W o) (hl : W.heap[O + 1 + 1 + 1]? = some (.loop r)) (k : Turned (O + 1 + 1 + 1) ob W W') : St w px py A n c O W' o :=
  ⟨h.p.turned hl k, h.r.turned hl k, h.o.turned hl k, h.s.turned hl k, (k.same _ (by omega)).trans h.d, h.b.trans (k.below (by have := h.lt; omega)), h.lt⟩
theorem St.alloc (h : St w px py A n c O W o) (ob : Obj) : St w px py A n c O (W.alloc ob) o := h.grew ((Below.refl _ W).alloc (Nat.le_refl _) ob)
theorem St.drew (h : St w px py A n c O W o) : St w px py A n c O W.drew o := ⟨h.p, h.r, h.o, h.s, h.d, h.b.drew, h.lt⟩
/-- 'out' is written. -/
theorem St.out (h : St w px py A n c O W o) (x : Int) : St w px py A n c O (W.setCell ⟨O, 0, none⟩ (.int .i64 x)) x :=
  ⟨h.p.other (by have := h.lt; show w.heap.size ≠ O; omega) _, h.r.other (by have := h.lt; show w.heap.size + 1 ≠ O; omega) _, h.o.set 0 _, h.s.other (by show O + 1 ≠ O; omega) _,
    heap_setCell h.d (by omega) _ _, h.b.setCell (by have := h.lt; show _ ≤ O; omega) _, h.lt⟩
/-- The result is written: 0. -/
theorem St.res (h : St w px py A n c O W o) : St w px py A n c O (W.setCell ⟨w.heap.size + 1, 0, none⟩ (.int .i64 0)) o :=
  ⟨h.p.other (by show w.heap.size ≠ w.heap.size + 1; omega) _, h.r.set 0 _, h.o.other (by have := h.lt; show O ≠ w.heap.size + 1; omega) _, h.s.other (by have := h.lt; show O + 1 ≠ w.heap.size + 1; omega) _,
    heap_setCell h.d (by have := h.lt; omega) _ _, h.b.setCell (by show _ ≤ w.heap.size + 1; omega) _, h.lt⟩
end

set_option maxRecDepth 20000 in
set_option maxHeartbeats 4000000 in
theorem Inside_loop (px py : Int) (l : List Pt) (A : Option Addr) (n c : Nat) (w : World) (hn : l.length = n) (hr : Pts w w.heap.size A l) (hn0 : (0 : Int) < n) (hn1 : (n : Int) ≤ 1000) (hp : May ⟨px, py⟩) (hl : ∀ q ∈ l, May q) :
    Calls Try.prog 13 #[.slice A n c, .agg #[.int .i64 px, .int .i64 py]] w fun e w' => e = .returned (.int .i64 (goIn ⟨px, py⟩ (edgesOf l) (-1))) ∧ Below w.heap.size w w' := by
  refine (callsIn_wide (n := 5)).1 ?_
  have k1 := May_any ⟨px, py⟩
  rw [decide_eq_true hp] at k1
  have k2 : ∀ w', Below w.heap.size w w' → Calls Try.prog 39 #[.slice A n c] w' fun e w'' => e = .returned (.bool true) ∧ Below w'.heap.size w' w'' := fun w' hb => by
    have := all_any A l n c w' hn (fun hne => by
      obtain ⟨q, e, hq, hc⟩ := (hr.below hb (Nat.le_refl _)) hne
      exact ⟨q, e, Nat.lt_of_lt_of_le hq hb.size, hc⟩) (by omega)
    rwa [decide_eq_true hl] at this
  have K1 := Lib.hid k1
  have K2 := Lib.hid k2
  have HN := Lib.hid hn
  have HR := Lib.hid hr
  have HP := Lib.hid hp
  have HL := Lib.hid hl
  clear k1 k2 hn hr hp hl
  obtain ⟨w0, hw0, p0, p1, g0, z0⟩ := boxes2 w #[.int .i64 px, .int .i64 py] #[.int .i64 0] 24 3
  have HP0 := Lib.hid (And.intro p0 (And.intro p1 (And.intro g0 z0)))
  clear p0 p1 g0 z0
  refine callsIn_of_wp_marks Try.func13 rfl trivial ?_
  simp only [Try.ntmps13, List.size_toArray, List.length_cons, List.length_nil, Nat.reduceAdd, Nat.reduceSub, Array.replicate_succ, Array.replicate_zero, List.push_toArray, List.append_toArray, List.nil_append, List.cons_append]
  have c0 := HP0.out.1.two
  gi_wp2_with fail
  refine ⟨trivial, callsIn_wide.2 ((K1.out _).mono ?_)⟩
  rintro e w1 ⟨rfl, hb1⟩
  have HG1 := Lib.hid (grow HP0.out.2.2.1 hb1)
  have HB1 := Lib.hid hb1
  clear c0 hb1
  gi_wp2_with fail
  refine ⟨trivial, callsIn_wide.2 ((K2.out _ HG1.out).mono ?_)⟩
  rintro e w2 ⟨rfl, hb2⟩
  have p2 := (HP0.out.1.grew HB1.out).grew hb2
  have q2 := (HP0.out.2.1.grew HB1.out).grew hb2
  have HG2 := Lib.hid (grow HG1.out hb2)
  have hz2 : w.heap.size + 2 ≤ w2.heap.size := by
    have := HP0.out.2.2.2
    have := HB1.out.size
    have := hb2.size
    omega
  have HPQ := Lib.hid (And.intro p2 (And.intro q2 hz2))
  clear p2 q2 hz2 hb2 HB1 HG1 HP0 hw0 w0
  gi_wp2_with fail
  refine ⟨trivial, callsIn_wide.2 ((edges_any A n c _).mono ?_)⟩
  rintro e w3 ⟨rfl, rfl⟩
  gi_wp2_with fail
  refine wpIn_range rfl (by decide) (gf := 54) (lb := #[.pointer (some ⟨w2.heap.size + 1, 0, none⟩)]) rfl trivial (enters_of Try.func54 (by kernel_rfl) rfl) ?_
  intro fn hfn W1 hb1 hz1 hD hL
  simp only [World.size_alloc] at hD hL hz1 ⊢
  generalize hrec : recOf fn _ _ _ _ _ = rec at hL ⊢
  have HRC := Lib.hid hrec
  clear hrec
  have hSt : St w px py A n c w2.heap.size W1 (-1) :=
    ⟨((HPQ.out.1.alloc _).alloc _).grew hb1, ((HPQ.out.2.1.alloc _).alloc _).grew hb1, ((Blk.new w2 _ 3).alloc _).grew hb1, (Blk.new' (w2.alloc (.cells #[.int .i64 (-1)] 3)) _ 22 (by simp)).grew hb1, hD, grow (grow_alloc (grow_alloc HG2.out _) _) hb1, HPQ.out.2.2⟩
  have HS := Lib.hid hSt
  have HL1 := Lib.hid hL
  clear hb1 hD hL hSt hz1 HPQ HG2
  generalize w2.heap.size = O at *
  have yld : ∀ (ax ay bx byy o : Int) (W : World) (R : Ending → World → Prop), May ⟨ax, ay⟩ → May ⟨bx, byy⟩ → -1 ≤ o → o ≤ 1 → St w px py A n c O W o → W.heap[O + 1 + 1 + 1]? = some (.loop (rec .ready none)) →
      (onZ ⟨ax, ay⟩ ⟨bx, byy⟩ ⟨px, py⟩ → ∀ W', St w px py A n c O W' o → W'.heap[O + 1 + 1 + 1]? = some (.loop (rec .done (some .ret))) → R (.returned (.bool false)) W') →
      (¬ onZ ⟨ax, ay⟩ ⟨bx, byy⟩ ⟨px, py⟩ → ∀ W', St w px py A n c O W' (if flipB ⟨ax, ay⟩ ⟨bx, byy⟩ ⟨px, py⟩ then -o else o) → W'.heap[O + 1 + 1 + 1]? = some (.loop (rec .ready none)) → R (.returned (.bool true)) W') →
      YieldAt Fence.wide 3 Try.prog (O + 1 + 1 + 1) #[.agg #[.int .i64 ax, .int .i64 ay], .agg #[.int .i64 bx, .int .i64 byy]] W R := by
    intro ax ay bx byy o W R ha hb o0 o1 hS hL hR1 hR2
    have kon := on_any ⟨ax, ay⟩ ⟨bx, byy⟩ ⟨px, py⟩ ha hb HP.out
    have ktu := turn_any ⟨ax, ay⟩ ⟨bx, byy⟩ ⟨px, py⟩ ha hb HP.out
    have R1 := Lib.hid hR1
    have R2 := Lib.hid hR2
    have KON := Lib.hid kon
    have KTU := Lib.hid ktu
    have HSW := Lib.hid hS
    rw [← HRC.out] at hL
    have HLW := Lib.hid hL
    clear hR1 hR2 kon ktu ha hb hS
    refine yield_of trivial hL rfl ?_
    clear hL
    obtain ⟨Wa, hWa, pa, pb, ga, za⟩ := boxes2 W #[.int .i64 ax, .int .i64 ay] #[.int .i64 bx, .int .i64 byy] 24 24
    have hSa := HSW.out.grew ga
    have hLa := (ga.block _ (lt_of_block HLW.out)).trans HLW.out
    have HA := Lib.hid (And.intro pa (And.intro pb (And.intro hSa hLa)))
    clear pa pb ga za hSa hLa
    gi_wp2_with fail
    try rw [hWa]
    refine ⟨HA.out.2.2.2, ?_⟩
    intro W3 hT
    have pa3 := HA.out.1.turned HA.out.2.2.2 hT
    have pb3 := HA.out.2.1.turned HA.out.2.2.2 hT
    have S3 := HA.out.2.2.1.turned HA.out.2.2.2 hT
    have L3 := hT.at_
    have H3 := Lib.hid (And.intro pa3 (And.intro pb3 (And.intro S3 L3)))
    clear HA hWa Wa HSW HLW hT S3 L3 pa3 pb3
    have fa := H3.out.1.two
    have fb := H3.out.2.1.two
    have fp := H3.out.2.2.1.p.two
    gi_wp2_with fail
    refine ⟨trivial, callsIn_wide.2 ((KON.out _).mono ?_)⟩
    rintro e W4 ⟨rfl, hb4⟩
    have pa4 := H3.out.1.grew hb4
    have pb4 := H3.out.2.1.grew hb4
    have S4 := H3.out.2.2.1.grew hb4
    have L4 := (hb4.block _ (lt_of_block H3.out.2.2.2)).trans H3.out.2.2.2
    clear fa fb fp hb4
    by_cases hon : onZ ⟨ax, ay⟩ ⟨bx, byy⟩ ⟨px, py⟩
    · rw [decide_eq_true hon]
      have fr := S4.r.one
      have L5 := heap_setCell L4 (b := w.heap.size + 1) (by have := S4.lt; omega) 0 (.int .i64 0)
      have S5 := S4.res
      have H5 := Lib.hid (And.intro S5 L5)
      have HON := Lib.hid hon
      clear pa4 pb4 S4 L4 hon S5 L5 KON KTU H3
      gi_wp2
      refine ⟨H5.out.2, ?_⟩
      intro W6 hT6
      refine R1.out HON.out W6 (H5.out.1.turned H5.out.2 hT6) ?_
      have := hT6.at_
      rw [HRC.out] at this
      exact this
    · rw [decide_eq_false hon]
      have fa := pa4.two
      have fb := pb4.two
      have fp := S4.p.two
      have H4 := Lib.hid (And.intro pa4 (And.intro pb4 (And.intro S4 L4)))
      have HON := Lib.hid hon
      clear pa4 pb4 S4 L4 hon KON H3
      by_cases ha : py < ay
      · by_cases hb : py < byy
        · have hf : flipB ⟨ax, ay⟩ ⟨bx, byy⟩ ⟨px, py⟩ = false := by unfold flipB; dsimp only; rw [decide_eq_true ha, decide_eq_true hb]; rfl
          have HF : Hid ((if flipB ⟨ax, ay⟩ ⟨bx, byy⟩ ⟨px, py⟩ = true then -o else o) = o) := Lib.hid (by rw [hf]; rfl)
          clear hf
          gi_wp2
          refine ⟨trivial, ?_⟩
          gi_wp2
          refine ⟨H4.out.2.2.2, ?_⟩
          intro W6 hT6
          refine R2.out HON.out W6 (by rw [HF.out]; exact (H4.out.2.2.1).turned H4.out.2.2.2 hT6) ?_
          have := hT6.at_
          rw [HRC.out] at this
          exact this
        · have hfl : flipB ⟨ax, ay⟩ ⟨bx, byy⟩ ⟨px, py⟩ = (decide (0 < turnZ ⟨ax, ay⟩ ⟨bx, byy⟩ ⟨px, py⟩) == false) := by unfold flipB; dsimp only; rw [decide_eq_true ha, decide_eq_false hb]; rfl
          have HFL := Lib.hid hfl
          have hdb : decide (py < byy) = false := decide_eq_false hb
          clear hfl
          gi_wp2_with fail
          refine ⟨trivial, callsIn_wide.2 ((KTU.out _).mono ?_)⟩
          rintro e W5 ⟨rfl, hb5⟩
          have S5 := H4.out.2.2.1.grew hb5
          have L5 := (hb5.block _ (lt_of_block H4.out.2.2.2)).trans H4.out.2.2.2
          have H5 := Lib.hid (And.intro S5 L5)
          have fo := S5.o.one
          clear fa fb fp S5 L5 hb5 H4 KTU
          generalize htt : turnZ ⟨ax, ay⟩ ⟨bx, byy⟩ ⟨px, py⟩ = t at *
          clear htt
          by_cases ht : 0 < t
          · have HF : Hid ((if flipB ⟨ax, ay⟩ ⟨bx, byy⟩ ⟨px, py⟩ = true then -o else o) = o) := Lib.hid (by rw [HFL.out, decide_eq_true ht]; rfl)
            gi_wp2
            refine ⟨H5.out.2, ?_⟩
            intro W6 hT6
            refine R2.out HON.out W6 (by rw [HF.out]; exact (H5.out.1).turned H5.out.2 hT6) ?_
            have := hT6.at_
            rw [HRC.out] at this
            exact this
          · have HF : Hid ((if flipB ⟨ax, ay⟩ ⟨bx, byy⟩ ⟨px, py⟩ = true then -o else o) = -o) := Lib.hid (by rw [HFL.out, decide_eq_false ht]; rfl)
            have hdt : decide (0 < t) = false := decide_eq_false ht
            gi_wp2
            have L7 := heap_setCell H5.out.2 (b := O) (by omega) 0 (.int .i64 (-o))
            refine ⟨L7, ?_⟩
            intro W6 hT6
            refine R2.out HON.out W6 (by rw [HF.out]; exact (H5.out.1.out (-o)).turned L7 hT6) ?_
            have := hT6.at_
            rw [HRC.out] at this
            exact this
      · by_cases hb : py < byy
        · have hfl : flipB ⟨ax, ay⟩ ⟨bx, byy⟩ ⟨px, py⟩ = (decide (0 < turnZ ⟨ax, ay⟩ ⟨bx, byy⟩ ⟨px, py⟩) == true) := by unfold flipB; dsimp only; rw [decide_eq_false ha, decide_eq_true hb]; rfl
          have HFL := Lib.hid hfl
          have hda : decide (py < ay) = false := decide_eq_false ha
          clear hfl
          gi_wp2_with fail
          refine ⟨trivial, callsIn_wide.2 ((KTU.out _).mono ?_)⟩
          rintro e W5 ⟨rfl, hb5⟩
          have S5 := H4.out.2.2.1.grew hb5
          have L5 := (hb5.block _ (lt_of_block H4.out.2.2.2)).trans H4.out.2.2.2
          have H5 := Lib.hid (And.intro S5 L5)
          have fo := S5.o.one
          clear fa fb fp S5 L5 hb5 H4 KTU
          generalize htt : turnZ ⟨ax, ay⟩ ⟨bx, byy⟩ ⟨px, py⟩ = t at *
          clear htt
          by_cases ht : 0 < t
          · have HF : Hid ((if flipB ⟨ax, ay⟩ ⟨bx, byy⟩ ⟨px, py⟩ = true then -o else o) = -o) := Lib.hid (by rw [HFL.out, decide_eq_true ht]; rfl)
            gi_wp2
            have L7 := heap_setCell H5.out.2 (b := O) (by omega) 0 (.int .i64 (-o))
            refine ⟨L7, ?_⟩
            intro W6 hT6
            refine R2.out HON.out W6 (by rw [HF.out]; exact (H5.out.1.out (-o)).turned L7 hT6) ?_
            have := hT6.at_
            rw [HRC.out] at this
            exact this
          · have HF : Hid ((if flipB ⟨ax, ay⟩ ⟨bx, byy⟩ ⟨px, py⟩ = true then -o else o) = o) := Lib.hid (by rw [HFL.out, decide_eq_false ht]; rfl)
            have hdt : decide (0 < t) = false := decide_eq_false ht
            gi_wp2
            refine ⟨H5.out.2, ?_⟩
            intro W6 hT6
            refine R2.out HON.out W6 (by rw [HF.out]; exact (H5.out.1).turned H5.out.2 hT6) ?_
            have := hT6.at_
            rw [HRC.out] at this
            exact this
        · have hf : flipB ⟨ax, ay⟩ ⟨bx, byy⟩ ⟨px, py⟩ = false := by unfold flipB; dsimp only; rw [decide_eq_false ha, decide_eq_false hb]; rfl
          have HF : Hid ((if flipB ⟨ax, ay⟩ ⟨bx, byy⟩ ⟨px, py⟩ = true then -o else o) = o) := Lib.hid (by rw [hf]; rfl)
          clear hf
          gi_wp2
          refine ⟨trivial, ?_⟩
          gi_wp2
          refine ⟨H4.out.2.2.2, ?_⟩
          intro W6 hT6
          refine R2.out HON.out W6 (by rw [HF.out]; exact (H4.out.2.2.1).turned H4.out.2.2.2 hT6) ?_
          have := hT6.at_
          rw [HRC.out] at this
          exact this
  have YLD := Lib.hid yld
  clear yld
  refine callsIn_of_wp Try.func54 rfl trivial ?_
  simp only [Try.ntmps54, List.size_toArray, List.length_cons, List.length_nil, Nat.reduceAdd, Nat.reduceSub, Array.replicate_succ, Array.replicate_zero, List.push_toArray, List.append_toArray, List.nil_append, List.cons_append]
  have fs := HS.out.s.one
  gi_wp2_with fail
  gi_loopw [7] (fun i wr => ∃ (k : Nat) (o : Int), k ≤ n ∧ i = .int .i64 k ∧ Hid (St w px py A n c O wr o ∧ wr.heap[O + 1 + 1 + 1]? = some (.loop (rec .ready none)) ∧ -1 ≤ o ∧ o ≤ 1) ∧
      Hid (goIn ⟨px, py⟩ (edgesOf l) (-1) = goIn ⟨px, py⟩ ((edgesOf l).drop k) o)) (fun i _ => n - (intOf i).toNat)
  case atStart => exact ⟨0, -1, by omega, rfl, Lib.hid ⟨HS.out, HL1.out, by omega, by omega⟩, Lib.hid rfl⟩
  case round =>
    obtain ⟨k, o, hk, rfl, HW, HG⟩ := hrel
    by_cases hlt : k < n
    · have hkl : k < l.length := by rw [HN.out]; exact hlt
      have hj : (k + 1) % l.length < l.length := Nat.mod_lt _ (by omega)
      have hPts : Pts wr wr.heap.size A l := fun hne => by
        obtain ⟨q, e, hq, hc⟩ := (HR.out.below HW.out.1.b (Nat.le_refl _)) hne
        exact ⟨q, e, Nat.lt_of_lt_of_le hq HW.out.1.b.size, hc⟩
      obtain ⟨p, e, hpb, h1, h2⟩ := hPts.get hkl
      cases e
      obtain ⟨p', e, _, h3, h4⟩ := hPts.get hj
      cases e
      have hdrop := edges_drop l k hkl
      have ma := HL.out l[k] (List.getElem_mem _)
      have mb := HL.out l[(k + 1) % l.length] (List.getElem_mem _)
      generalize l[k] = a at *
      generalize l[(k + 1) % l.length] = b at *
      obtain ⟨ax, ay⟩ := a
      obtain ⟨bx, byy⟩ := b
      rw [HN.out] at h3 h4 hj
      rw [add_one] at h2 h4
      have hrem : (IntKind.i64.wrap ((k : Int) + 1)).tmod (n : Int) = (((k + 1) % n : Nat) : Int) := by
        have hw : IntKind.i64.wrap ((k : Int) + 1) = (k : Int) + 1 := by rw [IntKind.wrap_i64]; omega
        rw [hw, Int.tmod_eq_emod_of_nonneg (by omega), Int.natCast_emod, Int.natCast_add]; rfl
      have HDROP := Lib.hid hdrop
      have HMA := Lib.hid ma
      have HMB := Lib.hid mb
      generalize (k + 1) % n = j at *
      clear hdrop ma mb hPts hpb hkl
      have S1 := HW.out.1.alloc (.cells #[.int .i64 ax, .int .i64 ay] 24)
      have fs1 := S1.s.one
      have HW1 := Lib.hid S1
      have fa1 := (Blk.new wr #[.int .i64 ax, .int .i64 ay] 24).two
      have L1 := (Below.heap_alloc wr (.cells #[.int .i64 ax, .int .i64 ay] 24) _ (lt_of_block HW.out.2.1)).trans HW.out.2.1
      have HLW := Lib.hid L1
      clear S1 L1
      have e3 := cell_grew h3 ((Below.refl _ wr).alloc (Nat.le_refl _) (.cells #[.int .i64 ax, .int .i64 ay] 24))
      have e4 := cell_grew h4 ((Below.refl _ wr).alloc (Nat.le_refl _) (.cells #[.int .i64 ax, .int .i64 ay] 24))
      clear h3 h4
      gi_wp2_with fail
      have hji : (j : Int) < n := by omega
      by_cases hon : onZ ⟨ax, ay⟩ ⟨bx, byy⟩ ⟨px, py⟩
      · have hres : goIn ⟨px, py⟩ (edgesOf l) (-1) = 0 := by
          rw [HG.out, HDROP.out]; unfold goIn; rw [if_pos hon]
        have HRES := Lib.hid hres
        have HON := Lib.hid hon
        clear hon hres
        gi_region_with (refine upon_yield (fun _ => by decide) ?_; refine YLD.out ax ay bx byy o _ _ HMA.out HMB.out HW.out.2.2.1 HW.out.2.2.2 HW1.out.drew HLW.out (fun _ => ?_) (fun h => absurd HON.out h); intro W5 S5 L5)
        all_goals
          have HS5 := Lib.hid S5
          have HL5 := Lib.hid L5
          clear S5 L5
          gi_wp2
          (try simp only [Exit.inBlock, Exit.then])
          refine ⟨rfl, _, results_none rfl _ _ _, ?_⟩
          refine ⟨⟨_, rfl⟩, Or.inr ⟨_, HL5.out, ?_⟩⟩
          intro W3 hT
          have S6 := HS5.out.turned HL5.out hT
          have HS6 := Lib.hid S6
          clear hT S6
          gi_wp2
          have T := Turned.put (.deferred none) HS6.out.d
          have r5 : Blk _ (w.heap.size + 1) #[.int .i64 0] 3 := (T.same _ (by have := HS6.out.lt; omega)).trans HS6.out.r
          have f5 := r5.one
          refine ⟨by simp, .inl ⟨_, _, rfl, run_takeDeferred HS6.out.d, ?_⟩⟩
          refine ⟨.int .i64 0, ?_, ret_int HRES.out.symm, HS6.out.b.trans (T.below (by have := HS6.out.lt; omega))⟩
          simp [results, Try.results13, go_sem, f5]
      · have hres : goIn ⟨px, py⟩ (edgesOf l) (-1) = goIn ⟨px, py⟩ ((edgesOf l).drop (k + 1)) (if flipB ⟨ax, ay⟩ ⟨bx, byy⟩ ⟨px, py⟩ then -o else o) := by
          rw [HG.out, HDROP.out]; conv => lhs; unfold goIn
          rw [if_neg hon]
        have hob : -1 ≤ (if flipB ⟨ax, ay⟩ ⟨bx, byy⟩ ⟨px, py⟩ then -o else o) ∧ (if flipB ⟨ax, ay⟩ ⟨bx, byy⟩ ⟨px, py⟩ then -o else o) ≤ 1 := by
          have := HW.out.2.2
          split <;> omega
        have HRES := Lib.hid hres
        have HOB := Lib.hid hob
        have HON := Lib.hid hon
        clear hon hres hob
        gi_region_with (refine upon_yield (fun _ => by decide) ?_; refine YLD.out ax ay bx byy o _ _ HMA.out HMB.out HW.out.2.2.1 HW.out.2.2.2 HW1.out.drew HLW.out (fun h => absurd h HON.out) (fun _ => ?_); intro W5 S5 L5)
        all_goals
          have HS5 := Lib.hid (And.intro S5 (And.intro L5 HOB.out))
          clear S5 L5
          gi_wp2
          go_roundw
          case rel => exact ⟨k + 1, _, by omega, val_int (by omega), HS5, HRES⟩
          case measure => simp only [intOf]; omega
    · obtain rfl : k = n := by omega
      have hres : goIn ⟨px, py⟩ (edgesOf l) (-1) = o := by
        rw [HG.out, List.drop_eq_nil_of_le (by simp [edgesOf, HN.out])]; rfl
      have HRES := Lib.hid hres
      clear hres
      gi_wp2
      go_end0
      refine ⟨⟨_, rfl⟩, Or.inl ⟨HW.out.2.1, ?_⟩⟩
      intro W3 hT
      have S3 := HW.out.1.turned HW.out.2.1 hT
      have fo := S3.o.one
      have fr := S3.r.one
      have HS3 := Lib.hid S3
      clear S3 hT fs
      gi_wp2
      have d4 := heap_setCell HS3.out.d (b := w.heap.size + 1) (by have := HS3.out.lt; omega) 0 (.int .i64 o)
      have b4 := HS3.out.b.setCell (p := ⟨w.heap.size + 1, 0, none⟩) (by show _ ≤ w.heap.size + 1; omega) (.int .i64 o)
      have T := Turned.put (.deferred none) d4
      have r5 : Blk _ (w.heap.size + 1) #[.int .i64 o] 3 := (T.same _ (by have := HS3.out.lt; omega)).trans (HS3.out.r.set 0 (.int .i64 o))
      have f5 := r5.one
      refine ⟨by simp, .inl ⟨_, _, rfl, run_takeDeferred d4, ?_⟩⟩
      refine ⟨.int .i64 o, ?_, ret_int HRES.out.symm, b4.trans (T.below (by have := HS3.out.lt; omega))⟩
      simp [results, Try.results13, go_sem, f5]

end Go.Proofs.Ytkneohngbkmlpaa
