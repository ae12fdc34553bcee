/- Walks: Read. -/
import Derived.Test.YtfmdmfiljplkoaaGreatW6
import Derived.Test.YtfmdmfiljplkoaaGreatRange
namespace Go.Proofs.YtfmdmfiljplkoaaGreat
open Go.RowKit Go.Maps Go.Shelf
variable {ι : Type} [Bar ι]
attribute [local go_sem] Oper.semAt_some
theorem Backward_any (A : Option Addr) (n c : Nat) (w : World) :
    Calls Tryz.prog 202 #[.slice A n c] w fun e w' => ∃ F, e = .returned (.func (.func 223) #[] #[.pointer (some ⟨F, 0, none⟩)]) ∧ Blk w' F #[.slice A n c] 112 ∧ Below w.heap.size w w' := by
  go_enter Tryz.func202, Tryz.ntmps202
  go_wp2
  go_ret
  exact ⟨_, rfl, Blk.new' _ _ _ rfl, (Below.refl _ w).alloc (Nat.le_refl _) _⟩
section
variable {b m : Nat} {vl : Value} {D : Dsk} {w : World}
theorem Read_no (a : Int) (h : DiskAt w b m vl D) (hr : D.ready a ≠ 0) :
    Calls Tryz.prog 161 #[.pointer (some ⟨b, 0, none⟩), .int .i64 a] w fun e w' => e = .returned (.tuple #[nilv, .int .i64 (D.ready a)]) ∧ Below w.heap.size w w' := by
  obtain ⟨z, hz⟩ : ∃ z, z = D.ready a := ⟨_, rfl⟩
  have hne : (z == 0) = false := by rw [hz]; simpa using hr
  have hg : ∀ w', w' = ((w.alloc (.cells #[.int .i64 a] 3)).alloc (.cells #[nilv] 108)).alloc (.cells #[.int .i64 0] 30) → DiskAt w' b m vl D := by
    rintro w' rfl
    exact ((h.alloc _).alloc _).alloc _
  have HG := Lib.hid hg
  rw [← hz]
  have HZ := Lib.hid hz
  clear hg h hr hz
  go_enter Tryz.func161, Tryz.ntmps161
  go_wp2_with fail
  refine (ready_any a (HG.out _ rfl)).mono ?_
  rintro e w2 ⟨rfl, rfl⟩
  rw [← HZ.out]
  clear HG HZ
  go_wp2
  refine bodyPost_ret (v := .tuple #[nilv, .int .i64 z]) ?_ rfl ⟨rfl, ?_⟩
  · simp [results, Tryz.results161, go_sem, nilv]
  · go_grown
structure RdSt (w v : World) (b m : Nat) (vl : Value) (D : Dsk) (a : Int) (n0 n1 n2 F d l : Nat) (u e : Value) (o : Loop) : Prop where
  disk : DiskAt v b m vl D
  k0 : Blk v n0 #[.int .i64 a] 3
  k1 : Blk v n1 #[u] 108
  k2 : Blk v n2 #[e] 30
  kF : Blk v F #[vl] 112
  kd : v.heap[d]? = some (.deferred (some []))
  kl : v.heap[l]? = some (.loop o)
  low : Below w.heap.size w v
  ln : w.heap.size ≤ n1 ∧ w.heap.size ≤ n2 ∧ w.heap.size ≤ l
  ld : w.heap.size ≤ d
variable {v v' : World} {a : Int} {n0 n1 n2 F d l : Nat} {u e : Value} {o o' : Loop}
theorem Turned.turn {l : Nat} {o : Obj} {W W' : World} (h : Turned l o W W') : Turn [l] W W' := ⟨h.os, h.tape, h.output, Nat.le_of_eq h.size.symm, fun k _ hk => h.same k (by simpa using hk)⟩
theorem RdSt.grew (h : RdSt w v b m vl D a n0 n1 n2 F d l u e o) (k : Below v.heap.size v v') : RdSt w v' b m vl D a n0 n1 n2 F d l u e o :=
  ⟨h.disk.grew k, h.k0.grew k, h.k1.grew k, h.k2.grew k, h.kF.grew k, (k.block _ (lt_of_block h.kd)).trans h.kd, (k.block _ (lt_of_block h.kl)).trans h.kl, h.low.trans (k.mono h.low.size), h.ln, h.ld⟩
theorem nobytes_loop {l : Nat} (h : v.heap[l]? = some (.loop o)) : NoBytes v [l] := by
  intro k hk cs fz e
  simp at hk; subst hk
  rw [h] at e; cases e
theorem DiskAt.turned (h : DiskAt v b m vl D) (hl : v.heap[l]? = some (.loop o)) {p : Obj} (k : Turned l p v v') : DiskAt v' b m vl D := by
  refine h.turn k.turn (nobytes_loop hl) (fun j hj => ?_)
  simp
  intro e
  subst e
  rcases mem_own.1 hj with e | e | hg
  · have := h.blk; unfold Blk at this; rw [← e, hl] at this; cases this
  · obtain ⟨es, clock, hm⟩ := h.fast.kind; rw [← e, hl] at hm; cases hm
  · obtain ⟨cs, e⟩ := h.loose.kind hg; rw [hl] at e; cases e
theorem RdSt.turned (h : RdSt w v b m vl D a n0 n1 n2 F d l u e o) (k : Turned l (.loop o') v v') : RdSt w v' b m vl D a n0 n1 n2 F d l u e o' := by
  refine ⟨h.disk.turned h.kl k, h.k0.turned h.kl k, h.k1.turned h.kl k, h.k2.turned h.kl k, h.kF.turned h.kl k, (k.same d ?_).trans h.kd, k.at_, h.low.trans (k.below h.ln.2.2), h.ln, h.ld⟩
  intro e
  have := h.kd
  rw [e, h.kl] at this
  cases this
theorem Byt.turned {L : List Nat} (hb : Byt v u L) (hl : v.heap[l]? = some (.loop o)) {p : Obj} (k : Turned l p v v') : Byt v' u L := hb.turn k.turn (nobytes_loop hl)
/-- The results are laid. -/
theorem RdSt.lay (h : RdSt w v b m vl D a n0 n1 n2 F d l u e o) (u' e' : Value) : RdSt w ((v.setCell ⟨n1, 0, none⟩ u').setCell ⟨n2, 0, none⟩ e') b m vl D a n0 n1 n2 F d l u' e' o ∧ Turn [n1, n2] v ((v.setCell ⟨n1, 0, none⟩ u').setCell ⟨n2, 0, none⟩ e') := by
  have ht := ((Turn.refl [n1, n2] v).set (a := ⟨n1, 0, none⟩) (.inl (by simp)) u').set (a := ⟨n2, 0, none⟩) (.inl (by simp)) e'
  have kinds : ∀ (x y : Nat) (c c' : Array Value) (t t' : TypeId), Blk v x c t → Blk v y c' t' → t ≠ t' → x ≠ y := by
    intro x y c c' t t' h1 h2 ht e
    subst e
    unfold Blk at h1 h2
    rw [h1] at h2
    cases h2
    exact ht rfl
  have no : ∀ (x : Nat) (c : Array Value) (t : TypeId), Blk v x c t → t ≠ 108 → t ≠ 30 → x ∉ [n1, n2] := by
    intro x c t hx h1 h2
    simp
    exact ⟨kinds _ _ _ _ _ _ hx h.k1 h1, kinds _ _ _ _ _ _ hx h.k2 h2⟩
  have no2 : ∀ (x : Nat), (∀ cs t, v.heap[x]? = some (.cells cs t (0, 0)) → t ≠ 108 ∧ t ≠ 30) → x ∉ [n1, n2] := by
    intro x hx
    simp
    refine ⟨fun e => ?_, fun e => ?_⟩
    · subst e; exact (hx _ _ h.k1).1 rfl
    · subst e; exact (hx _ _ h.k2).2 rfl
  have nb : NoBytes v [n1, n2] := by
    intro k hk cs fz e
    simp at hk
    rcases hk with rfl | rfl
    · have := h.k1; unfold Blk at this; rw [this] at e; cases e
    · have := h.k2; unfold Blk at this; rw [this] at e; cases e
  have n12 : n1 ≠ n2 := kinds _ _ _ _ _ _ h.k1 h.k2 (by decide)
  have keep : ∀ (x : Nat) (c : Array Value) (t : TypeId), Blk v x c t → t ≠ 108 → t ≠ 30 → Blk ((v.setCell ⟨n1, 0, none⟩ u').setCell ⟨n2, 0, none⟩ e') x c t :=
    fun x c t hx h1 h2 => (ht.block x hx.lt (no x c t hx h1 h2)).trans hx
  refine ⟨⟨h.disk.turn ht nb (fun j hj => no2 j ?_), keep _ _ _ h.k0 (by decide) (by decide), ?_, ?_, keep _ _ _ h.kF (by decide) (by decide), (ht.block d (lt_of_block h.kd) (no2 d ?_)).trans h.kd, (ht.block l (lt_of_block h.kl) (no2 l ?_)).trans h.kl, ?_, h.ln, h.ld⟩, ht⟩
  · intro cs t e
    rcases mem_own.1 hj with e' | e' | hg
    · have := h.disk.blk; unfold Blk at this; rw [← e', e] at this; cases this; decide
    · obtain ⟨es, clock, hm⟩ := h.disk.fast.kind; rw [← e', e] at hm; cases hm
    · obtain ⟨cs, e2⟩ := h.disk.loose.kind hg; rw [e] at e2; cases e2; decide
  · have := (h.k1.set 0 u').other (a := ⟨n2, 0, none⟩) n12 e'
    simpa using this
  · have := (h.k2.other (a := ⟨n1, 0, none⟩) (Ne.symm n12) u').set 0 e'
    simpa using this
  · intro cs t e; rw [h.kd] at e; cases e
  · intro cs t e; rw [h.kl] at e; cases e
  · exact (h.low.setCell (p := ⟨n1, 0, none⟩) h.ln.1 u').setCell (p := ⟨n2, 0, none⟩) h.ln.2.1 e'
theorem RdSt.end_ (h : RdSt w v b m vl D a n0 n1 n2 F d l u e o) {p : Obj} (k : Turned d p v v') : Blk v' n1 #[u] 108 ∧ Blk v' n2 #[e] 30 ∧ Below w.heap.size w v' := by
  refine ⟨(k.same n1 ?_).trans h.k1, (k.same n2 ?_).trans h.k2, h.low.trans (k.below h.ld)⟩
  · intro e
    have := h.k1
    unfold Blk at this
    rw [e, h.kd] at this
    cases this
  · intro e
    have := h.k2
    unfold Blk at this
    rw [e, h.kd] at this
    cases this
theorem results13 (k1 : Blk v n1 #[u] 108) (k2 : Blk v n2 #[e] 30) (T : Array Value) (h1 : T[4]?.getD undef = .pointer (some ⟨n1, 0, none⟩)) (h2 : T[5]?.getD undef = .pointer (some ⟨n2, 0, none⟩)) :
    (results Tryz.f161 T).run Tryz.prog v = .ok (.tuple #[u, e]) v := by
  have c1 : v.cell? ⟨n1, 0, none⟩ = some u := k1.cell 0
  have c2 : v.cell? ⟨n2, 0, none⟩ = some e := k2.cell 0
  simp [results, Tryz.results161, go_sem, h1, h2, c1, c2]
theorem last_found {L : List (Int × List Nat)} {a : Int} {k : Nat} (hk : k < L.length) (he : L[k].1 = a) (hn : ∀ j (h : j < L.length), k < j → L[j].1 ≠ a) : last a L = some L[k].2 := by
  rw [show last a L = last a (L.take (k + 1) ++ L.drop (k + 1)) by rw [List.take_append_drop], last_append, last_none a (L.drop (k + 1)) (fun x hx => by
    obtain ⟨j, hj, rfl⟩ := List.getElem_of_mem hx
    rw [List.getElem_drop]
    exact hn _ _ (by omega)), List.take_add_one, List.getElem?_eq_getElem hk]
  simp only [Option.toList_some, last_append, Option.none_or]
  show ((none : Option (List Nat)).or _).or _ = _
  simp [he]
theorem Own.turn {w w' : World} {T : List Nat} {base : Nat} {v : Value} {l : List Nat} (h : Own w base v l) (k : Turn T w w') (hT : ∀ j ∈ T, j < base) : Own w' base v l := by
  refine ⟨h.1, h.2.1, ?_⟩
  rcases h.2.2 with h0 | ⟨g, cap, cur, rfl, hb, hh, r⟩
  · exact .inl h0
  · exact .inr ⟨g, cap, cur, rfl, hb, (k.block g (lt_of_block hh) (fun e => by have := hT g e; omega)).trans hh, r⟩
set_option maxHeartbeats 4000000 in
theorem Read_yes (a : Int) (h : DiskAt w b m vl D) (hr : D.ready a = 0) (hL : D.loose.length ≤ 1000000000) :
    Calls Tryz.prog 161 #[.pointer (some ⟨b, 0, none⟩), .int .i64 a] w fun e w' => ∃ v, e = .returned (.tuple #[v, .int .i64 0]) ∧ Own w' w.heap.size v (D.tells a) ∧ Below w.heap.size w w' := by
  refine (callsIn_wide (n := 5)).1 ?_
  have hg : ∀ w', w' = ((w.alloc (.cells #[.int .i64 a] 3)).alloc (.cells #[nilv] 108)).alloc (.cells #[.int .i64 0] 30) →
      DiskAt w' b m vl D ∧ Blk w' w.heap.size #[.int .i64 a] 3 ∧ Blk w' (w.heap.size + 1) #[nilv] 108 ∧ Blk w' (w.heap.size + 1 + 1) #[.int .i64 0] 30 ∧ Below w.heap.size w w' := by
    rintro w' rfl
    have g0 := (Below.refl w.heap.size w).alloc (Nat.le_refl _) (.cells #[.int .i64 a] 3)
    have g1 := (Below.refl _ (w.alloc (.cells #[.int .i64 a] 3))).alloc (Nat.le_refl _) (.cells #[nilv] 108)
    have g2 := (Below.refl _ ((w.alloc (.cells #[.int .i64 a] 3)).alloc (.cells #[nilv] 108))).alloc (Nat.le_refl _) (.cells #[.int .i64 0] 30)
    refine ⟨((h.grew g0).grew g1).grew g2, ((Blk.new' _ _ _ rfl).grew g1).grew g2, (Blk.new' _ _ _ (by simp)).grew g2, Blk.new' _ _ _ (by simp), ?_⟩
    exact (g0.trans (g1.mono (by simp))).trans (g2.mono (by simp; omega))
  have HG := Lib.hid hg
  have HR0 := Lib.hid hr
  have HL := Lib.hid hL
  have HBD := Lib.hid (show -9223372036854775808 ≤ a ∧ a ≤ 9223372036854775807 from by have := Dsk.ready_in hr; have := h.ok.s2; omega)
  have HZ := Lib.hid (And.intro h.ok.z1 h.ok.z2)
  have HLEN := Lib.hid h.ok.len
  have HLO := Lib.hid h.ok.lose
  obtain ⟨A, c, rfl, _, _⟩ := h.loose.form
  clear hg h hr hL
  refine callsIn_of_wp_marks Tryz.func161 rfl trivial ?_
  simp only [Tryz.ntmps161, List.size_toArray, List.length_cons, List.length_nil, Nat.reduceAdd, Nat.reduceSub, Array.replicate_succ, Array.replicate_zero, List.push_toArray, List.append_toArray, List.nil_append, List.cons_append]
  gi_wp2_with fail
  refine ⟨trivial, callsIn_wide.2 ((ready_any a (HG.out _ rfl).1).mono ?_)⟩
  rintro e w1 ⟨rfl, hw1⟩
  rw [HR0.out]
  have hG1 := HG.out _ hw1
  clear HG hw1
  obtain ⟨k1, k2, k3, k4, k5⟩ := hG1
  obtain ⟨c0, c1, c2, c3, c4, c5, f3, f4, f5⟩ := k1.six
  have K := Lib.hid (And.intro k1 (And.intro k2 (And.intro k3 (And.intro k4 k5))))
  clear k1 k2 k3 k4 k5 c0 c1 c2 c4 c5 f3 f4 f5
  gi_wp2_with fail
  refine ⟨trivial, callsIn_wide.2 ((Backward_any _ _ _ _).mono ?_)⟩
  rintro e w2 ⟨F, rfl, hF, hb2⟩
  have K2 := Lib.hid (And.intro (K.out.1.grew hb2) (And.intro (K.out.2.1.grew hb2) (And.intro (K.out.2.2.1.grew hb2) (And.intro (K.out.2.2.2.1.grew hb2) (And.intro (grow K.out.2.2.2.2 hb2) hF)))))
  clear K hb2 hF c3
  gi_wp2_with fail
  refine wpIn_range rfl (by decide) (gf := 223) (lb := #[.pointer (some ⟨F, 0, none⟩)]) rfl trivial (enters_of Tryz.func223 (by kernel_rfl) rfl) ?_
  intro fn hfn W1 hb1 hz1 hD hL
  generalize hrec : recOf fn _ _ _ _ _ = rec at hL ⊢
  have HR := Lib.hid hrec
  clear hrec
  have R1 : RdSt w W1 b m (.slice A D.loose.length c) D a w.heap.size (w.heap.size + 1) (w.heap.size + 1 + 1) F w2.heap.size (w2.heap.size + 1) nilv (.int .i64 0) (rec .ready none) :=
    ⟨K2.out.1.grew hb1, K2.out.2.1.grew hb1, K2.out.2.2.1.grew hb1, K2.out.2.2.2.1.grew hb1, K2.out.2.2.2.2.2.grew hb1, hD, hL, grow K2.out.2.2.2.2.1 hb1, ⟨by omega, by omega, Nat.le_trans K2.out.2.2.2.2.1.size (by omega)⟩, K2.out.2.2.2.2.1.size⟩
  have RR := Lib.hid R1
  have hF0 : W1.cell? ⟨F, 0, none⟩ = some (.slice A D.loose.length c) := R1.kF.cell 0
  clear K2 hD hL hb1 R1 hz1
  generalize w2.heap.size = d at *
  refine callsIn_of_wp Tryz.func223 rfl trivial ?_
  simp only [Tryz.ntmps223, List.size_toArray, List.length_cons, List.length_nil, Nat.reduceAdd, Nat.reduceSub, Array.replicate_succ, Array.replicate_zero, List.push_toArray, List.append_toArray, List.nil_append, List.cons_append]
  have hDb : (D.loose.length : Int) ≤ 1000000000 := by have := HL.out; omega
  gi_wp2_with fail
  gi_loopw [3] (fun i wr => ∃ k : Nat, k ≤ D.loose.length ∧ i = .int .i64 ((k : Int) - 1) ∧ Hid (RdSt w wr b m (.slice A D.loose.length c) D a w.heap.size (w.heap.size + 1) (w.heap.size + 1 + 1) F d (d + 1) nilv (.int .i64 0) (rec .ready none) ∧ ∀ j (h : j < D.loose.length), k ≤ j → D.loose[j].1 ≠ a)) (fun i _ => (intOf i + 1).toNat)
  case atStart => exact ⟨D.loose.length, Nat.le_refl _, by rfl, Lib.hid ⟨RR.out, fun j h1 h2 => absurd h2 (by omega)⟩⟩
  case round =>
    obtain ⟨k, hk, rfl, B⟩ := hrel
    clear RR hF0
    rcases k with _ | k
    · gi_wp2
      go_end0
      refine ⟨⟨_, rfl⟩, Or.inl ⟨B.out.1.kl, ?_⟩⟩
      intro W3 hT
      have R3 := B.out.1.turned hT
      have HN := Lib.hid (show D.tells a = D.fast a by unfold Dsk.tells; rw [last_none a D.loose (fun x hx => by obtain ⟨j, hj, rfl⟩ := List.getElem_of_mem hx; exact B.out.2 j hj (by omega))]; rfl)
      have c0 := R3.k0.cell 0
      have HT := Lib.hid R3
      clear hT B R3
      gi_wp2_with fail
      refine ⟨trivial, callsIn_wide.2 ((kept_form a HBD.out.1 HBD.out.2 HT.out.disk).mono ?_)⟩
      rintro e w4 ⟨v4, rfl, p7, c7, rfl, h7, hb7⟩
      have R4 := Lib.hid (And.intro (HT.out.grew hb7) (And.intro h7 hb7))
      clear HT h7 hb7 c0
      gi_wp2_with fail
      refine ⟨trivial, callsIn_wide.2 ((Clone_any p7 (D.fast a) D.size c7 w4 (HLEN.out a) R4.out.2.1.rdv (by have := HZ.out; omega)).mono ?_)⟩
      rintro e w5 ⟨v5, rfl, ho5, hb5⟩
      have R5 := R4.out.1.grew hb5
      obtain ⟨p5, d5, rfl, _, _⟩ := ho5.at_ D.size (HLEN.out a) (by have := HZ.out; omega)
      have c1 := R5.k1.cell 0
      have c2 := R5.k2.cell 0
      have f1 := R5.k1.free 0
      have f2 := R5.k2.free 0
      have R6 := R5.lay (.slice (some p5) D.size d5) (.int .i64 0)
      have hlt1 := R5.k1.lt
      have hlt2 := R4.out.1.k2.lt
      have hO := ho5.turn R6.2 (by intro j hj; simp at hj; omega)
      have HO := Lib.hid (And.intro hO (And.intro R6.1 (And.intro R4.out.1.low.size (lt_of_block R4.out.1.kd))))
      clear R4 R6 R5 hO ho5 hb5 hlt1 hlt2
      gi_wp2
      have hp := Turned.put (.deferred none) HO.out.2.1.kd
      refine ⟨by simp, .inl ⟨_, _, rfl, run_takeDeferred HO.out.2.1.kd, ?_⟩⟩
      have hq := HO.out.2.1.end_ hp
      refine ⟨_, results13 hq.1 hq.2.1 _ rfl rfl, _, rfl, ?_, hq.2.2⟩
      rw [HN.out]
      have hO := HO.out.1.turn hp.turn (by intro j hj; simp at hj; subst hj; exact HO.out.2.2.2)
      exact ⟨hO.1, Own.base_ HO.out.2.2.1 hO.2⟩
    · obtain ⟨g, c', p5, z, c5, e', _, hc0, hc1, ⟨hb, -⟩, rz⟩ := B.out.1.disk.loose.at_ k (by omega)
      injection e' with e1 e2 e3
      subst e1 e3
      have hF0 : wr.cell? ⟨F, 0, none⟩ = some (.slice (some ⟨g, 0, none⟩) D.loose.length c) := B.out.1.kF.cell 0
      obtain ⟨⟨x, l⟩, hxl⟩ : ∃ q, q = D.loose[k] := ⟨_, rfl⟩
      rw [← hxl] at hb hc0 rz
      simp only at hc0
      have HXL := Lib.hid (And.intro hxl rz)
      have HB := Lib.hid hb
      clear hxl rz hb e2
      gi_wp2_with fail
      refine upon_yield (by intro h; cases h) ?_
      have dL := B.out.1.kl
      rw [← HR.out] at dL
      refine yield_of trivial dL rfl ?_
      have hA : ∀ w', w' = (wr.alloc (.cells #[.int .i64 x, .slice (some p5) z c5] 185)) → RdSt w w' b m (.slice (some ⟨g, 0, none⟩) D.loose.length c) D a w.heap.size (w.heap.size + 1) (w.heap.size + 1 + 1) F d (d + 1) nilv (.int .i64 0) (rec .ready none) ∧ Byt w' (.slice (some p5) z c5) l ∧ Blk w' wr.heap.size #[.int .i64 x, .slice (some p5) z c5] 185 := by
        rintro w' rfl
        have hg := (Below.refl wr.heap.size wr).alloc (Nat.le_refl _) (.cells #[.int .i64 x, .slice (some p5) z c5] 185)
        exact ⟨B.out.1.grew hg, HB.out.grew hg, Blk.new' _ _ _ rfl⟩
      have HA := Lib.hid hA
      clear hA HB
      gi_wp2
      obtain ⟨w3, hw3⟩ : ∃ w3, w3 = wr.alloc (.cells #[.int .i64 x, .slice (some p5) z c5] 185) := ⟨_, rfl⟩
      rw [← hw3]
      have R3 := HA.out _ hw3
      clear HA hw3 dL hc0 hc1 hF0
      have dL3 := R3.1.kl
      rw [← HR.out] at dL3
      refine ⟨dL3, ?_⟩
      intro W3 hT
      have R4 := R3.1.turned hT
      have Y4 := R3.2.1.turned dL3 hT
      have G4 := R3.2.2.turned dL3 hT
      clear dL3 R3 hT
      have d0 := R4.k0.cell 0
      have d1 := G4.cell 0
      have d2 := G4.cell 1
      by_cases hx : x = a
      · have hfd := Lib.hid (show D.tells a = l by unfold Dsk.tells; rw [last_found (by omega) (by rw [← HXL.out.1]; exact hx) (fun j hj hlt => B.out.2 j hj hlt), ← HXL.out.1]; rfl)
        have hzl := Lib.hid (show l.length = z ∧ z = D.size from ⟨HXL.out.2.symm, by have := HLO.out _ (List.getElem_mem (l := D.loose) (n := k) (by omega)); rw [← HXL.out.1] at this; exact HXL.out.2.trans this.2.2.1⟩)
        have HY4 := Lib.hid Y4
        have HR4 := Lib.hid R4
        clear HXL B Y4 G4 R4
        gi_wp2_with fail
        refine ⟨trivial, CallsIn.inRound _ (callsIn_wide.2 ((Clone_any p5 l z c5 W3 hzl.out.1 HY4.out.rdv (by have := HZ.out; have := hzl.out.2; omega)).mono ?_))⟩
        rintro e w5 ⟨v5, rfl, ho5, hb5⟩
        have R5 := HR4.out.grew hb5
        obtain ⟨p6, d6, rfl, _, _⟩ := ho5.at_ z hzl.out.1 (by have := HZ.out; have := hzl.out.2; omega)
        clear d0 d1 d2
        have c1 := R5.k1.cell 0
        have c2 := R5.k2.cell 0
        have f1 := R5.k1.free 0
        have f2 := R5.k2.free 0
        have R6 := R5.lay (.slice (some p6) z d6) (.int .i64 0)
        have hlt2 := HR4.out.k2.lt
        have hO := ho5.turn R6.2 (by intro j hj; simp at hj; omega)
        have dL6 := R6.1.kl
        have HO := Lib.hid (And.intro hO (And.intro R6.1 (And.intro HR4.out.low.size (And.intro (lt_of_block HR4.out.kd) (lt_of_block HR4.out.kl)))))
        clear HR4 R6 R5 hO ho5 hb5 hlt2
        gi_wp2
        refine ⟨dL6, ?_⟩
        intro W5 hT5
        have R7 := HO.out.2.1.turned hT5
        have O7 := HO.out.1.turn hT5.turn (by intro j hj; simp at hj; subst hj; exact HO.out.2.2.2.2)
        have kl7 := R7.kl
        rw [HR.out] at kl7
        have HO2 := Lib.hid (And.intro O7 (And.intro R7 HO.out.2.2))
        clear HO R7 O7 hT5 dL6
        gi_wp2
        refine bodyPost_ret (results_none rfl _ _ _) rfl ⟨⟨_, rfl⟩, Or.inr ⟨_, kl7, ?_⟩⟩
        intro W6 hT6
        have R8 := HO2.out.2.1.turned (o' := rec .exhausted (some .ret)) (by exact hT6)
        have O8 := HO2.out.1.turn hT6.turn (by intro j hj; simp at hj; subst hj; exact HO2.out.2.2.2.2)
        have hp := Turned.put (.deferred none) R8.kd
        have hq := R8.end_ hp
        have HE := Lib.hid (And.intro R8 (And.intro O8 (And.intro hp hq)))
        clear R8 O8 hp hq hT6 kl7
        gi_wp2
        refine ⟨by simp, .inl ⟨_, _, rfl, run_takeDeferred HE.out.1.kd, ?_⟩⟩
        refine ⟨_, results13 HE.out.2.2.2.1 HE.out.2.2.2.2.1 _ rfl rfl, _, rfl, ?_, HE.out.2.2.2.2.2⟩
        rw [hfd.out]
        have hO := HE.out.2.1.turn HE.out.2.2.1.turn (by intro j hj; simp at hj; subst hj; exact HO2.out.2.2.2.1)
        exact ⟨hO.1, Own.base_ HO2.out.2.2.1 hO.2⟩
      · have hne : (x == a) = false := by simpa using hx
        have HNX := Lib.hid (show D.loose[k].1 ≠ a by rw [← HXL.out.1]; exact hx)
        have dL4 := R4.kl
        have HR4 := Lib.hid R4
        clear HXL Y4 G4 R4 hx
        gi_wp2
        refine ⟨dL4, ?_⟩
        intro W5 hT5
        have R5 := HR4.out.turned (o' := rec .ready none) (by rw [HR.out] at hT5; exact hT5)
        have HF := Lib.hid (And.intro R5 (fun j (hj : j < D.loose.length) (hkj : k ≤ j) => (show D.loose[j].1 ≠ a by
          by_cases e : j = k
          · subst e; exact HNX.out
          · exact B.out.2 j hj (by omega))))
        clear R5 hT5 dL4 d0 d1 d2 hne
        gi_wp2
        go_roundw
        case rel =>
          exact ⟨k, by omega, rfl, HF⟩
        case measure => simp [intOf]
theorem Read_any (a : Int) (h : DiskAt w b m vl D) (hL : D.loose.length ≤ 1000000000) :
    Calls Tryz.prog 161 #[.pointer (some ⟨b, 0, none⟩), .int .i64 a] w fun e w' => ∃ v, e = .returned (.tuple #[v, .int .i64 (D.ready a)]) ∧ (if D.ready a = 0 then Own w' w.heap.size v (D.tells a) else v = nilv) ∧ Below w.heap.size w w' := by
  by_cases hr : D.ready a = 0
  · refine (Read_yes a h hr hL).mono ?_
    rintro e w' ⟨v, rfl, h1, h2⟩
    exact ⟨v, by rw [hr], by rw [if_pos hr]; exact h1, h2⟩
  · refine (Read_no a h hr).mono ?_
    rintro e w' ⟨rfl, h2⟩
    exact ⟨_, rfl, by rw [if_neg hr], h2⟩
end
end Go.Proofs.YtfmdmfiljplkoaaGreat
