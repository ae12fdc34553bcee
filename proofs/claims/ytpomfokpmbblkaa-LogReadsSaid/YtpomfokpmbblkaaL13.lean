/- Walks: log.Read. (UNDER WAY) -/
import Derived.Test.YtpomfokpmbblkaaL12
namespace Go.Proofs.Ytpomfokpmbblkaa
open Go.RowKit Go.Maps Go.Shelf
attribute [local go_sem] Oper.semAt_some
set_option maxRecDepth 8000
variable {ι : Type} [Bar ι]

theorem wpListIn_append_run {F : Fence} {n : Nat} {P : Program} (w : World) {ops : Array Oper} {rest : List Oper} {o : Oper} {a : Act} {Q : Exit → Act → World → Prop} (hgd : o.guard = none) (s x : Operand) (t tn : TypeId)
    (ho : o.op = .call { callee := .builtin .append, args := #[s, x], argTypes := #[t, tn] }) (vs vx : Value) (hs : a.eval s = vs) (hx : a.eval x = vx)
    (v' : Value) (w' : World) (hr : (Builtin.append_ #[t, tn] o.type #[vs, vx]).run P w = .ok v' w') (h : wpListIn F n P ops Q rest (a.put o.dst v') w') : wpListIn F n P ops Q (o :: rest) a w := by
  refine wpListIn_plain hgd fun K hK => ?_
  unfold Oper.wpIn
  refine ⟨?_, ?_⟩
  · simp [Oper.about, ho, resolve, Target.leads, Sem.run_pure]
  · rw [Oper.semAt_plain F _ _ (by rw [ho]; intro c hc'; cases hc')]
    simp [execOp, ho, resolve, invoke, builtin, hs, hx, hr, Result.andThen]
    exact hK _ _ h
theorem Gap.slice {w : World} {v gv : Value} {gs : List (List (Int × List Nat))} (h : Gap w v gs gv) : ∃ A n c, v = .slice A n c := by
  obtain ⟨B, _, ⟨vs, _, ho, _⟩, _⟩ := h
  rcases ho.2 with ⟨rfl, _⟩ | ⟨g, cap, cur, rfl, _⟩
  · exact ⟨none, 0, 0, rfl⟩
  · exact ⟨_, _, _, rfl⟩
theorem slot_28 {s : List Nat} {k : Nat} (h64 : 64 ≤ s.length) (h1 : 1 ≤ slotEp s k) : 28 ≤ (slotLoad s k).length := by
  have hs : slotOk s k = true := by
    cases h : slotOk s k with
    | true => rfl
    | false => rw [(slot_no h).1] at h1; omega
  rw [(slot_yes hs).2.1]
  have hr : readOk s = true := by
    unfold slotOk at hs
    simp only [Bool.and_eq_true] at hs
    have := hs.1.1
    unfold readErr at this
    cases h : readOk s with
    | true => rfl
    | false => rw [h] at this; simp at this
  unfold readLoad
  rw [if_pos hr, List.length_drop, List.length_take]
  omega
theorem RdS.end_ {w0 v v' : World} {b m : Nat} {vl : Value} {D : Dsk} {f c X EP EB OB GB d l : Nat} {e : Int} {ov gv : Value} {gs : List (List (Int × List Nat))} {g : List (Int × List Nat)} {o : Loop} (h : RdS w0 v b m vl D f c X EP EB OB GB d l e ov gv gs g o) {p : Obj} (k : Turned d p v v') :
    Gap v' ov gs gv ∧ Below w0.heap.size w0 v' := by
  refine ⟨h.out.turn k.turn ?_ ?_ ?_, h.low.trans (k.below h.lo.2.2.2)⟩
  · intro j hj cs fz hx; simp at hj; subst hj; rw [h.kd] at hx; cases hx
  · intro j hj cs fz hx; simp at hj; subst hj; rw [h.kd] at hx; cases hx
  · intro j hj hm
    obtain ⟨cs, hx⟩ := h.out.kind hj
    simp at hm; subst hm; rw [h.kd] at hx; cases hx

section
variable {w0 v : World} {b m : Nat} {vl : Value} {D : Dsk} {f c X EP EB OB GB d l : Nat} {e : Int} {ov gv : Value} {gs : List (List (Int × List Nat))} {g : List (Int × List Nat)} {o : Loop}
/-- A change is appended to the group begun. -/
theorem RdS.push (h : RdS w0 v b m vl D f c X EP EB OB GB d l e ov gv gs g o) {x : Int} {u : Value} {ll : List Nat} (hu : Byt v u ll) (hn : g.length ≤ 1000000000) :
    ∃ gv' v6, (Builtin.append_ #[38, 38] 38 #[gv, .slice (some ⟨v.heap.size + 1, 0, none⟩) 1 1]).run Try.prog ((v.alloc (.cells #[.int .i64 x, u] 44)).alloc (.cells #[.int .i64 x, u] 44)) = .ok gv' v6 ∧
      v6.cell? ⟨GB, 0, none⟩ = some gv ∧ v6.frozen? ⟨GB, 0, none⟩ = false ∧ RdS w0 (v6.setCell ⟨GB, 0, none⟩ gv') b m vl D f c X EP EB OB GB d l e ov gv' gs (g ++ [(x, ll)]) o := by
  obtain ⟨v5, h5⟩ : ∃ v5, v5 = (v.alloc (.cells #[.int .i64 x, u] 44)).alloc (.cells #[.int .i64 x, u] 44) := ⟨_, rfl⟩
  have k5 : Below v.heap.size v v5 := by subst h5; exact grow_alloc (grow_alloc (Below.refl _ _) _) _
  have hB : Blk v5 (v.heap.size + 1) #[.int .i64 x, u] 44 := by subst h5; exact Blk.new' _ _ _ (by simp)
  have g5 := h.grew k5
  obtain ⟨gv', v6, hrun, h1, h2, hgr, hloc⟩ := g5.row.append hn hB (hu.grew k5)
  rw [← h5]
  have ht : Turn gv.ownBlock.toList v5 v6 := (Turn.refl _ v5).grown hgr (fun k e => .inl (by simp [e]))
  have hT : ∀ j ∈ gv.ownBlock.toList, ∃ cs, v5.heap[j]? = some (.cells cs 44 (0, 0)) := fun j hj => g5.row.kind (by simpa using hj)
  have nb : NoBytes v5 gv.ownBlock.toList := by
    intro j hj cs fz hx
    obtain ⟨cs', e'⟩ := hT j hj
    rw [hx] at e'; cases e'
  have hk : ∀ j, gv.ownBlock = some j → w0.heap.size ≤ j := h.nw
  have hne : ∀ g, ov.ownBlock = some g → gv.ownBlock ≠ some g := fun j hj e => by
    obtain ⟨cs, hx⟩ := g5.out.kind hj
    obtain ⟨cs', hy⟩ := g5.row.kind e
    rw [hx] at hy; cases hy
  have g6 : RdS w0 v6 b m vl D f c X EP EB OB GB d l e ov gv gs g o := g5.moved ht hT (fun j hj => hk j (by simpa using hj)) (g5.out.turnG ht nb hne (fun j hj => .inl hj)) h2
  have hsz : w0.heap.size ≤ v5.heap.size := Nat.le_trans h.low.size k5.size
  refine ⟨gv', v6, hrun, g6.kG.cell 0, g6.kG.free 0, g6.setG h1 (g5.out.turnG ht nb hne (fun j hj => ?_)) (fun j hj => ?_)⟩
  · rcases hloc with e | e
    · exact .inl (by rw [← e]; exact hj)
    · rw [e] at hj; cases hj; exact .inr (Nat.le_refl _)
  rcases hloc with e | e
  · exact hk j (by rw [← e]; exact hj)
  · rw [e] at hj; cases hj; exact hsz
/-- The group is appended to the groups, and a new one begun. -/
theorem RdS.close (h : RdS w0 v b m vl D f c X EP EB OB GB d l e ov gv gs g o) (hn : gs.length ≤ 1000000000) :
    ∃ ov' v9, (Builtin.append_ #[32, 32] 32 #[ov, .slice (some ⟨v.heap.size, 0, none⟩) 1 1]).run Try.prog (v.alloc (.cells #[gv] 38)) = .ok ov' v9 ∧
      v9.cell? ⟨OB, 0, none⟩ = some ov ∧ v9.frozen? ⟨OB, 0, none⟩ = false ∧ (v9.setCell ⟨OB, 0, none⟩ ov').cell? ⟨GB, 0, none⟩ = some gv ∧ (v9.setCell ⟨OB, 0, none⟩ ov').frozen? ⟨GB, 0, none⟩ = false ∧
      RdS w0 ((v9.setCell ⟨OB, 0, none⟩ ov').setCell ⟨GB, 0, none⟩ (.slice none 0 0)) b m vl D f c X EP EB OB GB d l e ov' (.slice none 0 0) (gs ++ [g]) [] o := by
  obtain ⟨v8, h8⟩ : ∃ v8, v8 = v.alloc (.cells #[gv] 38) := ⟨_, rfl⟩
  have k8 : Below v.heap.size v v8 := by subst h8; exact grow_alloc (Below.refl _ _) _
  have hB : Blk v8 v.heap.size #[gv] 38 := by subst h8; exact Blk.new _ _ _
  have g8 := h.grew k8
  obtain ⟨B, q0, q1, q2⟩ := g8.out
  obtain ⟨ov', v9, hrun, h1, h2, h3, h4, hgr, hloc⟩ := q1.append hn hB g8.row
  rw [← h8]
  have ht : Turn ov.ownBlock.toList v8 v9 := (Turn.refl _ v8).grown hgr (fun k e => .inl (by simp [e]))
  have hT : ∀ j ∈ ov.ownBlock.toList, ∃ cs, v8.heap[j]? = some (.cells cs 38 (0, 0)) := fun j hj => q1.kind (by simpa using hj)
  have hGB : GB ∉ ov.ownBlock.toList := fun hm => (h.ne GB (by simpa using hm)).1 rfl
  have hnb : NoBytes v8 ov.ownBlock.toList := by
    intro j hj cs fz hx
    obtain ⟨cs', e'⟩ := hT j hj
    rw [hx] at e'; cases e'
  have hnr : ∀ j ∈ ov.ownBlock.toList, ∀ cs fz, v8.heap[j]? ≠ some (.cells cs 44 fz) := by
    intro j hj cs fz hx
    obtain ⟨cs', e'⟩ := hT j hj
    rw [hx] at e'; cases e'
  have hgp : Gap v9 ov gs gv := ⟨B, Nat.le_trans q0 ht.size, h2, q2⟩
  have g9 : RdS w0 v9 b m vl D f c X EP EB OB GB d l e ov gv gs g o := g8.movedO ht hT (fun j hj => (h.ne j (by simpa using hj)).2) hGB hgp h3
  have hsz : w0.heap.size ≤ v8.heap.size := Nat.le_trans h.low.size k8.size
  have hlt : GB < v8.heap.size := g8.kG.lt
  have g10 := g9.setOG ⟨_, ht.size, h1, by intro j hj; simp [nilv, Value.ownBlock] at hj⟩ (fun j hj => by
    rcases hloc with e | e
    · exact h.ne j (by rw [← e]; exact hj)
    · rw [e] at hj; cases hj; exact ⟨by omega, hsz⟩)
  exact ⟨ov', v9, hrun, g9.kO.cell 0, g9.kO.free 0, g10.2.1, g10.2.2, g10.1⟩
end
set_option maxHeartbeats 8000000 in
theorem LRead_any {w : World} {b m : Nat} {vl : Value} {D : Dsk} (h : DiskAt w b m vl D) (f c : Nat) (ep : Int) (hk : okAt D f c = true) (he : okEp ep = true) (hlo : D.loose.length ≤ 1000000000) (hdn : D.down = false) (R : List (List (Int × List Nat))) (hR : grp D f ep c 0 [] [] = R) :
    Calls Try.prog 13 #[.pointer (some ⟨b, 0, none⟩), .int .i64 f, .int .i64 c, .int .i64 ep] w fun e w' => ∃ ov, e = .returned (.tuple #[ov, .int .i64 0]) ∧ (∃ B, Grps w' ov R B) ∧ Below w.heap.size w w' := by
  refine (callsIn_wide (n := 5)).1 ?_
  have hP : ∀ v, v = w.alloc (.cells #[.int .i64 ep] 3) → DiskAt v b m vl D ∧ Blk v w.heap.size #[.int .i64 ep] 3 ∧ Below w.heap.size w v := by
    rintro v rfl
    exact ⟨h.alloc _, Blk.new _ _ _, grow_alloc (Below.refl _ _) _⟩
  have HP := Lib.hid hP
  have HAT := Lib.hid (fun v (h : DiskAt v b m vl D) => at_ok h f c hk)
  have HME := Lib.hid (fun w => lmay_any ep w)
  rw [he] at HME
  have HEP : Hid (1 ≤ ep) := Lib.hid (of_decide_eq_true he).1
  unfold okAt at hk
  have hk2 := of_decide_eq_true hk
  have hs2 := h.ok.s2
  have HUP : Hid (∀ k : Nat, k < c → D.ready ((f : Int) + k) = 0) := Lib.hid (fun k hkc => by unfold Dsk.ready; rw [hdn, if_neg (by simp), if_neg (by omega)])
  have HLO := Lib.hid hlo
  have HGR := Lib.hid hR
  have hcb : (c : Int) ≤ 1048576 := by omega
  have hfb : (f : Int) ≤ 1048576 := by omega
  clear h hk hk2 hs2 hlo hdn hP he hR
  refine callsIn_of_wp_marks Try.func13 rfl trivial ?_
  simp only [Try.ntmps13, List.size_toArray, List.length_cons, List.length_nil, Nat.reduceAdd, Nat.reduceSub, Array.replicate_succ, Array.replicate_zero, List.push_toArray, List.append_toArray, List.nil_append, List.cons_append]
  gi_wp2_with fail
  have hp := HP.out _ rfl
  obtain ⟨EP, hEP⟩ : ∃ EP, EP = w.heap.size := ⟨_, rfl⟩
  rw [← hEP] at hp
  refine ⟨trivial, callsIn_wide.2 ((HAT.out _ hp.1).mono ?_)⟩
  rintro e w1 ⟨rfl, hb1⟩
  have H1 : Hid (DiskAt w1 b m vl D ∧ Blk w1 EP #[.int .i64 ep] 3 ∧ Below w.heap.size w w1) := Lib.hid ⟨hp.1.grew hb1, hp.2.1.grew hb1, grow (by rw [hEP] at hp; exact hp.2.2) hb1⟩
  rw [← hEP]
  have H2 : Hid (∀ v, v = ((w1.alloc (.cells #[.pointer (some ⟨b, 0, none⟩), .int .i64 f, .int .i64 c] 81)).alloc (.cells #[.int .i64 0] 29)) → DiskAt v b m vl D ∧ Blk v EP #[.int .i64 ep] 3 ∧ Below w.heap.size w v) := Lib.hid (by
    rintro v rfl
    have g0 : Below w1.heap.size w1 ((w1.alloc (.cells #[.pointer (some ⟨b, 0, none⟩), .int .i64 f, .int .i64 c] 81)).alloc (.cells #[.int .i64 0] 29)) := grow_alloc (grow_alloc (Below.refl _ _) _) _
    exact ⟨H1.out.1.grew g0, H1.out.2.1.grew g0, grow H1.out.2.2 g0⟩)
  have hcp := (H2.out _ rfl).2.1.cell 0
  clear hp hb1 HP HAT hEP
  gi_wp2_with fail
  refine ⟨trivial, callsIn_wide.2 ((HME.out _).mono ?_)⟩
  rintro e w2 ⟨rfl, hw2⟩
  have H3 : Hid (∀ v, v = ((w2.alloc (.cells #[.slice none 0 0] 32)).alloc (.cells #[.slice none 0 0] 38)) → DiskAt v b m vl D ∧ Blk v EP #[.int .i64 ep] 3 ∧ Blk v (w1.heap.size + 1) #[.int .i64 0] 29 ∧ Blk v (w1.heap.size + 1 + 1) #[.slice none 0 0] 32 ∧ Blk v (w1.heap.size + 1 + 1 + 1) #[.slice none 0 0] 38 ∧ Below w.heap.size w v ∧ w.heap.size ≤ w1.heap.size) := Lib.hid (by
    rintro v rfl
    have h2 := H2.out w2 hw2
    have hE : Blk w2 (w1.heap.size + 1) #[.int .i64 0] 29 := by rw [hw2]; exact Blk.new' _ _ _ (by simp)
    have hz : w2.heap.size = w1.heap.size + 1 + 1 := by rw [hw2]; simp
    have g0 : Below w2.heap.size w2 ((w2.alloc (.cells #[.slice none 0 0] 32)).alloc (.cells #[.slice none 0 0] 38)) := grow_alloc (grow_alloc (Below.refl _ _) _) _
    exact ⟨h2.1.grew g0, h2.2.1.grew g0, hE.grew g0, (Blk.new' _ _ _ hz.symm).alloc _, Blk.new' _ _ _ (by simp [hz]), grow h2.2.2 g0, H1.out.2.2.size⟩)
  subst hw2
  clear hcp H2 HME H1
  gi_wp2_with fail
  have h3 := H3.out _ rfl
  refine ⟨trivial, callsIn_wide.2 ((slots_any _ _ _ _ _).mono ?_)⟩
  rintro e w4 ⟨X, rfl, hX, hX1, hXl, hb4⟩
  clear hX1 hXl
  have H4 := Lib.hid (And.intro (h3.1.grew hb4) (And.intro (h3.2.1.grew hb4) (And.intro (h3.2.2.1.grew hb4) (And.intro (h3.2.2.2.1.grew hb4) (And.intro (h3.2.2.2.2.1.grew hb4) (And.intro (grow h3.2.2.2.2.2.1 hb4) (And.intro h3.2.2.2.2.2.2 hX)))))))
  clear h3 hX hb4 H3
  have hz1 : w.heap.size ≤ w1.heap.size + 1 + 1 ∧ w.heap.size ≤ w1.heap.size + 1 + 1 + 1 := by have := H4.out.2.2.2.2.2.2.1; omega
  have HZ1 := Lib.hid hz1
  clear hz1
  generalize w1.heap.size + 1 + 1 + 1 = GB at *
  generalize w1.heap.size + 1 + 1 = OB at *
  generalize w1.heap.size + 1 = EB at *
  gi_wp2_with fail
  refine wpIn_range rfl (by decide) (gf := 55) (lb := #[.pointer (some ⟨X, 0, none⟩), .pointer (some ⟨X + 1, 0, none⟩)]) rfl trivial (enters_of Try.func55 (by kernel_rfl) rfl) ?_
  intro fn hfn W1 hb1 hz1 hD hL
  generalize hrec : recOf fn _ _ _ _ _ = rec at hL ⊢
  have HR := Lib.hid hrec
  clear hrec
  have R1 : RdS w W1 b m vl D f c X EP EB OB GB w4.heap.size (w4.heap.size + 1) ep nilv nilv [] [] (rec .ready none) :=
    ⟨H4.out.1.grew hb1, H4.out.2.2.2.2.2.2.2.grew hb1, H4.out.2.1.grew hb1, H4.out.2.2.1.grew hb1, H4.out.2.2.2.1.grew hb1, H4.out.2.2.2.2.1.grew hb1, Gap.nil _, Chg.nil _, by intro j hj; simp [nilv, Value.ownBlock] at hj, by intro j hj; simp [nilv, Value.ownBlock] at hj, hD, hL, grow H4.out.2.2.2.2.2.1 hb1,
      ⟨HZ1.out.1, HZ1.out.2, Nat.le_trans H4.out.2.2.2.2.2.1.size (by omega), H4.out.2.2.2.2.2.1.size⟩⟩
  have RR := Lib.hid R1
  clear H4 hD hL hb1 R1 hz1 HZ1
  generalize w4.heap.size = d at *
  refine (iter_any (fun k W => ∃ ov gv gs g, RdS w W b m vl D f c X EP EB OB GB d (d + 1) ep ov gv gs g (rec .ready none) ∧ grp D f ep (c - k) k gs g = R ∧ gs.length ≤ k ∧ g.length ≤ k ∧ k ≤ c)
    (fun W => ∃ ov gv g, RdS w W b m vl D f c X EP EB OB GB d (d + 1) ep ov gv R g (rec .done (some (.exit 0)))) f c hcb hfb (fun k W h => by obtain ⟨ov, gv, gs, g, h, _⟩ := h; exact ⟨h.kX, h.disk⟩)
    (fun k W W' h hb => by obtain ⟨ov, gv, gs, g, h, r⟩ := h; exact ⟨ov, gv, gs, g, h.grew hb, r⟩) HLO.out HUP.out ?_ ⟨nilv, nilv, [], [], RR.out, HGR.out, by simp, by simp, Nat.zero_le _⟩).mono ?_
  · intro k W v R9 hkc hJ ho hR hRx
    obtain ⟨ov, gv, gs, g, hS, hg, hl1, hl2, hl3⟩ := hJ
    obtain ⟨B, ho⟩ := ho
    have hck : c - k = (c - k - 1) + 1 := by omega
    rw [hck, grp_succ] at hg
    have hst := Dsk.tells_ok hS.disk.ok ((f : Int) + k)
    have hz1 := hS.disk.ok.z1
    have hsl : 1 ≤ slotEp (D.tells ((f : Int) + k)) k → 28 ≤ (slotLoad (D.tells ((f : Int) + k)) k).length := slot_28 (by omega)
    have hnx : slL D f (c - k - 1) (k + 1) = slL D f (c - (k + 1)) (k + 1) := by congr 1
    rw [hnx] at hg
    have hgx : ∀ gs g, grpL ep (slL D f (c - (k + 1)) (k + 1)) gs g = R → grp D f ep (c - (k + 1)) (k + 1) gs g = R := fun _ _ h => h
    have HGX := Lib.hid hgx
    clear hgx hst hnx hck hz1
    have dL := hS.kl
    rw [← HR.out] at dL
    refine yield_of trivial dL rfl ?_
    have HS := Lib.hid hS
    have HO := Lib.hid ho
    have HRR := Lib.hid hR
    have HRX := Lib.hid hRx
    have HSL := Lib.hid hsl
    generalize slL D f (c - (k + 1)) (k + 1) = rest at *
    generalize slotLoad (D.tells ((f : Int) + k)) k = ld at *
    generalize slotEmpty (D.tells ((f : Int) + k)) k = em at *
    generalize slotEp (D.tells ((f : Int) + k)) k = se at *
    have HG := Lib.hid hg
    clear hS ho hR hRx dL RR HUP hsl hg
    obtain ⟨n9, hn9⟩ : ∃ n9, n9 = ld.length := ⟨_, rfl⟩
    by_cases hse : se = ep
    · rw [hse] at HSL HG ⊢
      clear hse
      have hl28 : (28 : Int) ≤ n9 := by have := HSL.out HEP.out; omega
      have hby := Byt.of_own HO.out (by intro e; rw [e] at hn9; simp at hn9; omega)
      obtain ⟨p, c9, rfl, _, _⟩ := hby.rd
      rw [← hn9] at hby ⊢
      have H2 : Hid (∀ W2, W2 = W.alloc (.cells #[.int .i64 ep, .slice (some p) n9 c9, .bool em] 92) → RdS w W2 b m vl D f c X EP EB OB GB d (d + 1) ep ov gv gs g (rec .ready none) ∧ Blk W2 W.heap.size #[.int .i64 ep, .slice (some p) n9 c9, .bool em] 92 ∧ Byt W2 (.slice (some p) n9 c9) ld) := Lib.hid (by
        rintro W2 rfl
        have gg := grow_alloc (Below.refl _ W) (.cells #[.int .i64 ep, .slice (some p) n9 c9, .bool em] 92)
        exact ⟨HS.out.grew gg, Blk.new _ _ _, hby.grew gg⟩)
      clear HSL hn9 HO hby
      gi_wp2_with fail
      obtain ⟨W2, hW2⟩ : ∃ W2, W2 = W.alloc (.cells #[.int .i64 ep, .slice (some p) n9 c9, .bool em] 92) := ⟨_, rfl⟩
      rw [← hW2]
      have h2 := H2.out W2 hW2
      obtain ⟨Y, hY⟩ : ∃ Y, Y = W.heap.size := ⟨_, rfl⟩
      rw [← hY] at h2 ⊢
      have dL := h2.1.kl
      refine ⟨by rw [HR.out]; exact dL, ?_⟩
      intro W3 hT
      rw [HR.out] at hT
      have h3 := h2.1.turned hT
      have b3 := h2.2.1.turned dL hT
      have y3 : Byt W3 (.slice (some p) n9 c9) ld := h2.2.2.turn hT.turn (nobytes_loop dL)
      have c0 := b3.cell 0
      have c1 := b3.cell 1
      have c2 := b3.cell 2
      have cP := h3.kP.cell 0
      have HCH := Lib.hid (change_any ep em p n9 c9 ld W3 y3 hl28)
      have H3 := Lib.hid h3
      clear H2 HS hW2 hY h2 dL hT h3 b3 y3 hl28
      gi_wp2_with fail
      refine ⟨trivial, CallsIn.inRound _ (callsIn_wide.2 (HCH.out.mono ?_))⟩
      rintro e W4 ⟨hb4, ⟨hch, rfl⟩ | ⟨x, ll, last, u, hch, rfl, hu⟩⟩
      · have H4 := Lib.hid (H3.out.grew (grow_alloc hb4 (.cells #[.int .i64 0, .slice none 0 0] 44)))
        have HRXX : Hid (∀ W', RdS w W' b m vl D f c X EP EB OB GB d (d + 1) ep ov gv gs g (rec .done (some (.exit 0))) → R9 (.returned (.bool false)) W') := Lib.hid (fun W' h => HRX.out W' ⟨ov, gv, g, by
          have := HG.out
          rw [hch, grpL_none] at this
          rw [← this]; exact h⟩)
        clear HG HGX HRX HRR HCH H3 hb4 hch c0 c1 c2 cP
        gi_wp2
        refine ⟨by rw [HR.out]; exact H4.out.kl, ?_⟩
        intro W5 hT5
        rw [HR.out] at hT5
        exact HRXX.out W5 (H4.out.turned hT5)
      · have h4 := H3.out.grew hb4
        have hg4 := HG.out
        rw [hch, grpL_some] at hg4
        obtain ⟨gv', v6, hrun, q0, q1, h7⟩ := h4.push (x := x) hu (by omega)
        obtain ⟨A7, c7', e7⟩ := h7.row.slice
        obtain ⟨n7, hn7⟩ : ∃ n7, n7 = (g ++ [(x, ll)]).length := ⟨_, rfl⟩
        rw [← hn7] at e7
        subst e7
        obtain ⟨p7, c7, rfl, _⟩ := hu.rd
        have cG := (h4.grew (grow_alloc (Below.refl _ W4) (.cells #[.int .i64 x, .slice (some p7) ll.length c7] 44))).kG.cell 0
        have HRUN := Lib.hid hrun
        cases last with
        | false =>
          have HS7 : Hid (∀ W', RdS w W' b m vl D f c X EP EB OB GB d (d + 1) ep ov (.slice A7 n7 c7') gs (g ++ [(x, ll)]) (rec .ready none) → R9 (.returned (.bool true)) W') := Lib.hid (fun W' h => HRR.out W' ⟨_, _, _, _, h, HGX.out _ _ hg4, by omega, by rw [List.length_append]; exact Nat.add_le_add_right hl2 1, hkc⟩)
          have H7 := Lib.hid h7
          clear HG HCH H3 hb4 hch c0 c1 c2 cP hu hrun h7 hg4 h4 HRX HRR HGX hn7
          gi_wp2_with (gi_at_builtin; refine wpListIn_append_run _ rfl (.tmp 49) (.tmp 51) 38 38 rfl _ _ rfl rfl _ v6 HRUN.out ?_)
          refine ⟨by rw [HR.out]; exact H7.out.kl, ?_⟩
          intro W5 hT5
          rw [HR.out] at hT5
          exact HS7.out W5 (H7.out.turned hT5)
        | true =>
          obtain ⟨v7, hv7⟩ : ∃ v7, v6.setCell ⟨GB, 0, none⟩ (.slice A7 n7 c7') = v7 := ⟨_, rfl⟩
          rw [hv7] at h7
          obtain ⟨ov', v9, hrun9, r0, r1, r2, r3, h9⟩ := h7.close (by omega)
          obtain ⟨A9, n9', c9', e9⟩ := h9.out.slice
          subst e9
          have HRUN9 := Lib.hid hrun9
          have cO : v7.cell? ⟨OB, 0, none⟩ = some ov := h7.kO.cell 0
          have cG7 : v7.cell? ⟨GB, 0, none⟩ = some (.slice A7 n7 c7') := h7.kG.cell 0
          have HS9 : Hid (∀ W', RdS w W' b m vl D f c X EP EB OB GB d (d + 1) ep (.slice A9 n9' c9') (.slice none 0 0) (gs ++ [g ++ [(x, ll)]]) [] (rec .ready none) → R9 (.returned (.bool true)) W') := Lib.hid (fun W' h => HRR.out W' ⟨_, _, _, _, h, HGX.out _ _ hg4, by rw [List.length_append]; exact Nat.add_le_add_right hl1 1, Nat.zero_le _, hkc⟩)
          have H9 := Lib.hid h9
          clear HG HCH H3 hb4 hch c0 c1 c2 cP hu hrun h7 hg4 h4 HRX HRR HGX hn7 hrun9 h9
          gi_wp2_with (gi_at_builtin; first
            | refine wpListIn_append_run _ rfl (.tmp 49) (.tmp 51) 38 38 rfl _ _ rfl rfl _ v6 HRUN.out ?_
            | refine wpListIn_append_run _ rfl (.tmp 54) (.tmp 56) 32 32 rfl _ _ rfl rfl _ v9 HRUN9.out ?_)
          refine ⟨by rw [HR.out]; exact H9.out.kl, ?_⟩
          intro W5 hT5
          rw [HR.out] at hT5
          exact HS9.out W5 (H9.out.turned hT5)
    · obtain ⟨A, c9, rfl, _⟩ := HO.out.form
      rw [← hn9]
      have H2 : Hid (∀ W2, W2 = W.alloc (.cells #[.int .i64 se, .slice A n9 c9, .bool em] 92) → RdS w W2 b m vl D f c X EP EB OB GB d (d + 1) ep ov gv gs g (rec .ready none) ∧ Blk W2 W.heap.size #[.int .i64 se, .slice A n9 c9, .bool em] 92) := Lib.hid (by
        rintro W2 rfl
        exact ⟨HS.out.grew (grow_alloc (Below.refl _ _) _), Blk.new _ _ _⟩)
      have HRXX : Hid (∀ W', RdS w W' b m vl D f c X EP EB OB GB d (d + 1) ep ov gv gs g (rec .done (some (.exit 0))) → R9 (.returned (.bool false)) W') := Lib.hid (fun W' h => HRX.out W' ⟨ov, gv, g, by
        have := HG.out
        rw [grpL_other hse] at this
        rw [← this]; exact h⟩)
      clear HG HGX HRX HRR HSL hn9 HO
      gi_wp2_with fail
      obtain ⟨W2, hW2⟩ : ∃ W2, W2 = W.alloc (.cells #[.int .i64 se, .slice A n9 c9, .bool em] 92) := ⟨_, rfl⟩
      rw [← hW2]
      have h2 := H2.out W2 hW2
      obtain ⟨Y, hY⟩ : ∃ Y, Y = W.heap.size := ⟨_, rfl⟩
      rw [← hY] at h2 ⊢
      have dL := h2.1.kl
      refine ⟨by rw [HR.out]; exact dL, ?_⟩
      intro W3 hT
      rw [HR.out] at hT
      have h3 := h2.1.turned hT
      have b3 := h2.2.turned dL hT
      have c0 := b3.cell 0
      have cP := h3.kP.cell 0
      have H3 := Lib.hid h3
      clear H2 HS hW2 hY h2 dL hT h3 b3
      gi_wp2
      refine ⟨by rw [HR.out]; exact H3.out.kl, ?_⟩
      intro W5 hT5
      rw [HR.out] at hT5
      exact HRXX.out W5 (H3.out.turned hT5)
  · rintro e W2 ⟨⟨v, rfl⟩, ⟨ov, gv, gs, g, hj, hg, _⟩ | ⟨ov, gv, g, hj⟩⟩
    · have hgs : gs = R := by rw [← hg, Nat.sub_self]; rfl
      subst hgs
      refine ⟨⟨_, rfl⟩, Or.inl ⟨hj.kl, ?_⟩⟩
      intro W3 hT
      have h3 := hj.turned hT
      have c0 := h3.kE.cell 0
      have c1 := h3.kO.cell 0
      have H3 := Lib.hid h3
      clear h3 hj hT RR HUP hg HGR
      gi_wp2
      have hT := Turned.put (.deferred none) H3.out.kd
      refine ⟨by simp, .inl ⟨_, _, rfl, run_takeDeferred H3.out.kd, ?_⟩⟩
      exact ⟨_, results_tmp2 rfl _ _ _, _, rfl, by obtain ⟨⟨B, _, hB, _⟩, hb⟩ := H3.out.end_ hT; exact ⟨⟨B, hB⟩, hb⟩⟩
    · refine ⟨⟨_, rfl⟩, Or.inr ⟨.exit 0, hj.kl, ?_⟩⟩
      intro W3 hT
      have h3 := hj.turned hT
      have c0 := h3.kE.cell 0
      have c1 := h3.kO.cell 0
      have H3 := Lib.hid h3
      clear h3 hj hT RR HUP HGR
      gi_wp2
      have hT := Turned.put (.deferred none) H3.out.kd
      refine ⟨by simp, .inl ⟨_, _, rfl, run_takeDeferred H3.out.kd, ?_⟩⟩
      exact ⟨_, results_tmp2 rfl _ _ _, _, rfl, by obtain ⟨⟨B, _, hB, _⟩, hb⟩ := H3.out.end_ hT; exact ⟨⟨B, hB⟩, hb⟩⟩
end Go.Proofs.Ytpomfokpmbblkaa
