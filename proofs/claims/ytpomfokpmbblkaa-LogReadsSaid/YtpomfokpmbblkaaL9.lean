/- Walks: Latest. -/
import Derived.Test.YtpomfokpmbblkaaL8
namespace Go.Proofs.Ytpomfokpmbblkaa
open Go.RowKit Go.Maps Go.Shelf
attribute [local go_sem] Oper.semAt_some
set_option maxRecDepth 8000
variable {ι : Type} [Bar ι]

/-- The greatest epoch of a log's first k slots. -/
def latV (D : Dsk) (f : Nat) : Nat → Int
  | 0 => 0
  | k + 1 => max (latV D f k) (slotEp (D.tells ((f : Int) + k)) k)
theorem slotEp_in (s : List Nat) (k : Nat) : 0 ≤ slotEp s k ∧ slotEp s k ≤ 1099511627776 := by
  unfold slotEp
  split
  · rename_i h
    unfold slotOk at h
    simp only [Bool.and_eq_true] at h
    have := of_decide_eq_true h.1.2
    omega
  · omega
theorem latV_in (D : Dsk) (f : Nat) : ∀ k, 0 ≤ latV D f k ∧ latV D f k ≤ 1099511627776
  | 0 => by simp [latV]
  | k + 1 => by
    have h1 := latV_in D f k
    have h2 := slotEp_in (D.tells ((f : Int) + k)) k
    simp only [latV]
    omega

structure LtSt (w0 v : World) (b m : Nat) (vl : Value) (D : Dsk) (f c X EB OB d l : Nat) (out : Int) (o : Loop) : Prop where
  disk : DiskAt v b m vl D
  kX : Blk v X #[.pointer (some ⟨b, 0, none⟩), .int .i64 f, .int .i64 c] 81
  kE : Blk v EB #[.int .i64 0] 29
  kO : Blk v OB #[.int .i64 out] 3
  kd : v.heap[d]? = some (.deferred (some []))
  kl : v.heap[l]? = some (.loop o)
  low : Below w0.heap.size w0 v
  lo : w0.heap.size ≤ OB ∧ w0.heap.size ≤ l ∧ w0.heap.size ≤ d
section
variable {w0 v v' : World} {b m : Nat} {vl : Value} {D : Dsk} {f c X EB OB d l : Nat} {out : Int} {o o' : Loop}
theorem LtSt.grew (h : LtSt w0 v b m vl D f c X EB OB d l out o) (k : Below v.heap.size v v') : LtSt w0 v' b m vl D f c X EB OB d l out o :=
  ⟨h.disk.grew k, h.kX.grew k, h.kE.grew k, h.kO.grew k, (k.block _ (lt_of_block h.kd)).trans h.kd, (k.block _ (lt_of_block h.kl)).trans h.kl, grow h.low k, h.lo⟩
theorem LtSt.turned (h : LtSt w0 v b m vl D f c X EB OB d l out o) (k : Turned l (.loop o') v v') : LtSt w0 v' b m vl D f c X EB OB d l out o' := by
  refine ⟨h.disk.turned h.kl k, h.kX.turned h.kl k, h.kE.turned h.kl k, h.kO.turned h.kl k, (k.same d ?_).trans h.kd, k.at_, h.low.trans (k.below h.lo.2.1), h.lo⟩
  intro e
  have := h.kd
  rw [e, h.kl] at this
  cases this
theorem LtSt.set (h : LtSt w0 v b m vl D f c X EB OB d l out o) (x : Int) : LtSt w0 (v.setCell ⟨OB, 0, none⟩ (.int .i64 x)) b m vl D f c X EB OB d l x o := by
  have ht : Turn [OB] v (v.setCell ⟨OB, 0, none⟩ (.int .i64 x)) := (Turn.refl [OB] v).set (.inl (by simp)) _
  have nb : NoBytes v [OB] := by
    intro k hk cs fz e
    simp at hk; subst hk
    have := h.kO; unfold Blk at this; rw [this] at e; cases e
  have ne : ∀ (x : Nat) (o : Obj), v.heap[x]? = some o → (∀ c, o ≠ .cells c 3 (0, 0)) → x ∉ [OB] := by
    intro x o hx ho hm
    simp at hm; subst hm
    have := h.kO; unfold Blk at this; rw [this] at hx
    exact ho _ (Option.some.inj hx).symm
  refine ⟨h.disk.turn ht nb (fun j hj => ?_), (ht.block X h.kX.lt (ne _ _ h.kX (by intro c e; cases e))).trans h.kX, (ht.block EB h.kE.lt (ne _ _ h.kE (by intro c e; cases e))).trans h.kE, ?_,
    (ht.block d (lt_of_block h.kd) (ne _ _ h.kd (by intro c e; cases e))).trans h.kd, (ht.block l (lt_of_block h.kl) (ne _ _ h.kl (by intro c e; cases e))).trans h.kl, h.low.setCell (p := ⟨OB, 0, none⟩) h.lo.1 _, h.lo⟩
  · rcases mem_own.1 hj with e | e | hg
    · rw [e]; exact ne _ _ h.disk.blk (by intro c e; cases e)
    · obtain ⟨es, clock, hm⟩ := h.disk.fast.kind; rw [e]; exact ne _ _ hm (by intro c e; cases e)
    · obtain ⟨cs, e⟩ := h.disk.loose.kind hg; exact ne _ _ e (by intro c e; cases e)
  · have := h.kO.set 0 (.int .i64 x)
    simpa using this
end

set_option maxHeartbeats 8000000 in
theorem Latest_any {w : World} {b m : Nat} {vl : Value} {D : Dsk} (h : DiskAt w b m vl D) (f c : Nat) (hk : okAt D f c = true) (hlo : D.loose.length ≤ 1000000000) (hdn : D.down = false) :
    Calls Try.prog 22 #[.pointer (some ⟨b, 0, none⟩), .int .i64 f, .int .i64 c] w fun e w' => e = .returned (.tuple #[.int .i64 (latV D f c), .int .i64 0]) ∧ Below w.heap.size w w' := by
  refine (callsIn_wide (n := 5)).1 ?_
  have HAT := Lib.hid (at_ok h f c hk)
  unfold okAt at hk
  have hk2 := of_decide_eq_true hk
  have hs2 := h.ok.s2
  have HUP : Hid (∀ k : Nat, k < c → D.ready ((f : Int) + k) = 0) := Lib.hid (fun k hkc => by unfold Dsk.ready; rw [hdn, if_neg (by simp), if_neg (by omega)])
  have HD := Lib.hid h
  have HLO := Lib.hid hlo
  have hcb : (c : Int) ≤ 1048576 := by omega
  have hfb : (f : Int) ≤ 1048576 := by omega
  clear h hk hk2 hs2 hlo hdn
  refine callsIn_of_wp_marks Try.func22 rfl trivial ?_
  simp only [Try.ntmps22, List.size_toArray, List.length_cons, List.length_nil, Nat.reduceAdd, Nat.reduceSub, Array.replicate_succ, Array.replicate_zero, List.push_toArray, List.append_toArray, List.nil_append, List.cons_append]
  gi_wp2_with fail
  refine ⟨trivial, callsIn_wide.2 (HAT.out.mono ?_)⟩
  rintro e w1 ⟨rfl, hb1⟩
  have H1 : Hid (∀ v, v = (((w1.alloc (.cells #[.pointer (some ⟨b, 0, none⟩), .int .i64 f, .int .i64 c] 81)).alloc (.cells #[.int .i64 0] 29)).alloc (.cells #[.int .i64 0] 3)) → Below w.heap.size w v ∧ DiskAt v b m vl D ∧ Blk v (w1.heap.size + 1) #[.int .i64 0] 29 ∧ Blk v (w1.heap.size + 1 + 1) #[.int .i64 0] 3 ∧ w.heap.size ≤ w1.heap.size + 1 + 1) := Lib.hid (by
    rintro v rfl
    have g0 : Below w1.heap.size w1 (((w1.alloc (.cells #[.pointer (some ⟨b, 0, none⟩), .int .i64 f, .int .i64 c] 81)).alloc (.cells #[.int .i64 0] 29)).alloc (.cells #[.int .i64 0] 3)) := grow_alloc (grow_alloc (grow_alloc (Below.refl _ _) _) _) _
    exact ⟨grow hb1 g0, (HD.out.grew hb1).grew g0, (Blk.new' _ _ _ (by simp)).alloc _, Blk.new' _ _ _ (by simp), by have := hb1.size; omega⟩)
  clear hb1 HAT HD
  gi_wp2_with fail
  have h2 := H1.out _ rfl
  refine ⟨trivial, callsIn_wide.2 ((slots_any _ _ _ _ _).mono ?_)⟩
  rintro e w4 ⟨X, rfl, hX, _, _, hb4⟩
  have H4 := Lib.hid (And.intro (grow h2.1 hb4) (And.intro (h2.2.1.grew hb4) (And.intro (h2.2.2.1.grew hb4) (And.intro (h2.2.2.2.1.grew hb4) (And.intro h2.2.2.2.2 hX)))))
  clear h2 hX hb4 H1
  generalize w1.heap.size + 1 + 1 = OB at *
  generalize w1.heap.size + 1 = EB at *
  gi_wp2_with fail
  refine wpIn_range rfl (by decide) (gf := 55) (lb := #[.pointer (some ⟨X, 0, none⟩), .pointer (some ⟨X + 1, 0, none⟩)]) rfl trivial (enters_of Try.func55 (by kernel_rfl) rfl) ?_
  intro fn hfn W1 hb1 hz1 hD hL
  generalize hrec : recOf fn _ _ _ _ _ = rec at hL ⊢
  have HR := Lib.hid hrec
  clear hrec
  have R1 : LtSt w W1 b m vl D f c X EB OB w4.heap.size (w4.heap.size + 1) (latV D f 0) (rec .ready none) :=
    ⟨H4.out.2.1.grew hb1, H4.out.2.2.2.2.2.grew hb1, H4.out.2.2.1.grew hb1, H4.out.2.2.2.1.grew hb1, hD, hL, grow H4.out.1 hb1, ⟨H4.out.2.2.2.2.1, Nat.le_trans H4.out.1.size (by omega), H4.out.1.size⟩⟩
  have RR := Lib.hid R1
  clear H4 hD hL hb1 R1 hz1
  generalize w4.heap.size = d at *
  refine (iter_any (fun k W => LtSt w W b m vl D f c X EB OB d (d + 1) (latV D f k) (rec .ready none)) (fun _ => False) f c hcb hfb (fun k W h => ⟨h.kX, h.disk⟩) (fun k W W' h hb => h.grew hb) HLO.out HUP.out ?_ RR.out).mono ?_
  · intro k W v R hkc hJ ho hR hRx
    obtain ⟨B, ho⟩ := ho
    obtain ⟨A, c9, rfl, _⟩ := ho.form
    have hep := slotEp_in (D.tells ((f : Int) + k)) k
    have hov := latV_in D f k
    have hlk : latV D f (k + 1) = max (latV D f k) (slotEp (D.tells ((f : Int) + k)) k) := rfl
    rw [hlk] at hR
    have HJ := Lib.hid hJ
    have dL := hJ.kl
    rw [← HR.out] at dL
    refine yield_of trivial dL rfl ?_
    have HRR := Lib.hid hR
    generalize slotLoad (D.tells ((f : Int) + k)) k = ld at *
    generalize slotEmpty (D.tells ((f : Int) + k)) k = em at *
    generalize slotEp (D.tells ((f : Int) + k)) k = ep at *
    generalize latV D f k = out at *
    have e0 := hep.1
    have e1 := hep.2
    have o0 := hov.1
    have o1 := hov.2
    clear hR hRx hJ ho hlk dL RR HUP hep hov
    obtain ⟨n9, hn9⟩ : ∃ n9, n9 = ld.length := ⟨_, rfl⟩
    rw [← hn9]
    clear hn9
    have H2 : Hid (∀ W2, W2 = W.alloc (.cells #[.int .i64 ep, .slice A n9 c9, .bool em] 92) → LtSt w W2 b m vl D f c X EB OB d (d + 1) out (rec .ready none) ∧ Blk W2 W.heap.size #[.int .i64 ep, .slice A n9 c9, .bool em] 92) := Lib.hid (by
      rintro W2 rfl
      exact ⟨HJ.out.grew (grow_alloc (Below.refl _ _) _), Blk.new _ _ _⟩)
    gi_wp2_with fail
    obtain ⟨W2, hW2⟩ : ∃ W2, W2 = W.alloc (.cells #[.int .i64 ep, .slice A n9 c9, .bool em] 92) := ⟨_, rfl⟩
    rw [← hW2]
    have h2 := H2.out W2 hW2
    obtain ⟨Y, hY⟩ : ∃ Y, Y = W.heap.size := ⟨_, rfl⟩
    rw [← hY] at h2 ⊢
    have dL := h2.1.kl
    refine ⟨by rw [HR.out]; exact dL, ?_⟩
    intro W3 hT
    rw [HR.out] at hT
    have h3 := h2.1.turned hT
    have b3 := h2.2.turned dL hT
    have c0 := b3.cell 0
    have c1 := h3.kO.cell 0
    have f1 := h3.kO.free 0
    have H3 := Lib.hid h3
    clear H2 HJ hW2 hY h2 dL hT h3 b3
    rcases Int.lt_trichotomy out ep with hle | hle | hle
    · have hmx : max out ep = ep := by omega
      rw [hmx] at HRR
      have HS := Lib.hid (H3.out.set ep)
      clear hmx
      gi_wp2
      refine ⟨by rw [HR.out]; exact HS.out.kl, ?_⟩
      intro W5 hT5
      rw [HR.out] at hT5
      exact HRR.out W5 (HS.out.turned hT5)
    · subst hle
      have hmx : max out out = out := by omega
      rw [hmx] at HRR
      have HS := Lib.hid (H3.out.set out)
      clear hmx
      gi_wp2
      refine ⟨by rw [HR.out]; exact HS.out.kl, ?_⟩
      intro W5 hT5
      rw [HR.out] at hT5
      exact HRR.out W5 (HS.out.turned hT5)
    · have hmx : max out ep = out := by omega
      rw [hmx] at HRR
      have HS := Lib.hid (H3.out.set out)
      clear hmx
      gi_wp2
      refine ⟨by rw [HR.out]; exact HS.out.kl, ?_⟩
      intro W5 hT5
      rw [HR.out] at hT5
      exact HRR.out W5 (HS.out.turned hT5)
  · rintro e W2 ⟨⟨v, rfl⟩, hj | hj⟩
    · refine ⟨⟨_, rfl⟩, Or.inl ⟨hj.kl, ?_⟩⟩
      intro W3 hT
      have h3 := hj.turned hT
      have c0 := h3.kE.cell 0
      have c1 := h3.kO.cell 0
      have H3 := Lib.hid h3
      clear h3 hj hT RR HUP
      gi_wp2
      have hT := Turned.put (.deferred none) H3.out.kd
      refine ⟨by simp, .inl ⟨_, _, rfl, run_takeDeferred H3.out.kd, ?_⟩⟩
      exact ⟨_, results_tmp2 rfl _ _ _, rfl, H3.out.low.trans (hT.below H3.out.lo.2.2)⟩
    · exact hj.elim
end Go.Proofs.Ytpomfokpmbblkaa
