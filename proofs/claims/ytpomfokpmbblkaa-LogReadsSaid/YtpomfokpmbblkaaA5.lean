/- Walks: puts among a law's arguments; light; group. Printed by mk_a5.py. -/
import Derived.Test.YtpomfokpmbblkaaA3
namespace Go.Proofs.Ytpomfokpmbblkaa
open Go.RowKit Go.Maps
set_option maxRecDepth 8000

/-- A put: a page, a byte, a length. -/
structure PutV where
  page : Int
  B : Nat
  len : Int
def putLen (room : Nat) (x : PutV) : Nat := if x.len < 0 ∨ 5000 < x.len then room else x.len.toNat
def chOfPut (room : Nat) (x : PutV) : Int × List Nat := (x.page, List.replicate (putLen room x) x.B)
/-- The put at q. -/
def PutAt (w : World) (q : Addr) (x : PutV) : Prop :=
  x.B < 256 ∧ w.cell? q = some (.int .i64 x.page) ∧ w.cell? ⟨q.block, q.off + 1, none⟩ = some (.int .u8 x.B) ∧ w.cell? ⟨q.block, q.off + 2, none⟩ = some (.int .i64 x.len)
/-- From A on these puts lie, all below N. -/
def Puts (w : World) (N : Nat) (A : Option Addr) (l : List PutV) : Prop :=
  l ≠ [] → ∃ p, A = some p ∧ p.block < N ∧ ∀ k (h : k < l.length), PutAt w (p.add (k * 3)) l[k]
/-- From A on slices of these puts lie, all below N. -/
def PutRows (w : World) (N : Nat) (A : Option Addr) (ls : List (List PutV)) : Prop :=
  ls ≠ [] → ∃ p, A = some p ∧ p.block < N ∧ ∀ k (h : k < ls.length), ∃ B c, w.cell? (p.add k) = some (.slice B ls[k].length c) ∧ Puts w N B ls[k]
section
variable {v v' : World} {N : Nat} {A : Option Addr}
theorem PutAt.below {q : Addr} {x : PutV} (h : PutAt v q x) (hb : Below N v v') (hq : q.block < N) : PutAt v' q x := by
  obtain ⟨h1, k0, k1, k2⟩ := h
  exact ⟨h1, (hb.cell hq).trans k0, (hb.cell (p := ⟨q.block, _, none⟩) hq).trans k1, (hb.cell (p := ⟨q.block, _, none⟩) hq).trans k2⟩
theorem Puts.below {l : List PutV} (h : Puts v N A l) (hb : Below N v v') : Puts v' N A l := by
  intro hn
  obtain ⟨p, e, hp, hc⟩ := h hn
  exact ⟨p, e, hp, fun k hk => (hc k hk).below hb (by rw [add_block]; exact hp)⟩
theorem Puts.get {l : List PutV} (h : Puts v N A l) {k : Nat} (hk : k < l.length) : ∃ p, A = some p ∧ p.block < N ∧ PutAt v (p.add (k * 3)) l[k] := by
  obtain ⟨p, e, hp, hc⟩ := h (by intro e; rw [e] at hk; simp at hk)
  exact ⟨p, e, hp, hc k hk⟩
theorem PutRows.below {ls : List (List PutV)} (h : PutRows v N A ls) (hb : Below N v v') : PutRows v' N A ls := by
  intro hn
  obtain ⟨p, e, hp, hc⟩ := h hn
  refine ⟨p, e, hp, fun k hk => ?_⟩
  obtain ⟨B, c, h1, h2⟩ := hc k hk
  exact ⟨B, c, (hb.cell (by rw [add_block]; exact hp)).trans h1, h2.below hb⟩
theorem PutRows.get {ls : List (List PutV)} (h : PutRows v N A ls) {k : Nat} (hk : k < ls.length) : ∃ p B c, A = some p ∧ p.block < N ∧ v.cell? (p.add k) = some (.slice B ls[k].length c) ∧ Puts v N B ls[k] := by
  obtain ⟨p, e, hp, hc⟩ := h (by intro e; rw [e] at hk; simp at hk)
  obtain ⟨B, c, h1, h2⟩ := hc k hk
  exact ⟨p, B, c, e, hp, h1, h2⟩
end

/-- Are there few puts? -/
def lightB (ls : List (List PutV)) : Bool := decide (ls.length ≤ 8 ∧ ∀ x ∈ ls, x.length ≤ 8)
set_option maxHeartbeats 2000000 in
theorem light_any (m f c e : Value) (A : Option Addr) (ls : List (List PutV)) (n cap N : Nat) (w : World) (hn : ls.length = n) (hN : N ≤ w.heap.size) (hr : PutRows w N A ls) :
    Calls Try.prog 9 #[.agg #[m, f, c, e, .slice A n cap]] w fun e w' => e = .returned (.bool (lightB ls)) ∧ Below w.heap.size w w' := by
  obtain ⟨w1, hw1⟩ : ∃ w1, w1 = w.alloc (.cells #[m, f, c, e, .slice A n cap] 24) := ⟨_, rfl⟩
  have hb : Below w.heap.size w w1 := by subst hw1; exact grow_alloc (Below.refl _ _) _
  have hX : Blk w1 w.heap.size #[m, f, c, e, .slice A n cap] 24 := by subst hw1; exact Blk.new _ _ _
  have HR := Lib.hid (hr.below (hb.mono hN))
  have HN := Lib.hid hn
  have HB := Lib.hid hb
  have c4 := hX.cell 4
  have HW1 := Lib.hid hw1
  clear hr hn hb hX hw1
  by_cases h40 : (8 : Int) < n
  · have hno : lightB ls = false := decide_eq_false fun h => by have := HN.out; omega
    have HNO := Lib.hid hno
    clear hno
    go_enter Try.func9, Try.ntmps9
    go_wp2_with fail
    go_ret
    exact ⟨ret_bool HNO.out.symm, by rw [← HW1.out]; exact HB.out⟩
  go_enter Try.func9, Try.ntmps9
  go_wp2_with fail
  rw [← HW1.out]
  clear HW1
  go_loopw [3] (fun i wr => ∃ k : Nat, k ≤ n ∧ i = .int .i64 k ∧ wr = w1 ∧ Hid (∀ j (h : j < ls.length), j < k → ls[j].length ≤ 8)) (fun i _ => n - (intOf i).toNat)
  case atStart => exact ⟨0, by omega, rfl, rfl, Lib.hid fun j _ h => absurd h (by omega)⟩
  case round =>
    obtain ⟨k, hk, rfl, rfl, HM⟩ := hrel
    by_cases hlt : k < n
    · have hkl : k < ls.length := by rw [HN.out]; exact hlt
      obtain ⟨p, B, cb, e, _, h4, _⟩ := HR.out.get hkl
      cases e
      obtain ⟨f9, hf⟩ : ∃ f9, f9 = ls[k].length := ⟨_, rfl⟩
      rw [← hf] at h4
      have HF := Lib.hid hf
      clear hf
      by_cases h60 : (8 : Int) < f9
      · have hno : lightB ls = false := decide_eq_false fun h => by
          have := h.2 _ (List.getElem_mem hkl)
          have := HF.out
          omega
        have HNO := Lib.hid hno
        clear hno
        go_wp2
        go_ret
        exact ⟨ret_bool HNO.out.symm, HB.out⟩
      · have HH := Lib.hid h60
        go_wp2
        go_round
        case rel => exact ⟨k + 1, by omega, by go_num, trivial, Lib.hid fun j h hj => by
          by_cases e : j = k
          · subst e; have := HF.out; have := HH.out; omega
          · exact HM.out j h (by omega)⟩
        case measure => simp only [intOf]; omega
    · have hyes : lightB ls = true := decide_eq_true ⟨by have := HN.out; omega, fun x hx => by
        obtain ⟨j, hj, rfl⟩ := List.mem_iff_getElem.1 hx
        exact HM.out j hj (by have := HN.out; omega)⟩
      have HY := Lib.hid hyes
      clear hyes
      go_wp2
      go_ret
      exact ⟨ret_bool HY.out.symm, HB.out⟩

/-- What stands while puts become changes. -/
structure GrpSt (w v : World) (N : Nat) (A : Option Addr) (l : List PutV) (k : Nat) (out : Value) (room : Nat) : Prop where
  puts : Puts v N A l
  row : Chg v out ((l.take k).map (chOfPut room))
  low : Below w.heap.size w v
  own : ∀ j, out.ownBlock = some j → w.heap.size ≤ j
  le : N ≤ w.heap.size
section
variable {w v v' : World} {N k room : Nat} {A : Option Addr} {l : List PutV} {out : Value}
theorem GrpSt.grew (h : GrpSt w v N A l k out room) (hb : Below v.heap.size v v') : GrpSt w v' N A l k out room :=
  ⟨h.puts.below (hb.mono (Nat.le_trans h.le h.low.size)), h.row.grew hb, grow h.low hb, h.own, h.le⟩
theorem GrpSt.drew (h : GrpSt w v N A l k out room) : GrpSt w v.drew N A l k out room := h.grew ⟨rfl, rfl, rfl, Nat.le_refl _, fun _ _ => rfl⟩
theorem GrpSt.push (h : GrpSt w v N A l k out room) (hk : k < l.length) {g : Nat} {x : Int} {u : Value} {y : List Nat} (hB : Blk v g #[.int .i64 x, u] 44) (hu : Byt v u y) (he : chOfPut room l[k] = (x, y)) (hn : k ≤ 1000000000) :
    ∃ v' w', (Builtin.append_ #[38, 38] 38 #[out, .slice (some ⟨g, 0, none⟩) 1 1]).run Try.prog v = .ok v' w' ∧ GrpSt w w' N A l (k + 1) v' room ∧ Below N v w' := by
  obtain ⟨v', w', hrun, h1, _, hgr, hloc⟩ := h.row.append (by simp; omega) hB hu
  have hb : Below w.heap.size v w' := (Below.refl _ v).grown hgr (Nat.le_trans h.low.size (Nat.le_refl _)) h.own
  have ht : (l.take (k + 1)).map (chOfPut room) = (l.take k).map (chOfPut room) ++ [(x, y)] := by
    rw [List.take_add_one, List.getElem?_eq_getElem hk, List.map_append, ← he]; rfl
  refine ⟨v', w', hrun, ⟨h.puts.below (hb.mono h.le), by rw [ht]; exact h1, h.low.trans hb, fun j hj => ?_, h.le⟩, hb.mono h.le⟩
  rcases hloc with e | e
  · exact h.own j (by rw [← e]; exact hj)
  · rw [e] at hj; cases hj; exact h.low.size
end

set_option maxHeartbeats 8000000 in
theorem group_any (A : Option Addr) (l : List PutV) (n c N room : Nat) (w : World) (hn : l.length = n) (hnb : (n : Int) ≤ 1000000) (hN : N ≤ w.heap.size) (hrm : room ≤ 5000) (hr : Puts w N A l) :
    Calls Try.prog 16 #[.slice A n c, .int .i64 room] w fun e w' => ∃ v, e = .returned v ∧ Chg w' v (l.map (chOfPut room)) ∧ (∀ j, v.ownBlock = some j → w.heap.size ≤ j) ∧ Below w.heap.size w w' := by
  have HN := Lib.hid hn
  have HNN0 := Lib.hid hnb
  have HRM := Lib.hid hrm
  have H0 : Hid (GrpSt w w N A l 0 nilv room) := Lib.hid ⟨hr, by simpa using Chg.nil w, Below.refl _ _, by intro j hj; simp [nilv, Value.ownBlock] at hj, hN⟩
  clear hn hnb hrm hr hN
  go_enter Try.func16, Try.ntmps16
  go_wp2_with fail
  go_loopw [5, 6] (fun o i wr => ∃ k : Nat, k ≤ n ∧ i = .int .i64 k ∧ Hid (GrpSt w wr N A l k o room)) (fun _ i _ => n - (intOf i).toNat)
  case atStart => exact ⟨0, by omega, rfl, H0⟩
  case round =>
    clear H0
    obtain ⟨k, hk, rfl, HS⟩ := hrel
    by_cases hlt : k < n
    · have hkl : k < l.length := by rw [HN.out]; exact hlt
      obtain ⟨p, e, hpb, hB, h0, h1, h2⟩ := HS.out.puts.get hkl
      cases e
      obtain ⟨nn, hnn⟩ : ∃ nn, nn = putLen room l[k] := ⟨_, rfl⟩
      have heq : chOfPut room l[k] = (l[k].page, List.replicate nn l[k].B) := by rw [hnn]; rfl
      unfold putLen at hnn
      have HNB : Hid (k ≤ 1000000000) := Lib.hid (by have := HNN0.out; omega)
      have HPB := Lib.hid hpb
      obtain ⟨x, hx⟩ : ∃ x, x = l[k] := ⟨_, rfl⟩
      rw [← hx] at hB h0 h1 h2 hnn heq
      have HEQ0 := Lib.hid (And.intro hx heq)
      obtain ⟨pg, bb, ln⟩ := x
      dsimp only at hB h0 h1 h2 hnn heq
      have HEQ : Hid (chOfPut room l[k] = (pg, List.replicate nn bb)) := Lib.hid (by rw [← HEQ0.out.1]; exact HEQ0.out.2)
      have HK := Lib.hid hkl
      have HC := Lib.hid (And.intro h0 h1)
      clear hx heq HEQ0 h0 h1 hpb
      by_cases hl1 : ln < 0
      · have hnn' : nn = room := by rw [hnn, if_pos (.inl hl1)]
        have HBB : Hid (bb < 256 ∧ nn ≤ 1000000) := Lib.hid ⟨hB, by have := HRM.out; omega⟩
        subst hnn'
        clear hnn hB
        go_wp2_with fail
        refine wp_region_H (fun v => v.cell? (p.add (k * 3)) = some (.int .i64 pg) ∧ v.cell? ⟨(p.add (k * 3)).block, (p.add (k * 3)).off + 1, none⟩ = some (.int .u8 bb)) (by kernel_rfl) (fun u0 hu0 => ?_)
        have hS0 : (fun v => v.cell? (p.add (k * 3)) = some (.int .i64 pg) ∧ v.cell? ⟨(p.add (k * 3)).block, (p.add (k * 3)).off + 1, none⟩ = some (.int .u8 bb)) u0 := by subst hu0; exact ⟨HC.out.1, HC.out.2⟩
        have g0 : GrpSt w u0 N (some p) l k u5 nn := by subst hu0; exact HS.out.drew
        clear hu0
        refine wpH_take (i := 0) (v := ?_) rfl rfl (by kernel_rfl) (by kernel_rfl) (by kernel_rfl) (fun _ _ _ h => h) (Or.inl ⟨by rfl, ?_⟩) hS0 ?_
        rotate_left
        · (intro w_ hw_; go_simp; try with_reducible rfl)
        simp only [List.setIfInBounds_toArray, List.set_cons_zero, List.set_cons_succ]
        refine wpH_take (i := 1) (v := ?_) rfl rfl (by kernel_rfl) (by kernel_rfl) (by kernel_rfl) (fun _ _ _ h => h) (Or.inl ⟨by rfl, ?_⟩) hS0 ?_
        rotate_left
        · (intro w_ hw_; go_simp; try with_reducible rfl)
        simp only [List.setIfInBounds_toArray, List.set_cons_zero, List.set_cons_succ]
        refine wpH_take (i := 2) (v := ?_) rfl rfl (by kernel_rfl) (by kernel_rfl) (by kernel_rfl) (fun _ _ _ h => h) (Or.inl ⟨by rfl, ?_⟩) hS0 ?_
        rotate_left
        · (intro w_ hw_; go_simp; try with_reducible rfl)
        simp only [List.setIfInBounds_toArray, List.set_cons_zero, List.set_cons_succ]
        refine wpH_take (i := 3) (v := ?_) rfl rfl (by kernel_rfl) (by kernel_rfl) (by kernel_rfl) (fun _ _ _ h => h) (Or.inl ⟨by rfl, ?_⟩) hS0 ?_
        rotate_left
        · (intro w_ hw_; go_simp; try with_reducible rfl)
        simp only [List.setIfInBounds_toArray, List.set_cons_zero, List.set_cons_succ]
        refine wpH_take (i := 4) (v := ?_) rfl rfl (by kernel_rfl) (by kernel_rfl) (by kernel_rfl) (fun _ _ _ h => h) (Or.inl ⟨by rfl, ?_⟩) hS0 ?_
        rotate_left
        · (intro w_ hw_; go_simp; try with_reducible rfl)
        simp only [List.setIfInBounds_toArray, List.set_cons_zero, List.set_cons_succ]
        refine wpH_take (i := 5) (v := ?_) rfl rfl (by kernel_rfl) (by kernel_rfl) (by kernel_rfl) (fun _ _ _ h => h) (Or.inl ⟨by rfl, ?_⟩) hS0 ?_
        rotate_left
        · (intro w_ hw_; (have q1 := hw_.1; have q2 := hw_.2; clear hw_); go_simp; try with_reducible rfl)
        simp only [List.setIfInBounds_toArray, List.set_cons_zero, List.set_cons_succ]
        refine wpH_take (i := 6) (v := ?_) rfl rfl (by kernel_rfl) (by kernel_rfl) (by kernel_rfl) (fun _ _ _ h => h) (Or.inl ⟨by rfl, ?_⟩) hS0 ?_
        rotate_left
        · (intro w_ hw_; go_simp; try with_reducible rfl)
        simp only [List.setIfInBounds_toArray, List.set_cons_zero, List.set_cons_succ]
        refine wpH_take (i := 7) (v := ?_) rfl rfl (by kernel_rfl) (by kernel_rfl) (by kernel_rfl) (fun _ _ _ h => h) (Or.inl ⟨by rfl, ?_⟩) hS0 ?_
        rotate_left
        · (intro w_ hw_; go_simp; try with_reducible rfl)
        simp only [List.setIfInBounds_toArray, List.set_cons_zero, List.set_cons_succ]
        refine wpH_take (i := 8) (v := ?_) rfl rfl (by kernel_rfl) (by kernel_rfl) (by kernel_rfl) (fun _ _ _ h => h) (Or.inl ⟨by rfl, ?_⟩) hS0 ?_
        rotate_left
        · (intro w_ hw_; go_simp; try with_reducible rfl)
        simp only [List.setIfInBounds_toArray, List.set_cons_zero, List.set_cons_succ]
        refine wpH_take (i := 9) (v := ?_) rfl rfl (by kernel_rfl) (by kernel_rfl) (by kernel_rfl) (fun _ _ _ h => h) (Or.inl ⟨by rfl, ?_⟩) hS0 ?_
        rotate_left
        · (intro w_ hw_; go_simp; try with_reducible rfl)
        simp only [List.setIfInBounds_toArray, List.set_cons_zero, List.set_cons_succ]
        refine wpH_take (i := 10) (v := ?_) rfl rfl (by kernel_rfl) (by kernel_rfl) (by kernel_rfl) (fun _ _ _ h => h) (Or.inl ⟨by rfl, ?_⟩) hS0 ?_
        rotate_left
        · (intro w_ hw_; (have q1 := hw_.1; have q2 := hw_.2; clear hw_); go_simp; try with_reducible rfl)
        simp only [List.setIfInBounds_toArray, List.set_cons_zero, List.set_cons_succ]
        refine wpH_take (i := 11) (v := ?_) rfl rfl (by kernel_rfl) (by kernel_rfl) (by kernel_rfl) (fun _ _ _ h => h) (Or.inl ⟨by rfl, ?_⟩) hS0 ?_
        rotate_left
        · (intro w_ hw_; go_simp; try with_reducible rfl)
        simp only [List.setIfInBounds_toArray, List.set_cons_zero, List.set_cons_succ]
        have hf := full_anyv bb nn u0 HBB.out.1 HBB.out.2
        refine wpH_callv (i := 12) (by kernel_rfl) rfl rfl (by rfl) (hf) (by go_simp) ?_
        rintro _ u1 ⟨g9, rfl, ho9, hb9⟩
        have hS1 : (fun v => v.cell? (p.add (k * 3)) = some (.int .i64 pg) ∧ v.cell? ⟨(p.add (k * 3)).block, (p.add (k * 3)).off + 1, none⟩ = some (.int .u8 bb)) u1 := ⟨cell_grew hS0.1 hb9, cell_grew hS0.2 hb9⟩
        clear hS0
        refine ⟨hS1, ?_⟩
        simp only [List.setIfInBounds_toArray, List.set_cons_zero, List.set_cons_succ]
        have g1 := g0.grew hb9
        clear hf g0 hb9
        refine wpH_take (i := 13) (v := ?_) rfl rfl (by kernel_rfl) (by kernel_rfl) (by kernel_rfl) (fun _ _ _ h => h) (Or.inl ⟨by rfl, ?_⟩) hS1 ?_
        rotate_left
        · (intro w_ hw_; go_simp; try with_reducible rfl)
        simp only [List.setIfInBounds_toArray, List.set_cons_zero, List.set_cons_succ]
        obtain ⟨u2, hu2⟩ : ∃ u2, u2 = u1.alloc (.cells #[.int .i64 pg, .slice (some ⟨g9, 0, none⟩) nn nn] 44) := ⟨_, rfl⟩
        have hb2 : Below u1.heap.size u1 u2 := by subst hu2; exact grow_alloc (Below.refl _ _) _
        have hS2 : (fun v => v.cell? (p.add (k * 3)) = some (.int .i64 pg) ∧ v.cell? ⟨(p.add (k * 3)).block, (p.add (k * 3)).off + 1, none⟩ = some (.int .u8 bb)) u2 := ⟨cell_grew hS1.1 hb2, cell_grew hS1.2 hb2⟩
        clear hS1
        refine wpH_run (i := 14) (v := (.slice (some ⟨u1.heap.size, 0, none⟩) 1 1)) (w' := u2) (by kernel_rfl) rfl rfl (by rfl) (by rw [hu2]; go_simp) hS2 ?_
        simp only [List.setIfInBounds_toArray, List.set_cons_zero, List.set_cons_succ]
        have hy : Byt u2 (.slice (some ⟨g9, 0, none⟩) nn nn) (List.replicate nn bb) := (Byt.of_own' ho9).grew hb2
        have hB : Blk u2 u1.heap.size #[.int .i64 pg, .slice (some ⟨g9, 0, none⟩) nn nn] 44 := by subst hu2; exact Blk.new _ _ _
        have g2 := g1.grew hb2
        obtain ⟨v', u3, hrun, g3, hbN⟩ := g2.push HK.out hB hy HEQ.out HNB.out
        have hp9 := HPB.out
        have hS3 : (fun v => v.cell? (p.add (k * 3)) = some (.int .i64 pg) ∧ v.cell? ⟨(p.add (k * 3)).block, (p.add (k * 3)).off + 1, none⟩ = some (.int .u8 bb)) u3 := ⟨(hbN.cell (by rw [add_block]; exact hp9)).trans hS2.1, (hbN.cell (p := ⟨(p.add (k * 3)).block, _, none⟩) (by rw [add_block]; exact hp9)).trans hS2.2⟩
        clear hS2
        refine wpH_run (i := 15) (v := v') (w' := u3) (by kernel_rfl) rfl rfl (by rfl) (by exact exec_append (.tmp 26) (.tmp 40) 38 38 rfl rfl rfl hrun) hS3 ?_
        simp only [List.setIfInBounds_toArray, List.set_cons_zero, List.set_cons_succ]
        clear hrun hy hB g2 g1 hb2 ho9 hu2 hbN hp9
        refine wpH_take (i := 16) (v := ?_) rfl rfl (by kernel_rfl) (by kernel_rfl) (by kernel_rfl) (fun _ _ _ h => h) (Or.inl ⟨by rfl, ?_⟩) hS3 ?_
        rotate_left
        · (intro w_ hw_; go_simp; try with_reducible rfl)
        simp only [List.setIfInBounds_toArray, List.set_cons_zero, List.set_cons_succ]
        have HG3 := Lib.hid g3
        clear g3
        clear hS3
        refine wpAnyH_done (by kernel_rfl) ?_ _

        have hbn := HNN0.out
        go_wp2
        go_round
        case rel => exact ⟨k + 1, by omega, by go_num, HG3⟩
        case measure => simp only [intOf]; omega
      · by_cases hl2 : 5000 < ln
        · have hnn' : nn = room := by rw [hnn, if_pos (.inr hl2)]
          have HBB : Hid (bb < 256 ∧ nn ≤ 1000000) := Lib.hid ⟨hB, by have := HRM.out; omega⟩
          subst hnn'
          clear hnn hB
          go_wp2_with fail
          refine wp_region_H (fun v => v.cell? (p.add (k * 3)) = some (.int .i64 pg) ∧ v.cell? ⟨(p.add (k * 3)).block, (p.add (k * 3)).off + 1, none⟩ = some (.int .u8 bb)) (by kernel_rfl) (fun u0 hu0 => ?_)
          have hS0 : (fun v => v.cell? (p.add (k * 3)) = some (.int .i64 pg) ∧ v.cell? ⟨(p.add (k * 3)).block, (p.add (k * 3)).off + 1, none⟩ = some (.int .u8 bb)) u0 := by subst hu0; exact ⟨HC.out.1, HC.out.2⟩
          have g0 : GrpSt w u0 N (some p) l k u5 nn := by subst hu0; exact HS.out.drew
          clear hu0
          refine wpH_take (i := 0) (v := ?_) rfl rfl (by kernel_rfl) (by kernel_rfl) (by kernel_rfl) (fun _ _ _ h => h) (Or.inl ⟨by rfl, ?_⟩) hS0 ?_
          rotate_left
          · (intro w_ hw_; go_simp; try with_reducible rfl)
          simp only [List.setIfInBounds_toArray, List.set_cons_zero, List.set_cons_succ]
          refine wpH_take (i := 1) (v := ?_) rfl rfl (by kernel_rfl) (by kernel_rfl) (by kernel_rfl) (fun _ _ _ h => h) (Or.inl ⟨by rfl, ?_⟩) hS0 ?_
          rotate_left
          · (intro w_ hw_; go_simp; try with_reducible rfl)
          simp only [List.setIfInBounds_toArray, List.set_cons_zero, List.set_cons_succ]
          refine wpH_take (i := 2) (v := ?_) rfl rfl (by kernel_rfl) (by kernel_rfl) (by kernel_rfl) (fun _ _ _ h => h) (Or.inl ⟨by rfl, ?_⟩) hS0 ?_
          rotate_left
          · (intro w_ hw_; go_simp; try with_reducible rfl)
          simp only [List.setIfInBounds_toArray, List.set_cons_zero, List.set_cons_succ]
          refine wpH_take (i := 3) (v := ?_) rfl rfl (by kernel_rfl) (by kernel_rfl) (by kernel_rfl) (fun _ _ _ h => h) (Or.inl ⟨by rfl, ?_⟩) hS0 ?_
          rotate_left
          · (intro w_ hw_; go_simp; try with_reducible rfl)
          simp only [List.setIfInBounds_toArray, List.set_cons_zero, List.set_cons_succ]
          refine wpH_take (i := 4) (v := ?_) rfl rfl (by kernel_rfl) (by kernel_rfl) (by kernel_rfl) (fun _ _ _ h => h) (Or.inl ⟨by rfl, ?_⟩) hS0 ?_
          rotate_left
          · (intro w_ hw_; go_simp; try with_reducible rfl)
          simp only [List.setIfInBounds_toArray, List.set_cons_zero, List.set_cons_succ]
          refine wpH_take (i := 5) (v := ?_) rfl rfl (by kernel_rfl) (by kernel_rfl) (by kernel_rfl) (fun _ _ _ h => h) (Or.inl ⟨by rfl, ?_⟩) hS0 ?_
          rotate_left
          · (intro w_ hw_; (have q1 := hw_.1; have q2 := hw_.2; clear hw_); go_simp; try with_reducible rfl)
          simp only [List.setIfInBounds_toArray, List.set_cons_zero, List.set_cons_succ]
          refine wpH_take (i := 6) (v := ?_) rfl rfl (by kernel_rfl) (by kernel_rfl) (by kernel_rfl) (fun _ _ _ h => h) (Or.inl ⟨by rfl, ?_⟩) hS0 ?_
          rotate_left
          · (intro w_ hw_; go_simp; try with_reducible rfl)
          simp only [List.setIfInBounds_toArray, List.set_cons_zero, List.set_cons_succ]
          refine wpH_take (i := 7) (v := ?_) rfl rfl (by kernel_rfl) (by kernel_rfl) (by kernel_rfl) (fun _ _ _ h => h) (Or.inl ⟨by rfl, ?_⟩) hS0 ?_
          rotate_left
          · (intro w_ hw_; go_simp; try with_reducible rfl)
          simp only [List.setIfInBounds_toArray, List.set_cons_zero, List.set_cons_succ]
          refine wpH_take (i := 8) (v := ?_) rfl rfl (by kernel_rfl) (by kernel_rfl) (by kernel_rfl) (fun _ _ _ h => h) (Or.inl ⟨by rfl, ?_⟩) hS0 ?_
          rotate_left
          · (intro w_ hw_; go_simp; try with_reducible rfl)
          simp only [List.setIfInBounds_toArray, List.set_cons_zero, List.set_cons_succ]
          refine wpH_take (i := 9) (v := ?_) rfl rfl (by kernel_rfl) (by kernel_rfl) (by kernel_rfl) (fun _ _ _ h => h) (Or.inl ⟨by rfl, ?_⟩) hS0 ?_
          rotate_left
          · (intro w_ hw_; go_simp; try with_reducible rfl)
          simp only [List.setIfInBounds_toArray, List.set_cons_zero, List.set_cons_succ]
          refine wpH_take (i := 10) (v := ?_) rfl rfl (by kernel_rfl) (by kernel_rfl) (by kernel_rfl) (fun _ _ _ h => h) (Or.inl ⟨by rfl, ?_⟩) hS0 ?_
          rotate_left
          · (intro w_ hw_; (have q1 := hw_.1; have q2 := hw_.2; clear hw_); go_simp; try with_reducible rfl)
          simp only [List.setIfInBounds_toArray, List.set_cons_zero, List.set_cons_succ]
          refine wpH_take (i := 11) (v := ?_) rfl rfl (by kernel_rfl) (by kernel_rfl) (by kernel_rfl) (fun _ _ _ h => h) (Or.inl ⟨by rfl, ?_⟩) hS0 ?_
          rotate_left
          · (intro w_ hw_; go_simp; try with_reducible rfl)
          simp only [List.setIfInBounds_toArray, List.set_cons_zero, List.set_cons_succ]
          have hf := full_anyv bb nn u0 HBB.out.1 HBB.out.2
          refine wpH_callv (i := 12) (by kernel_rfl) rfl rfl (by rfl) (hf) (by go_simp) ?_
          rintro _ u1 ⟨g9, rfl, ho9, hb9⟩
          have hS1 : (fun v => v.cell? (p.add (k * 3)) = some (.int .i64 pg) ∧ v.cell? ⟨(p.add (k * 3)).block, (p.add (k * 3)).off + 1, none⟩ = some (.int .u8 bb)) u1 := ⟨cell_grew hS0.1 hb9, cell_grew hS0.2 hb9⟩
          clear hS0
          refine ⟨hS1, ?_⟩
          simp only [List.setIfInBounds_toArray, List.set_cons_zero, List.set_cons_succ]
          have g1 := g0.grew hb9
          clear hf g0 hb9
          refine wpH_take (i := 13) (v := ?_) rfl rfl (by kernel_rfl) (by kernel_rfl) (by kernel_rfl) (fun _ _ _ h => h) (Or.inl ⟨by rfl, ?_⟩) hS1 ?_
          rotate_left
          · (intro w_ hw_; go_simp; try with_reducible rfl)
          simp only [List.setIfInBounds_toArray, List.set_cons_zero, List.set_cons_succ]
          obtain ⟨u2, hu2⟩ : ∃ u2, u2 = u1.alloc (.cells #[.int .i64 pg, .slice (some ⟨g9, 0, none⟩) nn nn] 44) := ⟨_, rfl⟩
          have hb2 : Below u1.heap.size u1 u2 := by subst hu2; exact grow_alloc (Below.refl _ _) _
          have hS2 : (fun v => v.cell? (p.add (k * 3)) = some (.int .i64 pg) ∧ v.cell? ⟨(p.add (k * 3)).block, (p.add (k * 3)).off + 1, none⟩ = some (.int .u8 bb)) u2 := ⟨cell_grew hS1.1 hb2, cell_grew hS1.2 hb2⟩
          clear hS1
          refine wpH_run (i := 14) (v := (.slice (some ⟨u1.heap.size, 0, none⟩) 1 1)) (w' := u2) (by kernel_rfl) rfl rfl (by rfl) (by rw [hu2]; go_simp) hS2 ?_
          simp only [List.setIfInBounds_toArray, List.set_cons_zero, List.set_cons_succ]
          have hy : Byt u2 (.slice (some ⟨g9, 0, none⟩) nn nn) (List.replicate nn bb) := (Byt.of_own' ho9).grew hb2
          have hB : Blk u2 u1.heap.size #[.int .i64 pg, .slice (some ⟨g9, 0, none⟩) nn nn] 44 := by subst hu2; exact Blk.new _ _ _
          have g2 := g1.grew hb2
          obtain ⟨v', u3, hrun, g3, hbN⟩ := g2.push HK.out hB hy HEQ.out HNB.out
          have hp9 := HPB.out
          have hS3 : (fun v => v.cell? (p.add (k * 3)) = some (.int .i64 pg) ∧ v.cell? ⟨(p.add (k * 3)).block, (p.add (k * 3)).off + 1, none⟩ = some (.int .u8 bb)) u3 := ⟨(hbN.cell (by rw [add_block]; exact hp9)).trans hS2.1, (hbN.cell (p := ⟨(p.add (k * 3)).block, _, none⟩) (by rw [add_block]; exact hp9)).trans hS2.2⟩
          clear hS2
          refine wpH_run (i := 15) (v := v') (w' := u3) (by kernel_rfl) rfl rfl (by rfl) (by exact exec_append (.tmp 26) (.tmp 40) 38 38 rfl rfl rfl hrun) hS3 ?_
          simp only [List.setIfInBounds_toArray, List.set_cons_zero, List.set_cons_succ]
          clear hrun hy hB g2 g1 hb2 ho9 hu2 hbN hp9
          refine wpH_take (i := 16) (v := ?_) rfl rfl (by kernel_rfl) (by kernel_rfl) (by kernel_rfl) (fun _ _ _ h => h) (Or.inl ⟨by rfl, ?_⟩) hS3 ?_
          rotate_left
          · (intro w_ hw_; go_simp; try with_reducible rfl)
          simp only [List.setIfInBounds_toArray, List.set_cons_zero, List.set_cons_succ]
          have HG3 := Lib.hid g3
          clear g3
          clear hS3
          refine wpAnyH_done (by kernel_rfl) ?_ _

          have hbn := HNN0.out
          go_wp2
          go_round
          case rel => exact ⟨k + 1, by omega, by go_num, HG3⟩
          case measure => simp only [intOf]; omega
        · have hnn' : ln = nn := by rw [hnn, if_neg (by omega)]; omega
          have HBB : Hid (bb < 256 ∧ nn ≤ 1000000) := Lib.hid ⟨hB, by omega⟩
          subst hnn'
          clear hnn hB
          go_wp2_with fail
          refine wp_region_H (fun v => v.cell? (p.add (k * 3)) = some (.int .i64 pg) ∧ v.cell? ⟨(p.add (k * 3)).block, (p.add (k * 3)).off + 1, none⟩ = some (.int .u8 bb)) (by kernel_rfl) (fun u0 hu0 => ?_)
          have hS0 : (fun v => v.cell? (p.add (k * 3)) = some (.int .i64 pg) ∧ v.cell? ⟨(p.add (k * 3)).block, (p.add (k * 3)).off + 1, none⟩ = some (.int .u8 bb)) u0 := by subst hu0; exact ⟨HC.out.1, HC.out.2⟩
          have g0 : GrpSt w u0 N (some p) l k u5 room := by subst hu0; exact HS.out.drew
          clear hu0
          refine wpH_take (i := 0) (v := ?_) rfl rfl (by kernel_rfl) (by kernel_rfl) (by kernel_rfl) (fun _ _ _ h => h) (Or.inl ⟨by rfl, ?_⟩) hS0 ?_
          rotate_left
          · (intro w_ hw_; go_simp; try with_reducible rfl)
          simp only [List.setIfInBounds_toArray, List.set_cons_zero, List.set_cons_succ]
          refine wpH_take (i := 1) (v := ?_) rfl rfl (by kernel_rfl) (by kernel_rfl) (by kernel_rfl) (fun _ _ _ h => h) (Or.inl ⟨by rfl, ?_⟩) hS0 ?_
          rotate_left
          · (intro w_ hw_; go_simp; try with_reducible rfl)
          simp only [List.setIfInBounds_toArray, List.set_cons_zero, List.set_cons_succ]
          refine wpH_take (i := 2) (v := ?_) rfl rfl (by kernel_rfl) (by kernel_rfl) (by kernel_rfl) (fun _ _ _ h => h) (Or.inl ⟨by rfl, ?_⟩) hS0 ?_
          rotate_left
          · (intro w_ hw_; go_simp; try with_reducible rfl)
          simp only [List.setIfInBounds_toArray, List.set_cons_zero, List.set_cons_succ]
          refine wpH_take (i := 3) (v := ?_) rfl rfl (by kernel_rfl) (by kernel_rfl) (by kernel_rfl) (fun _ _ _ h => h) (Or.inl ⟨by rfl, ?_⟩) hS0 ?_
          rotate_left
          · (intro w_ hw_; go_simp; try with_reducible rfl)
          simp only [List.setIfInBounds_toArray, List.set_cons_zero, List.set_cons_succ]
          refine wpH_take (i := 4) (v := ?_) rfl rfl (by kernel_rfl) (by kernel_rfl) (by kernel_rfl) (fun _ _ _ h => h) (Or.inl ⟨by rfl, ?_⟩) hS0 ?_
          rotate_left
          · (intro w_ hw_; go_simp; try with_reducible rfl)
          simp only [List.setIfInBounds_toArray, List.set_cons_zero, List.set_cons_succ]
          refine wpH_take (i := 5) (v := ?_) rfl rfl (by kernel_rfl) (by kernel_rfl) (by kernel_rfl) (fun _ _ _ h => h) (Or.inl ⟨by rfl, ?_⟩) hS0 ?_
          rotate_left
          · (intro w_ hw_; (have q1 := hw_.1; have q2 := hw_.2; clear hw_); go_simp; try with_reducible rfl)
          simp only [List.setIfInBounds_toArray, List.set_cons_zero, List.set_cons_succ]
          refine wpH_take (i := 6) (v := ?_) rfl rfl (by kernel_rfl) (by kernel_rfl) (by kernel_rfl) (fun _ _ _ h => h) (Or.inl ⟨by rfl, ?_⟩) hS0 ?_
          rotate_left
          · (intro w_ hw_; go_simp; try with_reducible rfl)
          simp only [List.setIfInBounds_toArray, List.set_cons_zero, List.set_cons_succ]
          refine wpH_take (i := 7) (v := ?_) rfl rfl (by kernel_rfl) (by kernel_rfl) (by kernel_rfl) (fun _ _ _ h => h) (Or.inl ⟨by rfl, ?_⟩) hS0 ?_
          rotate_left
          · (intro w_ hw_; go_simp; try with_reducible rfl)
          simp only [List.setIfInBounds_toArray, List.set_cons_zero, List.set_cons_succ]
          refine wpH_take (i := 8) (v := ?_) rfl rfl (by kernel_rfl) (by kernel_rfl) (by kernel_rfl) (fun _ _ _ h => h) (Or.inl ⟨by rfl, ?_⟩) hS0 ?_
          rotate_left
          · (intro w_ hw_; go_simp; try with_reducible rfl)
          simp only [List.setIfInBounds_toArray, List.set_cons_zero, List.set_cons_succ]
          refine wpH_take (i := 9) (v := ?_) rfl rfl (by kernel_rfl) (by kernel_rfl) (by kernel_rfl) (fun _ _ _ h => h) (Or.inl ⟨by rfl, ?_⟩) hS0 ?_
          rotate_left
          · (intro w_ hw_; go_simp; try with_reducible rfl)
          simp only [List.setIfInBounds_toArray, List.set_cons_zero, List.set_cons_succ]
          refine wpH_take (i := 10) (v := ?_) rfl rfl (by kernel_rfl) (by kernel_rfl) (by kernel_rfl) (fun _ _ _ h => h) (Or.inl ⟨by rfl, ?_⟩) hS0 ?_
          rotate_left
          · (intro w_ hw_; (have q1 := hw_.1; have q2 := hw_.2; clear hw_); go_simp; try with_reducible rfl)
          simp only [List.setIfInBounds_toArray, List.set_cons_zero, List.set_cons_succ]
          refine wpH_take (i := 11) (v := ?_) rfl rfl (by kernel_rfl) (by kernel_rfl) (by kernel_rfl) (fun _ _ _ h => h) (Or.inl ⟨by rfl, ?_⟩) hS0 ?_
          rotate_left
          · (intro w_ hw_; go_simp; try with_reducible rfl)
          simp only [List.setIfInBounds_toArray, List.set_cons_zero, List.set_cons_succ]
          have hf := full_anyv bb nn u0 HBB.out.1 HBB.out.2
          refine wpH_callv (i := 12) (by kernel_rfl) rfl rfl (by rfl) (hf) (by go_simp) ?_
          rintro _ u1 ⟨g9, rfl, ho9, hb9⟩
          have hS1 : (fun v => v.cell? (p.add (k * 3)) = some (.int .i64 pg) ∧ v.cell? ⟨(p.add (k * 3)).block, (p.add (k * 3)).off + 1, none⟩ = some (.int .u8 bb)) u1 := ⟨cell_grew hS0.1 hb9, cell_grew hS0.2 hb9⟩
          clear hS0
          refine ⟨hS1, ?_⟩
          simp only [List.setIfInBounds_toArray, List.set_cons_zero, List.set_cons_succ]
          have g1 := g0.grew hb9
          clear hf g0 hb9
          refine wpH_take (i := 13) (v := ?_) rfl rfl (by kernel_rfl) (by kernel_rfl) (by kernel_rfl) (fun _ _ _ h => h) (Or.inl ⟨by rfl, ?_⟩) hS1 ?_
          rotate_left
          · (intro w_ hw_; go_simp; try with_reducible rfl)
          simp only [List.setIfInBounds_toArray, List.set_cons_zero, List.set_cons_succ]
          obtain ⟨u2, hu2⟩ : ∃ u2, u2 = u1.alloc (.cells #[.int .i64 pg, .slice (some ⟨g9, 0, none⟩) nn nn] 44) := ⟨_, rfl⟩
          have hb2 : Below u1.heap.size u1 u2 := by subst hu2; exact grow_alloc (Below.refl _ _) _
          have hS2 : (fun v => v.cell? (p.add (k * 3)) = some (.int .i64 pg) ∧ v.cell? ⟨(p.add (k * 3)).block, (p.add (k * 3)).off + 1, none⟩ = some (.int .u8 bb)) u2 := ⟨cell_grew hS1.1 hb2, cell_grew hS1.2 hb2⟩
          clear hS1
          refine wpH_run (i := 14) (v := (.slice (some ⟨u1.heap.size, 0, none⟩) 1 1)) (w' := u2) (by kernel_rfl) rfl rfl (by rfl) (by rw [hu2]; go_simp) hS2 ?_
          simp only [List.setIfInBounds_toArray, List.set_cons_zero, List.set_cons_succ]
          have hy : Byt u2 (.slice (some ⟨g9, 0, none⟩) nn nn) (List.replicate nn bb) := (Byt.of_own' ho9).grew hb2
          have hB : Blk u2 u1.heap.size #[.int .i64 pg, .slice (some ⟨g9, 0, none⟩) nn nn] 44 := by subst hu2; exact Blk.new _ _ _
          have g2 := g1.grew hb2
          obtain ⟨v', u3, hrun, g3, hbN⟩ := g2.push HK.out hB hy HEQ.out HNB.out
          have hp9 := HPB.out
          have hS3 : (fun v => v.cell? (p.add (k * 3)) = some (.int .i64 pg) ∧ v.cell? ⟨(p.add (k * 3)).block, (p.add (k * 3)).off + 1, none⟩ = some (.int .u8 bb)) u3 := ⟨(hbN.cell (by rw [add_block]; exact hp9)).trans hS2.1, (hbN.cell (p := ⟨(p.add (k * 3)).block, _, none⟩) (by rw [add_block]; exact hp9)).trans hS2.2⟩
          clear hS2
          refine wpH_run (i := 15) (v := v') (w' := u3) (by kernel_rfl) rfl rfl (by rfl) (by exact exec_append (.tmp 26) (.tmp 40) 38 38 rfl rfl rfl hrun) hS3 ?_
          simp only [List.setIfInBounds_toArray, List.set_cons_zero, List.set_cons_succ]
          clear hrun hy hB g2 g1 hb2 ho9 hu2 hbN hp9
          refine wpH_take (i := 16) (v := ?_) rfl rfl (by kernel_rfl) (by kernel_rfl) (by kernel_rfl) (fun _ _ _ h => h) (Or.inl ⟨by rfl, ?_⟩) hS3 ?_
          rotate_left
          · (intro w_ hw_; go_simp; try with_reducible rfl)
          simp only [List.setIfInBounds_toArray, List.set_cons_zero, List.set_cons_succ]
          have HG3 := Lib.hid g3
          clear g3
          clear hS3
          refine wpAnyH_done (by kernel_rfl) ?_ _

          have hbn := HNN0.out
          go_wp2
          go_round
          case rel => exact ⟨k + 1, by omega, by go_num, HG3⟩
          case measure => simp only [intOf]; omega
    · obtain rfl : k = n := by omega
      have hlt' : ¬ (k : Int) < k := by omega
      have HE : Hid ((l.take k).map (chOfPut room) = l.map (chOfPut room)) := Lib.hid (by rw [List.take_of_length_le (by have := HN.out; omega)])
      go_wp2
      go_ret
      exact ⟨_, rfl, by rw [← HE.out]; exact HS.out.row, HS.out.own, HS.out.low⟩
end Go.Proofs.Ytpomfokpmbblkaa
