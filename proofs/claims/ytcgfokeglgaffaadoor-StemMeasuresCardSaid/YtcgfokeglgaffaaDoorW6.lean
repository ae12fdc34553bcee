/- Walks: rules. Printed by mk_w6.py. -/
import Derived.Test.YtcgfokeglgaffaaDoorW5
namespace Go.Proofs.YtcgfokeglgaffaaDoor
open Go.RowKit

def rrow (x : Rule) : List Value := [.string (S x.1), .string (S x.2)]
def rcells (l : List Rule) : List Value := l.flatMap rrow
theorem rcells_len (l : List Rule) : (rcells l).length = l.length * 2 := by
  induction l with
  | nil => rfl
  | cons a l ih => simp [rcells, rrow] at *; omega
theorem rcells_get : ∀ {l : List Rule} {k : Nat} (h : k < l.length), (rcells l)[k * 2]? = some (.string (S l[k].1)) ∧ (rcells l)[k * 2 + 1]? = some (.string (S l[k].2))
  | a :: l, 0, _ => ⟨rfl, rfl⟩
  | a :: l, k + 1, h => by
    have := rcells_get (l := l) (k := k) (by simpa using h)
    have e : (k + 1) * 2 = k * 2 + 1 + 1 := by omega
    rw [show rcells (a :: l) = .string (S a.1) :: .string (S a.2) :: rcells l from rfl, e]
    simpa using this
/-- The slice v is a row of the call's own and holds these rules. -/
def OwnR (w : World) (base : Nat) (v : Value) (l : List Rule) : Prop := w.ownsRow base 40 2 v l.length (rcells l)
theorem info40 : (Tryd.prog.info? 40).map (fun i => (i.zero, i.size, i.bytes)) = some (some (.agg #[.string ⟨#[]⟩, .string ⟨#[]⟩]), 2, 32) := by kernel_rfl
section
variable {w w' : World} {base : Nat} {v : Value} {l : List Rule}
theorem OwnR.nil (w : World) (base : Nat) : OwnR w base (.slice none 0 0) [] := World.ownsRow_nil w base 40 2
theorem OwnR.below (h : OwnR w base v l) (hb : Below w.heap.size w w') : OwnR w' base v l := by
  refine World.ownsRow.kept h (row := none) ⟨hb.os, hb.tape, hb.output, hb.size, fun k hk _ => hb.block k hk⟩ ?_
  cases v.ownBlock <;> simp
/-- Rules that can be read. -/
def RsAt (w : World) (A : Option Addr) (l : List Rule) : Prop := l ≠ [] → ∃ g, A = some ⟨g, 0, none⟩ ∧ g < w.heap.size ∧ ∀ k (hk : k < l.length), w.cell? ⟨g, k * 2, none⟩ = some (.string (S l[k].1)) ∧ w.cell? ⟨g, k * 2 + 1, none⟩ = some (.string (S l[k].2))
theorem OwnR.form (h : OwnR w base v l) : ∃ A c, v = .slice A l.length c ∧ RsAt w A l := by
  rcases h.2 with ⟨rfl, h0⟩ | ⟨g, cap, cur, rfl, hb, hg, hc⟩
  · exact ⟨none, 0, by rw [h0], fun hn => absurd (List.eq_nil_of_length_eq_zero h0) hn⟩
  · refine ⟨_, _, rfl, fun _ => ⟨g, rfl, lt_of_block hg, fun k hk => ?_⟩⟩
    have hk2 := rcells_get hk
    have e : ∀ j, (⟨g, 0, none⟩ : Addr).add j = ⟨g, j, none⟩ := fun j => by unfold Addr.add; split <;> simp_all
    have h1 := World.ownsRow.cells h (g := g) rfl (k * 2) _ hk2.1
    have h2 := World.ownsRow.cells h (g := g) rfl (k * 2 + 1) _ hk2.2
    rw [e] at h1 h2
    exact ⟨h1, h2⟩
theorem RsAt.grew {A : Option Addr} (h : RsAt w A l) (hb : Below w.heap.size w w') : RsAt w' A l := fun hn => by
  obtain ⟨g, e, hg, hc⟩ := h hn
  exact ⟨g, e, Nat.lt_of_lt_of_le hg hb.size, fun k hk => ⟨cell_grew (hc k hk).1 hb, cell_grew (hc k hk).2 hb⟩⟩
theorem RsAt.get {A : Option Addr} (h : RsAt w A l) {k : Nat} (hk : k < l.length) : ∃ g, A = some ⟨g, 0, none⟩ ∧ g < w.heap.size ∧ w.cell? ⟨g, k * 2, none⟩ = some (.string (S l[k].1)) ∧ w.cell? ⟨g, k * 2 + 1, none⟩ = some (.string (S l[k].2)) := by
  obtain ⟨g, e, hg, hc⟩ := h (by intro e; rw [e] at hk; simp at hk)
  exact ⟨g, e, hg, hc k hk⟩
end
theorem run_pushR {w : World} {base R : Nat} {v : Value} {l : List Rule} (h : OwnR w base v l) (a b : W) (hb : Blk w R #[.string (S a), .string (S b)] 40) (hbase : base ≤ w.heap.size) (hn : l.length + 1 ≤ 1000000) :
    ∃ v' w', (Builtin.append_ #[32, 32] 32 #[v, .slice (some ⟨R, 0, none⟩) 1 1]).run Tryd.prog w = .ok v' w' ∧ OwnR w' base v' (l ++ [(a, b)]) ∧ w.grownBy w' v.ownBlock := by
  obtain ⟨i, hi, hz, hs, hby⟩ := info_parts info40
  obtain ⟨v', w', hrun, h2, h3, _, _⟩ := run_append_own_at (P := Tryd.prog) _ base 32 32 40 i _ 2 32 Tryd.underlying32 hi hz hs hby rfl (by omega) v l.length (rcells l) h ⟨R, 0, none⟩ 1 1 (rcells [(a, b)]) (rcells_len _)
    (fun j u hu => by
      match j with
      | 0 => simp [rcells, rrow] at hu; rw [← hu]; exact hb.cell 0
      | 1 => simp [rcells, rrow] at hu; rw [← hu]; exact hb.cell 1
      | j + 2 => simp [rcells, rrow] at hu) (fun u hu => by simp [rcells, rrow] at hu; rcases hu with rfl | rfl <;> rfl) (by simp only [maxLen]; omega) (by omega) hbase
  refine ⟨v', w', hrun, ?_, h3⟩
  unfold OwnR
  rw [List.length_append, show rcells (l ++ [(a, b)]) = rcells l ++ rcells [(a, b)] from by simp [rcells]]; exact h2

/-- What stands while rules are made: the words (block B0), the row. -/
structure RSt (w : World) (B0 : Nat) (lf : List W) (vo : Value) (l : List Rule) (v : World) : Prop where
  ws : Blk v B0 (lf.map fun l => Value.string ⟨l.toArray⟩).toArray 9
  row : OwnR v w.heap.size vo l
  bel : Below w.heap.size w v
section
variable {w v v' : World} {B0 : Nat} {lf : List W} {vo vo' : Value} {l l' : List Rule}
theorem RSt.le (h : RSt w B0 lf vo l v) : w.heap.size ≤ v.heap.size := h.bel.size
theorem RSt.grew (h : RSt w B0 lf vo l v) (hb : Below v.heap.size v v') : RSt w B0 lf vo l v' := ⟨h.ws.grew hb, h.row.below hb, grow h.bel hb⟩
theorem RSt.drew (h : RSt w B0 lf vo l v) : RSt w B0 lf vo l v.drew := h.grew (Below.drew (Below.refl _ v))
theorem RSt.cell (h : RSt w B0 lf vo l v) (k : Nat) (hk : k < lf.length) : v.cell? ⟨B0, k, none⟩ = some (.string (S lf[k])) := by
  rw [h.ws.cell k]
  simp [List.getElem?_eq_getElem hk]
  rfl
theorem RSt.app (h : RSt w B0 lf vo l v) (hg : v.grownBy v' vo.ownBlock) (ho : OwnR v' w.heap.size vo' l') : RSt w B0 lf vo' l' v' := by
  refine ⟨?_, ho, h.bel.grown hg h.le (fun k hk => (World.ownsRow.lt h.row k hk).1)⟩
  refine (hg.block B0 h.ws.lt ?_).trans h.ws
  intro e
  rcases h.row.2 with ⟨hv, _⟩ | ⟨g, cap, cur, hv, _, hgg, _⟩
  · rw [hv] at e; simp [Value.ownBlock] at e
  · rw [hv] at e
    simp only [Value.ownBlock, Option.some.injEq] at e
    subst e
    have hw := h.ws
    unfold Blk at hw
    rw [hgg] at hw
    cases hw
end
theorem pairUp_two (a b : W) (r : List W) : pairUp (a :: b :: r) = (a, Lib.trimB b 45) :: pairUp r := rfl
theorem pairUp_drop (lf : List W) (i : Nat) (h : i + 1 < lf.length) : pairUp (lf.drop i) = (lf[i], Lib.trimB lf[i + 1] 45) :: pairUp (lf.drop (i + 2)) := by
  rw [List.drop_eq_getElem_cons (by omega), List.drop_eq_getElem_cons h]; rfl
theorem pairUp_end (lf : List W) (i : Nat) (h : ¬ i + 1 < lf.length) : pairUp (lf.drop i) = [] := by
  by_cases h2 : i < lf.length
  · rw [List.drop_eq_getElem_cons h2, List.drop_eq_nil_of_le (by omega)]; rfl
  · rw [List.drop_eq_nil_of_le (by omega)]; rfl
theorem pairUp_len : ∀ (n : Nat) (l : List W), l.length ≤ n → (pairUp l).length ≤ l.length
  | _, [], _ => by simp [pairUp]
  | _, [_], _ => by simp [pairUp]
  | 0, _ :: _ :: _, h => by simp at h
  | n + 1, a :: b :: r, h => by
    have := pairUp_len n r (by simp at h; omega)
    simp [pairUp]; omega

set_option maxHeartbeats 4000000 in
theorem rules_any (p : W) (hp : ∀ b ∈ p, b.toNat < 128) (hpl : (p.length : Int) ≤ 100000) (hfl : ∀ f ∈ Lib.fields p, (f.length : Int) ≤ 100000) (hfn : ((Lib.fields p).length : Int) ≤ 100000) (w : World) (ht : Tab w) :
    Calls Tryd.prog 17 #[.string (S p)] w fun e w' => ∃ v, e = .returned v ∧ OwnR w' w.heap.size v (rulesL p) ∧ Below w.heap.size w w' := by
  have hf := Fields_any (S p) w (by rw [S_size]; omega) (fun j b hj => hp b (List.mem_of_getElem? hj)) ht
  rw [S_data] at hf
  obtain ⟨R, hR⟩ : ∃ R, R = rulesL p := ⟨_, rfl⟩
  rw [← hR]
  unfold rulesL at hR
  generalize Lib.fields p = lf at *
  obtain ⟨n, hn⟩ : ∃ n, n = lf.length := ⟨_, rfl⟩
  rw [← hn] at hf hfn
  have h0 : Hid (RSt w w.heap.size lf (.slice none 0 0) [] (w.alloc (.cells (lf.map fun l => Value.string ⟨l.toArray⟩).toArray 9))) := Lib.hid ⟨Blk.new _ _ _, OwnR.nil _ _, (Below.refl _ _).alloc (Nat.le_refl _) _⟩
  generalize w.alloc (.cells (lf.map fun l => Value.string ⟨l.toArray⟩).toArray 9) = w1 at *
  have HF := Lib.hid hf
  have HN := Lib.hid hn
  have HFL := Lib.hid hfl
  have HR := Lib.hid (show [] ++ pairUp (lf.drop 0) = R from hR.symm)
  have HRL : Hid (R.length ≤ n) := Lib.hid (by rw [hR, hn]; exact pairUp_len _ _ (Nat.le_refl _))
  obtain ⟨B0, hB0⟩ : ∃ B0, B0 = w.heap.size := ⟨_, rfl⟩
  have H0 : Hid (RSt w B0 lf (.slice none 0 0) [] w1) := by rw [hB0]; exact h0
  rw [← hB0] at HF
  have HB := Lib.hid hB0
  clear hf hn hR hp hpl hfl ht h0 hB0
  go_enter Tryd.func17, Tryd.ntmps17
  go_wp2_with fail
  refine HF.out.mono ?_
  rintro e w2 ⟨rfl, hw2⟩
  obtain rfl := hw2
  go_wp2
  go_loopw [3, 5] (fun vo iv wr => ∃ (i : Nat) (l : List Rule), i ≤ n ∧ iv = .int .i64 i ∧ Hid (RSt w B0 lf vo l wr ∧ l ++ pairUp (lf.drop i) = R)) (fun _ iv _ => n - (intOf iv).toNat)
  case atStart => exact ⟨0, [], by omega, rfl, Lib.hid ⟨H0.out, HR.out⟩⟩
  case round =>
    clear HR H0
    obtain ⟨i, l, hi, rfl, HX0⟩ := hrel
    have HX := Lib.hid HX0.out.1
    have HE := Lib.hid HX0.out.2
    clear HX0
    by_cases hlt : i + 1 < n
    · have hk1 : i < lf.length := by have := HN.out; omega
      have hk2 : i + 1 < lf.length := by have := HN.out; omega
      have hE := HE.out
      rw [pairUp_drop lf i hk2] at hE
      have hll : l.length + 1 ≤ 1000000 := by
        have h1 := congrArg List.length hE
        have h2 := HRL.out
        simp at h1
        omega
      obtain ⟨x, hx⟩ : ∃ x, x = lf[i] := ⟨_, rfl⟩
      obtain ⟨y, hy0⟩ : ∃ y, y = lf[i + 1] := ⟨_, rfl⟩
      have hc1 : ∀ v, RSt w B0 lf u3 l v → v.cell? ⟨B0, i, none⟩ = some (.string (S x)) := fun v h => by rw [hx]; exact h.cell i hk1
      have hc2 : ∀ v, RSt w B0 lf u3 l v → v.cell? ⟨B0, i + 1, none⟩ = some (.string (S y)) := fun v h => by rw [hy0]; exact h.cell (i + 1) hk2
      have HC1 := Lib.hid hc1
      have HC2 := Lib.hid hc2
      have hy : (y.length : Int) ≤ 1000000 := by have := HFL.out y (by rw [hy0]; exact List.getElem_mem hk2); omega
      rw [← hx, ← hy0] at hE
      have HE2 : Hid ((l ++ [(x, Lib.trimB y 45)]) ++ pairUp (lf.drop (i + 2)) = R) := Lib.hid (by rw [List.append_assoc]; exact hE)
      have hlt1 : (i : Int) + 1 < n := by omega
      have hin : (i : Int) < n := by omega
      have w1 : IntKind.i64.wrap ((i : Int) + 1) = (i : Int) + 1 := by rw [IntKind.wrap_i64]; omega
      have w2 : 0 ≤ (i : Int) + 1 := by omega
      have w3 : ((i : Int) + 1).toNat = i + 1 := by omega
      clear hE HE hx hy0 hk1 hk2 hc1 hc2
      go_wp2_with fail
      have hst : Stands (fun v => RSt w B0 lf u3 l v) := fun _ _ hb h => h.grew hb
      refine wp_region_X (S := fun v => RSt w B0 lf u3 l v) (by kernel_rfl) (HX.out.drew) ?_
      refine wpX_take (i := 0) (v := ?_) hst rfl rfl (by kernel_rfl) (by kernel_rfl) (by kernel_rfl) (by kernel_rfl) (fun _ _ _ h => h) (SteadyX.value (by rfl) ?_) ?_
      rotate_left
      · (intro w_ hS; go_simp; try with_reducible rfl)
      simp only [List.setIfInBounds_toArray, List.set_cons_zero, List.set_cons_succ]
      refine wpX_take (i := 1) (v := ?_) hst rfl rfl (by kernel_rfl) (by kernel_rfl) (by kernel_rfl) (by kernel_rfl) (fun _ _ _ h => h) (SteadyX.value (by rfl) ?_) ?_
      rotate_left
      · (intro w_ hS; go_simp; try with_reducible rfl)
      simp only [List.setIfInBounds_toArray, List.set_cons_zero, List.set_cons_succ]
      refine wpX_take (i := 2) (v := ?_) hst rfl rfl (by kernel_rfl) (by kernel_rfl) (by kernel_rfl) (by kernel_rfl) (fun _ _ _ h => h) (SteadyX.value (by rfl) ?_) ?_
      rotate_left
      · (intro w_ hS; go_simp; try with_reducible rfl)
      simp only [List.setIfInBounds_toArray, List.set_cons_zero, List.set_cons_succ]
      refine wpX_take (i := 3) (v := ?_) hst rfl rfl (by kernel_rfl) (by kernel_rfl) (by kernel_rfl) (by kernel_rfl) (fun _ _ _ h => h) (SteadyX.value (by rfl) ?_) ?_
      rotate_left
      · (intro w_ hS; go_simp; try with_reducible rfl)
      simp only [List.setIfInBounds_toArray, List.set_cons_zero, List.set_cons_succ]
      refine wpX_take (i := 4) (v := ?_) hst rfl rfl (by kernel_rfl) (by kernel_rfl) (by kernel_rfl) (by kernel_rfl) (fun _ _ _ h => h) (SteadyX.value (by rfl) ?_) ?_
      rotate_left
      · (intro w_ hS; have q := (HC1.out _ hS); go_simp; try with_reducible rfl)
      simp only [List.setIfInBounds_toArray, List.set_cons_zero, List.set_cons_succ]
      refine wpX_take (i := 5) (v := ?_) hst rfl rfl (by kernel_rfl) (by kernel_rfl) (by kernel_rfl) (by kernel_rfl) (fun _ _ _ h => h) (SteadyX.value (by rfl) ?_) ?_
      rotate_left
      · (intro w_ hS; go_simp; try with_reducible rfl)
      simp only [List.setIfInBounds_toArray, List.set_cons_zero, List.set_cons_succ]
      refine wpX_take (i := 6) (v := ?_) hst rfl rfl (by kernel_rfl) (by kernel_rfl) (by kernel_rfl) (by kernel_rfl) (fun _ _ _ h => h) (SteadyX.value (by rfl) ?_) ?_
      rotate_left
      · (intro w_ hS; go_simp; try with_reducible rfl)
      simp only [List.setIfInBounds_toArray, List.set_cons_zero, List.set_cons_succ]
      refine wpX_take (i := 7) (v := ?_) hst rfl rfl (by kernel_rfl) (by kernel_rfl) (by kernel_rfl) (by kernel_rfl) (fun _ _ _ h => h) (SteadyX.value (by rfl) ?_) ?_
      rotate_left
      · (intro w_ hS; go_simp; try with_reducible rfl)
      simp only [List.setIfInBounds_toArray, List.set_cons_zero, List.set_cons_succ]
      refine wpX_take (i := 8) (v := ?_) hst rfl rfl (by kernel_rfl) (by kernel_rfl) (by kernel_rfl) (by kernel_rfl) (fun _ _ _ h => h) (SteadyX.value (by rfl) ?_) ?_
      rotate_left
      · (intro w_ hS; go_simp; try with_reducible rfl)
      simp only [List.setIfInBounds_toArray, List.set_cons_zero, List.set_cons_succ]
      refine wpX_take (i := 9) (v := ?_) hst rfl rfl (by kernel_rfl) (by kernel_rfl) (by kernel_rfl) (by kernel_rfl) (fun _ _ _ h => h) (SteadyX.value (by rfl) ?_) ?_
      rotate_left
      · (intro w_ hS; have q := (HC2.out _ hS); go_simp; try with_reducible rfl)
      simp only [List.setIfInBounds_toArray, List.set_cons_zero, List.set_cons_succ]
      refine wpX_take (i := 10) hst rfl rfl (by kernel_rfl) (by kernel_rfl) (by kernel_rfl) (by kernel_rfl) (fun _ _ _ h => h) (SteadyX.call (by rfl) (fun w_ _ => Trim_any y hy w_) (fun w_ hS => by (go_simp))) ?_
      simp only [List.setIfInBounds_toArray, List.set_cons_zero, List.set_cons_succ]
      refine wpX_take (i := 11) (v := ?_) hst rfl rfl (by kernel_rfl) (by kernel_rfl) (by kernel_rfl) (by kernel_rfl) (fun _ _ _ h => h) (SteadyX.value (by rfl) ?_) ?_
      rotate_left
      · (intro w_ hS; go_simp; try with_reducible rfl)
      simp only [List.setIfInBounds_toArray, List.set_cons_zero, List.set_cons_succ]
      refine wpX_one (i := 12) (by kernel_rfl) (fun w_ hS => ?_)
      have hst2 : Stands (fun v => RSt w B0 lf u3 l v ∧ Blk v w_.heap.size #[.string (S x), .string (S (Lib.trimB y 45))] 40) := fun _ _ hb h => ⟨h.1.grew hb, h.2.grew hb⟩
      refine wpX_run (i := 12) (v := .slice (some ⟨w_.heap.size, 0, none⟩) 1 1) (w' := w_.alloc (.cells #[.string (S x), .string (S (Lib.trimB y 45))] 40)) _ rfl rfl (by rfl) (by go_simp) hst2 (.inr fun _ h => h.1) ⟨RSt.grew hS ((Below.refl _ w_).alloc (Nat.le_refl _) _), Blk.new _ _ _⟩ ?_
      clear hst hS
      obtain ⟨R9, hR9⟩ : ∃ R9, R9 = w_.heap.size := ⟨_, rfl⟩
      rw [← hR9] at hst2 ⊢
      clear hR9 w_
      simp only [List.setIfInBounds_toArray, List.set_cons_zero, List.set_cons_succ]
      refine wpX_one (i := 13) (by kernel_rfl) (fun w_ hS => ?_)
      obtain ⟨v5, w5, hrun, hown, hgr⟩ := run_pushR hS.1.row x (Lib.trimB y 45) hS.2 hS.1.le (by omega)
      have hst3 : Stands (fun v => RSt w B0 lf v5 (l ++ [(x, Lib.trimB y 45)]) v) := fun _ _ hb h => h.grew hb
      refine wpX_run (i := 13) (v := v5) (w' := w5) _ rfl rfl (by rfl) (exec_append (.tmp 15) (.tmp 27) 32 32 rfl rfl rfl hrun) hst3 (.inl (by kernel_rfl)) (hS.1.app hgr hown) ?_
      clear hst2 hS hrun hown hgr
      clear w5 w_
      simp only [List.setIfInBounds_toArray, List.set_cons_zero, List.set_cons_succ]
      refine wpX_take (i := 14) (v := v5) hst3 rfl rfl (by kernel_rfl) (by kernel_rfl) (by kernel_rfl) (by kernel_rfl) (fun _ _ _ h => h) (SteadyX.value (by rfl) (fun w_ hS => by go_simp; try with_reducible rfl)) ?_
      simp only [List.setIfInBounds_toArray, List.set_cons_zero, List.set_cons_succ]
      refine wpX_done (by kernel_rfl) (fun w6 hS => ?_) _
      have HS6 := Lib.hid hS
      clear hS hst3
      clear w1 w2 w3
      go_wp2
      go_roundw
      case rel => exact ⟨i + 2, _, by omega, by go_num, Lib.hid ⟨HS6.out, HE2.out⟩⟩
      case measure => simp [intOf]; omega
    · have hlt1 : ¬ (i : Int) + 1 < n := by omega
      have hr : l = R := by
        have := HE.out
        rw [pairUp_end lf i (by have := HN.out; omega)] at this
        simpa using this
      subst hr
      clear HE
      go_wp2
      go_ret
      exact ⟨_, rfl, HX.out.row, HX.out.bel⟩
end Go.Proofs.YtcgfokeglgaffaaDoor
