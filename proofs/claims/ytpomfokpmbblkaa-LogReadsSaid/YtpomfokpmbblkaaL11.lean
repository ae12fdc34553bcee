/- A row of groups in memory; what a log's slots hold in an epoch. -/
import Derived.Test.YtpomfokpmbblkaaL10
namespace Go.Proofs.Ytpomfokpmbblkaa
open Go.RowKit Go.Maps
set_option maxRecDepth 8000

/-- The slice v is a row of these groups, whose rows lie below block B. -/
def Grps (w : World) (v : Value) (gs : List (List (Int × List Nat))) (B : Nat) : Prop :=
  ∃ vs : List Value, vs.length = gs.length ∧ w.ownsRow 0 38 1 v gs.length vs ∧ ∀ k (h : k < gs.length), ∃ u, vs[k]? = some u ∧ u.oneCell' = true ∧ Chg w u gs[k] ∧ ∀ j, u.ownBlock = some j → j < B
section
variable {T : List Nat} {w w' : World} {v : Value} {gs : List (List (Int × List Nat))} {B : Nat}
theorem Grps.nil (w : World) (B : Nat) : Grps w nilv [] B := ⟨[], rfl, World.ownsRow_nil _ _ _ _, fun k h => absurd h (by simp)⟩
theorem Grps.kind (h : Grps w v gs B) {g : Nat} (hg : v.ownBlock = some g) : ∃ cs, w.heap[g]? = some (.cells cs 38 (0, 0)) := by
  obtain ⟨vs, _, ho, _⟩ := h
  rcases ho.2 with ⟨rfl, _⟩ | ⟨g', cap, cur, rfl, _, hh, _⟩
  · simp [Value.ownBlock] at hg
  · simp [Value.ownBlock] at hg; subst hg; exact ⟨_, hh⟩
theorem Grps.turn (h : Grps w v gs B) (k : Turn T w w') (hn : NoBytes w T) (hr : ∀ k ∈ T, (∀ cs fz, w.heap[k]? ≠ some (.cells cs 44 fz)) ∨ B ≤ k) (hg : ∀ g, v.ownBlock = some g → g ∉ T) : Grps w' v gs B := by
  obtain ⟨vs, h1, ho, h2⟩ := h
  refine ⟨vs, h1, ?_, fun j hj => ?_⟩
  · refine ⟨ho.1, ?_⟩
    rcases ho.2 with h | ⟨g, cap, cur, rfl, hb, hh, r⟩
    · exact .inl h
    · exact .inr ⟨g, cap, cur, rfl, hb, (k.block g (lt_of_block hh) (hg g rfl)).trans hh, r⟩
  · obtain ⟨u, e, e1, hb, hB⟩ := h2 j hj
    refine ⟨u, e, e1, hb.turn k hn (fun g hg hm => ?_), hB⟩
    obtain ⟨cs, hx⟩ := hb.kind hg
    rcases hr g hm with h | h
    · exact h _ _ hx
    · have := hB g hg; omega
theorem Grps.grew (h : Grps w v gs B) (k : Below w.heap.size w w') : Grps w' v gs B := h.turn (Turn.of_below k []) (by intro _ h; simp at h) (by intro _ h; simp at h) (by simp)
/-- .. and the group begun has a row of its own. -/
def Gap (w : World) (v : Value) (gs : List (List (Int × List Nat))) (gv : Value) : Prop := ∃ B, B ≤ w.heap.size ∧ Grps w v gs B ∧ ∀ j, gv.ownBlock = some j → B ≤ j
variable {gv : Value}
theorem Gap.nil (w : World) : Gap w nilv [] nilv := ⟨0, Nat.zero_le _, Grps.nil _ _, by simp⟩
theorem Gap.kind (h : Gap w v gs gv) {g : Nat} (hg : v.ownBlock = some g) : ∃ cs, w.heap[g]? = some (.cells cs 38 (0, 0)) := by
  obtain ⟨B, _, h, _⟩ := h; exact h.kind hg
theorem Gap.turn (h : Gap w v gs gv) (k : Turn T w w') (hn : NoBytes w T) (hr : ∀ k ∈ T, ∀ cs fz, w.heap[k]? ≠ some (.cells cs 44 fz)) (hg : ∀ g, v.ownBlock = some g → g ∉ T) : Gap w' v gs gv := by
  obtain ⟨B, h0, h1, h2⟩ := h
  exact ⟨B, Nat.le_trans h0 k.size, h1.turn k hn (fun k hk => .inl (hr k hk)) hg, h2⟩
theorem Gap.turnG (h : Gap w v gs gv) (k : Turn gv.ownBlock.toList w w') (hn : NoBytes w gv.ownBlock.toList) (hg : ∀ g, v.ownBlock = some g → gv.ownBlock ≠ some g) {gv' : Value} (hg' : ∀ j, gv'.ownBlock = some j → gv.ownBlock = some j ∨ w.heap.size ≤ j) : Gap w' v gs gv' := by
  obtain ⟨B, h0, h1, h2⟩ := h
  refine ⟨B, Nat.le_trans h0 k.size, h1.turn k hn (fun j hj => .inr (h2 j (by simpa using hj))) (fun g e hm => hg g e (by simpa using hm)), fun j hj => ?_⟩
  rcases hg' j hj with h | h
  · exact h2 j h
  · omega
theorem Gap.grew (h : Gap w v gs gv) (k : Below w.heap.size w w') : Gap w' v gs gv := h.turn (Turn.of_below k []) (by intro _ h; simp at h) (by intro _ h; simp at h) (by simp)
end
theorem grp_row : (Try.prog.info? 38).map (fun i => (i.zero, i.size, i.bytes)) = some (some (.slice none 0 0), 1, 24) := by kernel_rfl
theorem Chg.slice {w : World} {v : Value} {l : List (Int × List Nat)} (h : Chg w v l) : ∃ A c, v = .slice A l.length c := by
  obtain ⟨A, c, e, _⟩ := h.form
  exact ⟨A, c, e⟩

/-- 'append(out, group)', the group's slice in a block of its own. -/
theorem Grps.append {w : World} {v : Value} {gs : List (List (Int × List Nat))} {B : Nat} (h : Grps w v gs B) (hn : gs.length ≤ 1000000000) {g : Nat} {u : Value} {l : List (Int × List Nat)} (hg : Blk w g #[u] 38) (hu : Chg w u l) :
    ∃ v' w', (Builtin.append_ #[32, 32] 32 #[v, .slice (some ⟨g, 0, none⟩) 1 1]).run Try.prog w = .ok v' w' ∧ Grps w' v' (gs ++ [l]) w.heap.size ∧ Grps w' v gs B ∧ Chg w' u l ∧ (∀ {x : Value} {r : List (Int × List Nat)}, Chg w x r → Chg w' x r) ∧ w.grownBy w' v.ownBlock ∧ (v'.ownBlock = v.ownBlock ∨ v'.ownBlock = some w.heap.size) := by
  obtain ⟨i, hi, hz, hs, hby⟩ := info_parts grp_row
  obtain ⟨vs, h1, ho, h2⟩ := id h
  have hc := hg.one
  obtain ⟨A, c, rfl⟩ := hu.slice
  obtain ⟨v', w', hrun, ho', hgr, hloc, hold⟩ := run_append_keeps (P := Try.prog) w 0 32 32 38 i _ 1 24 Try.underlying32 hi hz hs hby rfl (by omega) v gs.length vs ho ⟨g, 0, none⟩ 1 1 [.slice A l.length c] rfl
    (fun j u hu => by
      match j, hu with
      | 0, hu => simp at hu; subst hu; exact hc.1) (by intro u hu; simp at hu; subst hu; rfl) (by simp only [maxLen]; omega) (by omega) (Nat.zero_le _)
  have ht : Turn v.ownBlock.toList w w' := (Turn.refl _ w).grown hgr (fun k e => .inl (by simp [e]))
  have hnb : NoBytes w v.ownBlock.toList := by
    intro k hk cs fz e
    obtain ⟨cs', e'⟩ := h.kind (g := k) (by simpa using hk)
    rw [e'] at e; cases e
  have hne : ∀ {u : Value} {l : List (Int × List Nat)}, Chg w u l → Chg w' u l := fun hb => hb.turn ht hnb (fun j hj hm => by
    obtain ⟨cs, e⟩ := hb.kind hj
    obtain ⟨cs', e'⟩ := h.kind (g := j) (by simpa using hm)
    rw [e] at e'; cases e')
  refine ⟨v', w', hrun, ⟨vs ++ [.slice A l.length c], by simp [h1], ?_, fun k hk => ?_⟩, ⟨vs, h1, hold, fun k hk => ?_⟩, hne hu, hne, hgr, hloc⟩
  · rw [List.length_append]; exact ho'
  · by_cases hlt : k < gs.length
    · obtain ⟨u, e, e1, hb, _⟩ := h2 k hlt
      refine ⟨u, ?_, e1, ?_, fun j hj => hb.lt hj⟩
      · rw [List.getElem?_append_left (by omega)]; exact e
      · rw [List.getElem_append_left hlt]; exact hne hb
    · have ek : k = gs.length := by simp at hk; omega
      subst ek
      refine ⟨.slice A l.length c, ?_, rfl, ?_, fun j hj => hu.lt hj⟩
      · rw [List.getElem?_append_right (by omega), h1]; simp
      · simpa using hne hu
  · obtain ⟨u, e, e1, hb, hB⟩ := h2 k hk
    exact ⟨u, e, e1, hne hb, hB⟩

/-- What slots hold in an epoch, of what each says (its epoch, its change): the groups, behind 'out' and the group 'g' begun. -/
def grpL (e : Int) : List (Int × Option ((Int × List Nat) × Bool)) → List (List (Int × List Nat)) → List (Int × List Nat) → List (List (Int × List Nat))
  | [], out, _ => out
  | (a, b) :: r, out, g =>
    if a ≠ e then out
    else match b with
      | none => out
      | some (c, last) => if last then grpL e r (out ++ [g ++ [c]]) [] else grpL e r out (g ++ [c])
theorem grpL_other {e a : Int} (h : a ≠ e) (b : Option ((Int × List Nat) × Bool)) (r : List (Int × Option ((Int × List Nat) × Bool))) (out : List (List (Int × List Nat))) (g : List (Int × List Nat)) : grpL e ((a, b) :: r) out g = out := by
  show (if a ≠ e then _ else _) = _; rw [if_pos h]
theorem grpL_none (e : Int) (r : List (Int × Option ((Int × List Nat) × Bool))) (out : List (List (Int × List Nat))) (g : List (Int × List Nat)) : grpL e ((e, none) :: r) out g = out := by
  show (if e ≠ e then _ else _) = _; rw [if_neg (by simp)]
theorem grpL_some (e : Int) (c : Int × List Nat) (last : Bool) (r : List (Int × Option ((Int × List Nat) × Bool))) (out : List (List (Int × List Nat))) (g : List (Int × List Nat)) :
    grpL e ((e, some (c, last)) :: r) out g = if last then grpL e r (out ++ [g ++ [c]]) [] else grpL e r out (g ++ [c]) := by
  show (if e ≠ e then _ else _) = _; rw [if_neg (by simp)]
/-- What n slots from i on say. -/
def slL (D : Dsk) (f : Nat) : Nat → Nat → List (Int × Option ((Int × List Nat) × Bool))
  | 0, _ => []
  | n + 1, i => (slotEp (D.tells ((f : Int) + i)) i, chOf (slotLoad (D.tells ((f : Int) + i)) i)) :: slL D f n (i + 1)
theorem slL_succ (D : Dsk) (f n i : Nat) : slL D f (n + 1) i = (slotEp (D.tells ((f : Int) + i)) i, chOf (slotLoad (D.tells ((f : Int) + i)) i)) :: slL D f n (i + 1) := rfl
/-- What n slots from i on hold in an epoch: the groups, behind 'out' and the group 'g' begun. -/
def grp (D : Dsk) (f : Nat) (e : Int) (n i : Nat) (out : List (List (Int × List Nat))) (g : List (Int × List Nat)) : List (List (Int × List Nat)) := grpL e (slL D f n i) out g
theorem grp_zero (D : Dsk) (f : Nat) (e : Int) (i : Nat) (out : List (List (Int × List Nat))) (g : List (Int × List Nat)) : grp D f e 0 i out g = out := rfl
theorem grp_succ (D : Dsk) (f : Nat) (e : Int) (n i : Nat) (out : List (List (Int × List Nat))) (g : List (Int × List Nat)) :
    grp D f e (n + 1) i out g = grpL e ((slotEp (D.tells ((f : Int) + i)) i, chOf (slotLoad (D.tells ((f : Int) + i)) i)) :: slL D f n (i + 1)) out g := by
  unfold grp; rw [slL_succ]
end Go.Proofs.Ytpomfokpmbblkaa
