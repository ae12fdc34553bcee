/- Rows of the document's changes in memory, and rows of such rows. -/
import Derived.Test.YtpomfokpmbblkaaA3
namespace Go.Proofs.Ytpomfokpmbblkaa
open Go.RowKit Go.Maps
set_option maxRecDepth 8000

def rcells (L : List (Int × List Nat)) : List Value := L.flatMap fun x => [.int .i64 x.1, .string (str x.2)]
theorem rcells_append (a b : List (Int × List Nat)) : rcells (a ++ b) = rcells a ++ rcells b := by simp [rcells]
theorem rcells_length (L : List (Int × List Nat)) : (rcells L).length = L.length * 2 := by
  unfold rcells
  induction L with
  | nil => rfl
  | cons x l ih => simp only [List.flatMap_cons, List.length_append, ih, List.length_cons, List.length_nil]; omega
theorem rcells_get : ∀ (L : List (Int × List Nat)) (k : Nat) (h : k < L.length), (rcells L)[k * 2]? = some (.int .i64 L[k].1) ∧ (rcells L)[k * 2 + 1]? = some (.string (str L[k].2))
  | [], _, h => absurd h (by simp)
  | x :: l, 0, _ => ⟨rfl, rfl⟩
  | x :: l, k + 1, h => by
    have := rcells_get l k (by simpa using h)
    have e : rcells (x :: l) = .int .i64 x.1 :: .string (str x.2) :: rcells l := rfl
    rw [e, show (k + 1) * 2 = k * 2 + 1 + 1 by omega]
    exact this
theorem rcells_one (L : List (Int × List Nat)) : ∀ u ∈ rcells L, u.oneCell' = true := by
  intro u hu
  unfold rcells at hu
  obtain ⟨x, _, hx⟩ := List.mem_flatMap.1 hu
  simp at hx
  rcases hx with rfl | rfl <;> rfl
/-- The slice v is a row of the document's changes, in a block of its own from base on. -/
def RCg (w : World) (base : Nat) (v : Value) (L : List (Int × List Nat)) : Prop := w.ownsRow base 47 2 v L.length (rcells L)
/-- A row of such rows, which lie below block B. -/
def RGs (w : World) (base : Nat) (v : Value) (gs : List (List (Int × List Nat))) (B : Nat) : Prop :=
  ∃ vs : List Value, vs.length = gs.length ∧ w.ownsRow base 45 1 v gs.length vs ∧ ∀ k (h : k < gs.length), ∃ u, vs[k]? = some u ∧ u.oneCell' = true ∧ RCg w base u gs[k] ∧ ∀ j, u.ownBlock = some j → j < B
section
variable {T : List Nat} {w w' : World} {v u : Value} {L : List (Int × List Nat)} {gs : List (List (Int × List Nat))} {base B : Nat}
theorem RCg.nil (w : World) (base : Nat) : RCg w base nilv [] := World.ownsRow_nil _ _ _ _
theorem RCg.lt (h : RCg w base v L) {g : Nat} (hg : v.ownBlock = some g) : base ≤ g ∧ g < w.heap.size := World.ownsRow.lt h g hg
theorem RCg.kind (h : RCg w base v L) {g : Nat} (hg : v.ownBlock = some g) : ∃ cs, w.heap[g]? = some (.cells cs 47 (0, 0)) := by
  rcases h.2 with ⟨rfl, _⟩ | ⟨g', cap, cur, rfl, _, hh, _⟩
  · simp [Value.ownBlock] at hg
  · simp [Value.ownBlock] at hg; subst hg; exact ⟨_, hh⟩
theorem RCg.turn (h : RCg w base v L) (k : Turn T w w') (hg : ∀ g, v.ownBlock = some g → g ∉ T) : RCg w' base v L := by
  refine ⟨h.1, ?_⟩
  rcases h.2 with h | ⟨g, cap, cur, rfl, hb, hh, r⟩
  · exact .inl h
  · exact .inr ⟨g, cap, cur, rfl, hb, (k.block g (lt_of_block hh) (hg g rfl)).trans hh, r⟩
theorem RCg.grew (h : RCg w base v L) (k : Below w.heap.size w w') : RCg w' base v L := h.turn (Turn.of_below k []) (by simp)
theorem RCg.form (h : RCg w base v L) : ∃ A c, v = .slice A L.length c := by
  rcases h.2 with ⟨rfl, h0⟩ | ⟨g, cap, cur, rfl, _⟩
  · exact ⟨none, 0, by rw [h0]⟩
  · exact ⟨_, _, rfl⟩
theorem RCg.at_ (h : RCg w base v L) (k : Nat) (hk : k < L.length) : ∃ g c, v = .slice (some ⟨g, 0, none⟩) L.length c ∧ w.cell? ⟨g, k * 2, none⟩ = some (.int .i64 L[k].1) ∧ w.cell? ⟨g, k * 2 + 1, none⟩ = some (.string (str L[k].2)) := by
  have := rcells_get L k hk
  rcases id h.2 with ⟨_, h0⟩ | ⟨g, cap, cur, rfl, _⟩
  · omega
  · have q0 := World.ownsRow.cells h (g := g) rfl _ _ this.1
    have q1 := World.ownsRow.cells h (g := g) rfl _ _ this.2
    rw [addr_add] at q0 q1
    try rw [Nat.zero_add] at q0
    try rw [Nat.zero_add] at q1
    exact ⟨g, cap, rfl, q0, q1⟩
theorem rc_row : (Try.prog.info? 47).map (fun i => (i.zero, i.size, i.bytes)) = some (some (.agg #[.int .i64 0, .string ⟨#[]⟩]), 2, 24) := by kernel_rfl
/-- 'append(row, c)', c in a block of its own. -/
theorem RCg.append (h : RCg w base v L) (hn : L.length ≤ 1000000000) (hb : base ≤ w.heap.size) {g : Nat} {x : Int} {l : List Nat} (hg : Blk w g #[.int .i64 x, .string (str l)] 47) :
    ∃ v' w', (Builtin.append_ #[45, 45] 45 #[v, .slice (some ⟨g, 0, none⟩) 1 1]).run Try.prog w = .ok v' w' ∧ RCg w' base v' (L ++ [(x, l)]) ∧ w.grownBy w' v.ownBlock ∧ (v'.ownBlock = v.ownBlock ∨ v'.ownBlock = some w.heap.size) := by
  obtain ⟨i, hi, hz, hs, hby⟩ := info_parts rc_row
  have hc := hg.two
  obtain ⟨v', w', hrun, ho', hgr, hloc, _⟩ := run_append_keeps (P := Try.prog) w base 45 45 47 i _ 2 24 Try.underlying45 hi hz hs hby rfl (by omega) v L.length (rcells L) h ⟨g, 0, none⟩ 1 1 [.int .i64 x, .string (str l)] rfl
    (fun j u hu => by
      match j, hu with
      | 0, hu => simp at hu; subst hu; exact hc.1
      | 1, hu => simp at hu; subst hu; exact hc.2.1) (by intro u hu; simp at hu; rcases hu with rfl | rfl <;> rfl) (by simp only [maxLen]; omega) (by omega) hb
  refine ⟨v', w', hrun, ?_, hgr, hloc⟩
  have e : rcells (L ++ [(x, l)]) = rcells L ++ [.int .i64 x, .string (str l)] := by simp [rcells]
  unfold RCg
  rw [e, List.length_append]; exact ho'
theorem RGs.nil (w : World) (base B : Nat) : RGs w base nilv [] B := ⟨[], rfl, World.ownsRow_nil _ _ _ _, fun k h => absurd h (by simp)⟩
theorem RGs.lt (h : RGs w base v gs B) {g : Nat} (hg : v.ownBlock = some g) : base ≤ g ∧ g < w.heap.size := by
  obtain ⟨vs, _, ho, _⟩ := h; exact ho.lt g hg
theorem RGs.kind (h : RGs w base v gs B) {g : Nat} (hg : v.ownBlock = some g) : ∃ cs, w.heap[g]? = some (.cells cs 45 (0, 0)) := by
  obtain ⟨vs, _, ho, _⟩ := h
  rcases ho.2 with ⟨rfl, _⟩ | ⟨g', cap, cur, rfl, _, hh, _⟩
  · simp [Value.ownBlock] at hg
  · simp [Value.ownBlock] at hg; subst hg; exact ⟨_, hh⟩
theorem RGs.turn (h : RGs w base v gs B) (k : Turn T w w') (hr : ∀ k ∈ T, (∀ cs fz, w.heap[k]? ≠ some (.cells cs 47 fz)) ∨ B ≤ k) (hg : ∀ g, v.ownBlock = some g → g ∉ T) : RGs w' base v gs B := by
  obtain ⟨vs, h1, ho, h2⟩ := h
  refine ⟨vs, h1, ?_, fun j hj => ?_⟩
  · refine ⟨ho.1, ?_⟩
    rcases ho.2 with h | ⟨g, cap, cur, rfl, hb, hh, r⟩
    · exact .inl h
    · exact .inr ⟨g, cap, cur, rfl, hb, (k.block g (lt_of_block hh) (hg g rfl)).trans hh, r⟩
  · obtain ⟨u, e, e1, hb, hB⟩ := h2 j hj
    refine ⟨u, e, e1, hb.turn k (fun g hg hm => ?_), hB⟩
    obtain ⟨cs, hx⟩ := hb.kind hg
    rcases hr g hm with h | h
    · exact h _ _ hx
    · have := hB g hg; omega
theorem RGs.grew (h : RGs w base v gs B) (k : Below w.heap.size w w') : RGs w' base v gs B := h.turn (Turn.of_below k []) (by intro _ h; simp at h) (by simp)
theorem RGs.mono (h : RGs w base v gs B) {B' : Nat} (hB : B ≤ B') : RGs w base v gs B' := by
  obtain ⟨vs, h1, ho, h2⟩ := h
  refine ⟨vs, h1, ho, fun k hk => ?_⟩
  obtain ⟨u, e, e1, hb, hB'⟩ := h2 k hk
  exact ⟨u, e, e1, hb, fun j hj => Nat.lt_of_lt_of_le (hB' j hj) hB⟩
theorem RGs.form (h : RGs w base v gs B) : ∃ A c, v = .slice A gs.length c := by
  obtain ⟨vs, _, ho, _⟩ := h
  rcases ho.2 with ⟨rfl, h0⟩ | ⟨g, cap, cur, rfl, _⟩
  · exact ⟨none, 0, by rw [h0]⟩
  · exact ⟨_, _, rfl⟩
theorem RGs.at_ (h : RGs w base v gs B) (k : Nat) (hk : k < gs.length) : ∃ g c u, v = .slice (some ⟨g, 0, none⟩) gs.length c ∧ w.cell? ⟨g, k, none⟩ = some u ∧ RCg w base u gs[k] := by
  obtain ⟨vs, h1, ho, h2⟩ := h
  obtain ⟨u, e, _, hu, _⟩ := h2 k hk
  rcases id ho.2 with ⟨_, h0⟩ | ⟨g, cap, cur, rfl, _⟩
  · omega
  · have q0 := World.ownsRow.cells ho (g := g) rfl _ _ e
    rw [addr_add] at q0
    try rw [Nat.zero_add] at q0
    exact ⟨g, cap, u, rfl, q0, hu⟩
theorem rg_row : (Try.prog.info? 45).map (fun i => (i.zero, i.size, i.bytes)) = some (some (.slice none 0 0), 1, 24) := by kernel_rfl
/-- 'append(rows, row)', the row's slice in a block of its own. -/
theorem RGs.append (h : RGs w base v gs B) (hn : gs.length ≤ 1000000000) (hbb : base ≤ w.heap.size) {g : Nat} {l : List (Int × List Nat)} (hg : Blk w g #[u] 45) (hu : RCg w base u l) :
    ∃ v' w', (Builtin.append_ #[37, 37] 37 #[v, .slice (some ⟨g, 0, none⟩) 1 1]).run Try.prog w = .ok v' w' ∧ RGs w' base v' (gs ++ [l]) w.heap.size ∧ RGs w' base v gs B ∧ RCg w' base u l ∧ (∀ {x : Value} {r : List (Int × List Nat)}, RCg w base x r → RCg w' base x r) ∧ w.grownBy w' v.ownBlock ∧ (v'.ownBlock = v.ownBlock ∨ v'.ownBlock = some w.heap.size) := by
  obtain ⟨i, hi, hz, hs, hby⟩ := info_parts rg_row
  obtain ⟨vs, h1, ho, h2⟩ := id h
  have hc := hg.one
  obtain ⟨A, c, rfl⟩ := hu.form
  obtain ⟨v', w', hrun, ho', hgr, hloc, hold⟩ := run_append_keeps (P := Try.prog) w base 37 37 45 i _ 1 24 Try.underlying37 hi hz hs hby rfl (by omega) v gs.length vs ho ⟨g, 0, none⟩ 1 1 [.slice A l.length c] rfl
    (fun j u hu => by
      match j, hu with
      | 0, hu => simp at hu; subst hu; exact hc.1) (by intro u hu; simp at hu; subst hu; rfl) (by simp only [maxLen]; omega) (by omega) hbb
  have ht : Turn v.ownBlock.toList w w' := (Turn.refl _ w).grown hgr (fun k e => .inl (by simp [e]))
  have hne : ∀ {u : Value} {l : List (Int × List Nat)}, RCg w base u l → RCg w' base u l := fun hb => hb.turn ht (fun j hj hm => by
    obtain ⟨cs, e⟩ := hb.kind hj
    obtain ⟨cs', e'⟩ := h.kind (g := j) (by simpa using hm)
    rw [e] at e'; cases e')
  refine ⟨v', w', hrun, ⟨vs ++ [.slice A l.length c], by simp [h1], ?_, fun k hk => ?_⟩, ⟨vs, h1, hold, fun k hk => ?_⟩, hne hu, hne, hgr, hloc⟩
  · rw [List.length_append]; exact ho'
  · by_cases hlt : k < gs.length
    · obtain ⟨u, e, e1, hb, _⟩ := h2 k hlt
      refine ⟨u, ?_, e1, ?_, fun j hj => (hb.lt hj).2⟩
      · rw [List.getElem?_append_left (by omega)]; exact e
      · rw [List.getElem_append_left hlt]; exact hne hb
    · have ek : k = gs.length := by simp at hk; omega
      subst ek
      refine ⟨.slice A l.length c, ?_, rfl, ?_, fun j hj => (hu.lt hj).2⟩
      · rw [List.getElem?_append_right (by omega), h1]; simp
      · simpa using hne hu
  · obtain ⟨u, e, e1, hb, hB⟩ := h2 k hk
    exact ⟨u, e, e1, hne hb, hB⟩
end
end Go.Proofs.Ytpomfokpmbblkaa
