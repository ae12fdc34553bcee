/- The plain law of shifts: a ring begun elsewhere, turned round or moved is the same. -/
import Derived.Test.YtkneohngbkmlpaaW11
import Derived.Test.YtkneohngbkmlpaaPlain2
namespace Go.Proofs.Ytkneohngbkmlpaa
open Go.RowKit

def parB (p : Pt) (es : List (Pt × Pt)) : Bool := es.foldr (fun e o => flipB e.1 e.2 p != o) false
def hits (p : Pt) (es : List (Pt × Pt)) : Prop := ∃ e ∈ es, onZ e.1 e.2 p

theorem goIn_told (p : Pt) : ∀ (es : List (Pt × Pt)) (o : Int), (hits p es → goIn p es o = 0) ∧ (¬ hits p es → goIn p es o = if parB p es then -o else o)
  | [], o => ⟨fun ⟨_, h, _⟩ => absurd h List.not_mem_nil, fun _ => rfl⟩
  | (a, b) :: es, o => by
    unfold goIn
    by_cases hon : onZ a b p
    · rw [if_pos hon]
      exact ⟨fun _ => rfl, fun h => absurd ⟨_, List.mem_cons_self, hon⟩ h⟩
    · rw [if_neg hon]
      have ih := goIn_told p es (if flipB a b p then -o else o)
      refine ⟨fun ⟨e, he, h⟩ => ih.1 ?_, fun h => ?_⟩
      · rcases List.mem_cons.1 he with rfl | he
        · exact absurd h hon
        · exact ⟨e, he, h⟩
      · rw [ih.2 (fun ⟨e, he, h'⟩ => h ⟨e, List.mem_cons_of_mem _ he, h'⟩)]
        have e : parB p ((a, b) :: es) = (flipB a b p != parB p es) := rfl
        rw [e]
        cases flipB a b p <;> cases parB p es <;> simp

theorem goIn_same {p q : Pt} {es fs : List (Pt × Pt)} (h : hits p es ↔ hits q fs) (k : ¬ hits p es → parB p es = parB q fs) (o : Int) : goIn p es o = goIn q fs o := by
  by_cases hh : hits p es
  · rw [(goIn_told p es o).1 hh, (goIn_told q fs o).1 (h.1 hh)]
  · rw [(goIn_told p es o).2 hh, (goIn_told q fs o).2 (fun x => hh (h.2 x)), k hh]

theorem par_perm {p : Pt} {es fs : List (Pt × Pt)} (h : es.Perm fs) : parB p es = parB p fs := by
  induction h with
  | nil => rfl
  | cons x _ ih => exact congrArg (fun o => flipB x.1 x.2 p != o) ih
  | swap x y l =>
    show (flipB y.1 y.2 p != (flipB x.1 x.2 p != parB p l)) = (flipB x.1 x.2 p != (flipB y.1 y.2 p != parB p l))
    cases flipB x.1 x.2 p <;> cases flipB y.1 y.2 p <;> cases parB p l <;> rfl
  | trans _ _ ih1 ih2 => exact ih1.trans ih2
theorem goIn_perm {p : Pt} {es fs : List (Pt × Pt)} (h : es.Perm fs) (o : Int) : goIn p es o = goIn p fs o :=
  goIn_same ⟨fun ⟨e, he, x⟩ => ⟨e, h.mem_iff.1 he, x⟩, fun ⟨e, he, x⟩ => ⟨e, h.mem_iff.2 he, x⟩⟩ (fun _ => par_perm h) o

theorem flat_key (α β γ δ m n : Int)
    (hm : (0 < α → 0 < δ → 0 < m) ∧ (0 < α → δ < 0 → m < 0) ∧ (α < 0 → 0 < δ → m < 0) ∧ (α < 0 → δ < 0 → 0 < m) ∧ (α = 0 → m = 0) ∧ (δ = 0 → m = 0))
    (hk : (0 < β → 0 < γ → 0 < n) ∧ (0 < β → γ < 0 → n < 0) ∧ (β < 0 → 0 < γ → n < 0) ∧ (β < 0 → γ < 0 → 0 < n) ∧ (β = 0 → n = 0) ∧ (γ = 0 → n = 0))
    (h : m = n) (hs : 0 < γ ∧ δ ≤ 0 ∨ 0 < δ ∧ γ ≤ 0) : (α ≤ 0 ∨ β ≤ 0) ∧ (0 ≤ α ∨ 0 ≤ β) ∧ (γ ≤ 0 ∨ δ ≤ 0) ∧ (0 ≤ γ ∨ 0 ≤ δ) := by
  omega

theorem flat_on (a b p : Pt) (h : turnZ a b p = 0) (hs : p.y < a.y ∧ b.y ≤ p.y ∨ p.y < b.y ∧ a.y ≤ p.y) : onZ a b p := by
  have e := h
  rw [turn_rel] at e
  have k := flat_key (a.x - p.x) (b.x - p.x) (a.y - p.y) (b.y - p.y) _ _ (sgn_facts _ _) (sgn_facts _ _) ((cmp_zero _ _).1 e) (by omega)
  refine ⟨h, ?_⟩
  unfold holdsR spanR; dsimp only; omega

theorem flip_swap (a b p : Pt) (hn : ¬ onZ a b p) : flipB b a p = flipB a b p := by
  unfold flipB
  rw [turn_swap a b p]
  by_cases h1 : p.y < a.y <;> by_cases h2 : p.y < b.y <;> simp only [h1, h2, decide_true, decide_false] <;> try rfl
  all_goals
    have h : turnZ a b p ≠ 0 := fun h => hn (flat_on a b p h (by omega))
    by_cases h3 : 0 < turnZ a b p
    · have h4 : ¬ 0 < - turnZ a b p := by omega
      simp only [h3, h4, decide_true, decide_false]; rfl
    · have h4 : 0 < - turnZ a b p := by omega
      simp only [h3, h4, decide_true, decide_false]; rfl

theorem goIn_swap (p : Pt) : ∀ (es : List (Pt × Pt)) (o : Int), goIn p (es.map fun e => (e.2, e.1)) o = goIn p es o
  | [], _ => rfl
  | (a, b) :: es, o => by
    simp only [List.map_cons]
    unfold goIn
    have e : onZ b a p ↔ onZ a b p := decide_eq_decide.1 (on_swap b a p)
    by_cases hon : onZ a b p
    · rw [if_pos hon, if_pos (e.2 hon)]
    · rw [if_neg hon, if_neg (fun h => hon (e.1 h)), flip_swap a b p hon]
      exact goIn_swap p es _

/-- The edge that begins at the i-th point. -/
def edgeAt (l : List Pt) (i : Nat) : Pt × Pt := (l.getD i ⟨0, 0⟩, l.getD ((i + 1) % l.length) ⟨0, 0⟩)
theorem edges_map (l : List Pt) : edgesOf l = (List.range l.length).map (edgeAt l) := rfl

def turned (l : List Pt) : List Pt := (List.range l.length).map fun i => l.getD ((i + 1) % l.length) ⟨0, 0⟩
def backed (l : List Pt) : List Pt := (List.range l.length).map fun i => l.getD (l.length - 1 - i) ⟨0, 0⟩
def movedBy (v : Pt) (l : List Pt) : List Pt := l.map fun q => ⟨q.x + v.x, q.y + v.y⟩

theorem range_turn (n : Nat) : ((List.range n).map fun i => (i + 1) % n).Perm (List.range n) := by
  cases n with
  | zero => exact .nil
  | succ m =>
    rw [List.range_succ, List.map_append]
    have e1 : (List.range m).map (fun i => (i + 1) % (m + 1)) = (List.range m).map (· + 1) :=
      List.map_congr_left fun i hi => Nat.mod_eq_of_lt (by have := List.mem_range.1 hi; omega)
    have e2 : List.range m ++ [m] = 0 :: (List.range m).map (· + 1) := by
      rw [← List.range_succ, List.range_succ_eq_map]
    rw [e1, e2]
    have e3 : [m].map (fun i => (i + 1) % (m + 1)) = [0] := by simp
    rw [e3]
    exact List.perm_append_comm

theorem range_back (n : Nat) : ((List.range n).map fun i => if i + 1 = n then i else n - 2 - i).Perm (List.range n) := by
  cases n with
  | zero => exact .nil
  | succ m =>
    rw [List.range_succ, List.map_append]
    have e1 : (List.range m).map (fun i => if i + 1 = m + 1 then i else m + 1 - 2 - i) = (List.range m).reverse := by
      refine List.ext_getElem (by simp) fun i h1 h2 => ?_
      have h : i < m := by simpa using h1
      simp only [List.getElem_map, List.getElem_range, List.getElem_reverse, List.length_range]
      rw [if_neg (by omega)]
      omega
    rw [e1]
    have e3 : [m].map (fun i => if i + 1 = m + 1 then i else m + 1 - 2 - i) = [m] := by simp
    rw [e3]
    exact List.Perm.append_right _ (List.reverse_perm _)

theorem getD_map_range {α : Type} (n i : Nat) (f : Nat → α) (d : α) (h : i < n) : ((List.range n).map f).getD i d = f i := by
  rw [List.getD_eq_getElem?_getD, List.getElem?_map, List.getElem?_range h]; rfl

theorem turned_edges (l : List Pt) : (edgesOf (turned l)).Perm (edgesOf l) := by
  have hl : (turned l).length = l.length := by simp [turned]
  have e : edgesOf (turned l) = ((List.range l.length).map fun i => (i + 1) % l.length).map (edgeAt l) := by
    rw [edges_map, hl, List.map_map]
    refine List.map_congr_left fun i hi => ?_
    have hi := List.mem_range.1 hi
    have hj : (i + 1) % l.length < l.length := Nat.mod_lt _ (by omega)
    show edgeAt (turned l) i = edgeAt l ((i + 1) % l.length)
    unfold edgeAt
    rw [hl]
    unfold turned
    rw [getD_map_range _ _ _ _ hi, getD_map_range _ _ _ _ hj]
  rw [e, edges_map]
  exact (range_turn _).map _

theorem backed_edges (l : List Pt) : (edgesOf (backed l)).Perm ((edgesOf l).map fun e => (e.2, e.1)) := by
  have hl : (backed l).length = l.length := by simp [backed]
  have e : edgesOf (backed l) = (((List.range l.length).map fun i => if i + 1 = l.length then i else l.length - 2 - i).map (edgeAt l)).map fun e => (e.2, e.1) := by
    rw [edges_map, hl, List.map_map, List.map_map]
    refine List.map_congr_left fun i hi => ?_
    have hi := List.mem_range.1 hi
    have hj : (i + 1) % l.length < l.length := Nat.mod_lt _ (by omega)
    show edgeAt (backed l) i = ((edgeAt l (if i + 1 = l.length then i else l.length - 2 - i)).2, (edgeAt l (if i + 1 = l.length then i else l.length - 2 - i)).1)
    unfold edgeAt
    rw [hl]
    unfold backed
    rw [getD_map_range _ _ _ _ hi, getD_map_range _ _ _ _ hj]
    by_cases h : i + 1 = l.length
    · rw [if_pos h, h, Nat.mod_self]
      have h1 : l.length - 1 - i = 0 := by omega
      have h2 : l.length - 1 - 0 = i := by omega
      simp only [h1, h2]
    · rw [if_neg h, Nat.mod_eq_of_lt (by omega)]
      have h1 : l.length - 1 - i = (l.length - 2 - i + 1) % l.length := by rw [Nat.mod_eq_of_lt (by omega)]; omega
      have h2 : l.length - 1 - (i + 1) = l.length - 2 - i := by omega
      simp only [← h1, h2]
  rw [e, edges_map]
  exact ((range_back _).map _).map _

theorem moved_edges (v : Pt) (l : List Pt) : edgesOf (movedBy v l) = (edgesOf l).map fun e => (⟨e.1.x + v.x, e.1.y + v.y⟩, ⟨e.2.x + v.x, e.2.y + v.y⟩) := by
  have hl : (movedBy v l).length = l.length := by simp [movedBy]
  rw [edges_map, edges_map, hl, List.map_map]
  refine List.map_congr_left fun i hi => ?_
  have hi := List.mem_range.1 hi
  have hj : (i + 1) % l.length < l.length := Nat.mod_lt _ (by omega)
  show edgeAt (movedBy v l) i = _
  unfold edgeAt
  rw [hl]
  unfold movedBy
  simp [List.getD_eq_getElem?_getD, List.getElem?_eq_getElem hi, List.getElem?_eq_getElem hj]

theorem turn_moved (v a b p : Pt) : turnZ ⟨a.x + v.x, a.y + v.y⟩ ⟨b.x + v.x, b.y + v.y⟩ ⟨p.x + v.x, p.y + v.y⟩ = turnZ a b p := by
  unfold turnZ
  dsimp only
  rw [show b.x + v.x - (a.x + v.x) = b.x - a.x from by omega, show b.y + v.y - (a.y + v.y) = b.y - a.y from by omega,
    show p.x + v.x - (a.x + v.x) = p.x - a.x from by omega, show p.y + v.y - (a.y + v.y) = p.y - a.y from by omega]
theorem on_moved (v a b p : Pt) : onZ ⟨a.x + v.x, a.y + v.y⟩ ⟨b.x + v.x, b.y + v.y⟩ ⟨p.x + v.x, p.y + v.y⟩ ↔ onZ a b p := by
  unfold onZ
  rw [turn_moved]
  unfold holdsR spanR
  dsimp only
  constructor <;> rintro ⟨h, h1, h2, h3, h4⟩ <;> exact ⟨h, by omega, by omega, by omega, by omega⟩
theorem flip_moved (v a b p : Pt) : flipB ⟨a.x + v.x, a.y + v.y⟩ ⟨b.x + v.x, b.y + v.y⟩ ⟨p.x + v.x, p.y + v.y⟩ = flipB a b p := by
  unfold flipB
  rw [turn_moved]
  dsimp only
  simp only [Int.add_lt_add_iff_right]

theorem goIn_moved (v p : Pt) : ∀ (es : List (Pt × Pt)) (o : Int), goIn ⟨p.x + v.x, p.y + v.y⟩ (es.map fun e => (⟨e.1.x + v.x, e.1.y + v.y⟩, ⟨e.2.x + v.x, e.2.y + v.y⟩)) o = goIn p es o
  | [], _ => rfl
  | (a, b) :: es, o => by
    simp only [List.map_cons]
    unfold goIn
    by_cases hon : onZ a b p
    · rw [if_pos hon, if_pos ((on_moved v a b p).2 hon)]
    · rw [if_neg hon, if_neg (fun h => hon ((on_moved v a b p).1 h)), flip_moved v a b p]
      exact goIn_moved v p es _

theorem In_turned (p : Pt) (l : List Pt) : goIn p (edgesOf (turned l)) (-1) = goIn p (edgesOf l) (-1) := goIn_perm (turned_edges l) _
theorem In_backed (p : Pt) (l : List Pt) : goIn p (edgesOf (backed l)) (-1) = goIn p (edgesOf l) (-1) := by
  rw [goIn_perm (backed_edges l), goIn_swap]
theorem In_moved (v p : Pt) (l : List Pt) : goIn ⟨p.x + v.x, p.y + v.y⟩ (edgesOf (movedBy v l)) (-1) = goIn p (edgesOf l) (-1) := by
  rw [moved_edges, goIn_moved]

theorem mem_turned (l : List Pt) (hl : ∀ q ∈ l, May q) : ∀ q ∈ turned l, May q := by
  intro q hq
  simp only [turned, List.mem_map, List.mem_range] at hq
  obtain ⟨i, hi, rfl⟩ := hq
  have hj : (i + 1) % l.length < l.length := Nat.mod_lt _ (by omega)
  rw [List.getD_eq_getElem?_getD, List.getElem?_eq_getElem hj]
  exact hl _ (List.getElem_mem hj)
theorem mem_backed (l : List Pt) (hl : ∀ q ∈ l, May q) : ∀ q ∈ backed l, May q := by
  intro q hq
  simp only [backed, List.mem_map, List.mem_range] at hq
  obtain ⟨i, hi, rfl⟩ := hq
  have hj : l.length - 1 - i < l.length := by omega
  rw [List.getD_eq_getElem?_getD, List.getElem?_eq_getElem hj]
  exact hl _ (List.getElem_mem hj)
theorem nil_of_len {l m : List Pt} (h : l.length = m.length) : l = [] ↔ m = [] := by
  rw [← List.length_eq_zero_iff, ← List.length_eq_zero_iff, h]

/-- A ring of points that may be, begun elsewhere. -/
theorem Inside_turned (l : List Pt) (p : Pt) (hl : ∀ q ∈ l, May q) : InsideF (turned l) p = InsideF l p := by
  unfold InsideF
  have h0 : turned l = [] ↔ l = [] := nil_of_len (by simp [turned])
  have h1 : (¬ ∀ q ∈ turned l, May q) = False := by simp only [eq_iff_iff, iff_false, Classical.not_not]; exact mem_turned l hl
  have h2 : (¬ ∀ q ∈ l, May q) = False := by simp only [eq_iff_iff, iff_false, Classical.not_not]; exact hl
  rw [In_turned]
  simp only [h0, h1, h2]
/-- Turned round. -/
theorem Inside_backed (l : List Pt) (p : Pt) (hl : ∀ q ∈ l, May q) : InsideF (backed l) p = InsideF l p := by
  unfold InsideF
  have h0 : backed l = [] ↔ l = [] := nil_of_len (by simp [backed])
  have h1 : (¬ ∀ q ∈ backed l, May q) = False := by simp only [eq_iff_iff, iff_false, Classical.not_not]; exact mem_backed l hl
  have h2 : (¬ ∀ q ∈ l, May q) = False := by simp only [eq_iff_iff, iff_false, Classical.not_not]; exact hl
  rw [In_backed]
  simp only [h0, h1, h2]
/-- Moved. -/
theorem Inside_moved (v : Pt) (l : List Pt) (p : Pt) (hp : May p) (hl : ∀ q ∈ l, May q) (hp' : May ⟨p.x + v.x, p.y + v.y⟩) (hl' : ∀ q ∈ movedBy v l, May q) :
    InsideF (movedBy v l) ⟨p.x + v.x, p.y + v.y⟩ = InsideF l p := by
  unfold InsideF
  have h0 : movedBy v l = [] ↔ l = [] := nil_of_len (by simp [movedBy])
  rw [In_moved]
  have h1 : (¬ May p) = False := by simp [hp]
  have h2 : (¬ May ⟨p.x + v.x, p.y + v.y⟩) = False := by simp [hp']
  have h3 : (¬ ∀ q ∈ l, May q) = False := by simp only [eq_iff_iff, iff_false, Classical.not_not]; exact hl
  have h4 : (¬ ∀ q ∈ movedBy v l, May q) = False := by simp only [eq_iff_iff, iff_false, Classical.not_not]; exact hl'
  simp only [h0, h1, h2, h3, h4, or_false]

end Go.Proofs.Ytkneohngbkmlpaa
