/- Plain: the cells of a span, in order; the ranges of cells in order. -/
import Derived.Test.YthinjaddebfdhaaMath
namespace Go.Proofs.Ythinjaddebfdhaa.M

/-- Two numbers of k bits each as one. -/
def cod (k x y : Nat) : Nat := 2 * spr k x + spr k y
theorem cod_lt (k x y : Nat) : cod k x y < 4 ^ k := by
  have h1 := spr_lt3 k x
  have h2 := spr_lt3 k y
  unfold cod; omega
theorem cod_div (k x y : Nat) : cod (k + 1) x y / 4 = cod k (x / 2) (y / 2) := by
  unfold cod; simp only [spr]; omega
theorem cod_div_pow : ∀ j k x y : Nat, cod (k + j) x y / 4 ^ j = cod k (x / 2 ^ j) (y / 2 ^ j)
  | 0, k, x, y => by simp
  | j + 1, k, x, y => by
    have e : 4 ^ (j + 1) = 4 * 4 ^ j := by rw [Nat.pow_succ, Nat.mul_comm]
    have e2 : 2 ^ (j + 1) = 2 * 2 ^ j := by rw [Nat.pow_succ, Nat.mul_comm]
    rw [e, ← Nat.div_div_eq_div_mul, ← Nat.add_assoc, cod_div, cod_div_pow j, Nat.div_div_eq_div_mul, Nat.div_div_eq_div_mul, e2]
theorem spr_zero : ∀ k : Nat, spr k 0 = 0
  | 0 => rfl
  | k + 1 => by simp [spr, spr_zero k]
theorem spr_small : ∀ (k j n : Nat), n < 2 ^ k → spr (k + j) n = spr k n
  | 0, j, n, h => by
    have : n = 0 := by simpa using h
    subst this; rw [spr_zero, spr_zero]
  | k + 1, j, n, h => by
    have h2 : n / 2 < 2 ^ k := by rw [Nat.pow_succ] at h; omega
    have e : k + 1 + j = (k + j) + 1 := by omega
    rw [e]
    simp only [spr]
    rw [spr_small k j _ h2]
theorem cod_small (k j x y : Nat) (hx : x < 2 ^ k) (hy : y < 2 ^ k) : cod (k + j) x y = cod k x y := by
  unfold cod; rw [spr_small k j x hx, spr_small k j y hy]
theorem cod_inj {k x y u v : Nat} (hx : x < 2 ^ k) (hy : y < 2 ^ k) (hu : u < 2 ^ k) (hv : v < 2 ^ k) (h : cod k x y = cod k u v) : x = u ∧ y = v := by
  have a1 := gat_mix k x y
  have a2 := gat_mix k u v
  have b1 := gat_mix' k x y
  have b2 := gat_mix' k u v
  unfold cod at h
  rw [h] at a1 b1
  rw [Nat.mod_eq_of_lt hy] at a1
  rw [Nat.mod_eq_of_lt hv] at a2
  rw [Nat.mod_eq_of_lt hx] at b1
  rw [Nat.mod_eq_of_lt hu] at b2
  exact ⟨b1.symm.trans b2, a1.symm.trans a2⟩

/-- The cells of a column, of a span, in the order in which they are gone through. -/
def colL (k x : Nat) : Nat → Nat → List Nat
  | _, 0 => []
  | y, n + 1 => cod k x y :: colL k x (y + 1) n
def cellsL (k y0 ny : Nat) : Nat → Nat → List Nat
  | _, 0 => []
  | x, n + 1 => colL k x y0 ny ++ cellsL k y0 ny (x + 1) n
theorem col_length (k x : Nat) : ∀ n y : Nat, (colL k x y n).length = n
  | 0, _ => rfl
  | n + 1, y => by simp [colL, col_length k x n]
theorem cells_length (k y0 ny : Nat) : ∀ n x : Nat, (cellsL k y0 ny x n).length = n * ny
  | 0, _ => by simp [cellsL]
  | n + 1, x => by simp [cellsL, col_length, cells_length k y0 ny n, Nat.succ_mul, Nat.add_comm]
theorem mem_col {k x c : Nat} : ∀ {n y : Nat}, c ∈ colL k x y n ↔ ∃ v, y ≤ v ∧ v < y + n ∧ c = cod k x v
  | 0, y => by simp [colL]; omega
  | n + 1, y => by
    simp only [colL, List.mem_cons, mem_col (n := n)]
    constructor
    · rintro (rfl | ⟨v, h1, h2, h3⟩)
      · exact ⟨y, by omega, by omega, rfl⟩
      · exact ⟨v, by omega, by omega, h3⟩
    · rintro ⟨v, h1, h2, h3⟩
      by_cases e : v = y
      · left; rw [h3, e]
      · right; exact ⟨v, by omega, by omega, h3⟩
theorem mem_cells {k y0 ny c : Nat} : ∀ {n x : Nat}, c ∈ cellsL k y0 ny x n ↔ ∃ u v, x ≤ u ∧ u < x + n ∧ y0 ≤ v ∧ v < y0 + ny ∧ c = cod k u v
  | 0, x => by simp [cellsL]; omega
  | n + 1, x => by
    simp only [cellsL, List.mem_append, mem_col, mem_cells (n := n)]
    constructor
    · rintro (⟨v, h1, h2, h3⟩ | ⟨u, v, h1, h2, h3, h4, h5⟩)
      · exact ⟨x, v, by omega, by omega, h1, h2, h3⟩
      · exact ⟨u, v, by omega, by omega, h3, h4, h5⟩
    · rintro ⟨u, v, h1, h2, h3, h4, h5⟩
      by_cases e : u = x
      · left; subst e; exact ⟨v, h3, h4, h5⟩
      · right; exact ⟨u, v, by omega, by omega, h3, h4, h5⟩
theorem col_nodup {k x : Nat} (hx : x < 2 ^ k) : ∀ n y : Nat, y + n ≤ 2 ^ k → (colL k x y n).Nodup
  | 0, _, _ => List.Pairwise.nil
  | n + 1, y, h => by
    simp only [colL, List.nodup_cons]
    refine ⟨?_, col_nodup hx n (y + 1) (by omega)⟩
    rw [mem_col]
    rintro ⟨v, h1, h2, h3⟩
    have := (cod_inj hx (by omega) hx (by omega) h3).2
    omega
theorem cells_nodup {k y0 ny : Nat} (hy : y0 + ny ≤ 2 ^ k) : ∀ n x : Nat, x + n ≤ 2 ^ k → (cellsL k y0 ny x n).Nodup
  | 0, _, _ => List.Pairwise.nil
  | n + 1, x, h => by
    simp only [cellsL, List.nodup_append]
    refine ⟨col_nodup (by omega) ny y0 hy, cells_nodup hy n (x + 1) (by omega), ?_⟩
    intro a ha b hb e
    subst e
    rw [mem_col] at ha
    rw [mem_cells] at hb
    obtain ⟨v, h1, h2, h3⟩ := ha
    obtain ⟨u, v', h4, h5, h6, h7, h8⟩ := hb
    rw [h3] at h8
    have := (cod_inj (k := k) (by omega) (by omega) (by omega) (by omega) h8).1
    omega
theorem col_small {k j x : Nat} (hx : x < 2 ^ k) : ∀ n y : Nat, y + n ≤ 2 ^ k → colL (k + j) x y n = colL k x y n
  | 0, _, _ => rfl
  | n + 1, y, h => by simp only [colL]; rw [cod_small k j x y hx (by omega), col_small hx n (y + 1) (by omega)]
theorem cells_small {k j y0 ny : Nat} (hy : y0 + ny ≤ 2 ^ k) : ∀ n x : Nat, x + n ≤ 2 ^ k → cellsL (k + j) y0 ny x n = cellsL k y0 ny x n
  | 0, _, _ => rfl
  | n + 1, x, h => by simp only [cellsL]; rw [col_small (by omega) ny y0 hy, cells_small hy n (x + 1) (by omega)]

/-! ### In order -/
def srt (l : List Nat) : List Nat := l.mergeSort fun a b => decide (a ≤ b)
theorem srt_perm (l : List Nat) : (srt l).Perm l := List.mergeSort_perm _ _
theorem srt_le (l : List Nat) : (srt l).Pairwise (· ≤ ·) := by
  have := List.pairwise_mergeSort (le := fun a b : Nat => decide (a ≤ b)) (by intro a b c; simp; omega) (by intro a b; simp; omega) l
  unfold srt
  simpa using this
theorem srt_lt (l : List Nat) (h : l.Nodup) : (srt l).Pairwise (· < ·) := by
  have h1 := srt_le l
  have h2 : (srt l).Pairwise (· ≠ ·) := (srt_perm l).symm.nodup h
  exact (h1.and h2).imp fun ⟨a, b⟩ => by omega
theorem srt_unique {l m : List Nat} (h : m.Perm l) (hs : m.Pairwise (· ≤ ·)) : m = srt l :=
  List.Perm.eq_of_pairwise (le := (· ≤ ·)) (fun a b _ _ h1 h2 => by omega) hs (srt_le l) (h.trans (srt_perm l).symm)

/-- Where c comes in. -/
def pos (c : Nat) : List Nat → Nat
  | [] => 0
  | a :: l => if a < c then pos c l + 1 else 0
def ins (l : List Nat) (c : Nat) : List Nat := l.take (pos c l) ++ c :: l.drop (pos c l)
theorem pos_le (c : Nat) : ∀ l : List Nat, pos c l ≤ l.length
  | [] => Nat.le_refl _
  | a :: l => by simp only [pos]; split <;> simp [pos_le c l]
theorem pos_step (c : Nat) : ∀ (l : List Nat) (k : Nat) (hk : k < l.length), k ≤ pos c l → (if l[k] < c then k + 1 ≤ pos c l else k = pos c l)
  | [], k, hk, _ => by simp at hk
  | a :: l, 0, _, _ => by simp only [pos, List.getElem_cons_zero]; split <;> simp
  | a :: l, k + 1, hk, h => by
    simp only [pos] at h ⊢
    split at h
    · rename_i ha
      rw [if_pos ha]
      have := pos_step c l k (by simpa using hk) (by omega)
      simp only [List.getElem_cons_succ]
      split at this
      · rename_i h2; rw [if_pos h2]; omega
      · rename_i h2; rw [if_neg h2]; omega
    · omega
theorem ins_perm (l : List Nat) (c : Nat) : (ins l c).Perm (c :: l) := by
  unfold ins
  have := List.perm_middle (a := c) (l₁ := l.take (pos c l)) (l₂ := l.drop (pos c l))
  rwa [List.take_append_drop] at this
theorem ins_cons (a : Nat) (l : List Nat) (c : Nat) : ins (a :: l) c = if a < c then a :: ins l c else c :: a :: l := by
  unfold ins
  simp only [pos]
  split <;> simp
theorem ins_le (c : Nat) : ∀ l : List Nat, l.Pairwise (· ≤ ·) → (ins l c).Pairwise (· ≤ ·)
  | [], _ => by simp [ins, pos]
  | a :: l, h => by
    rw [ins_cons]
    rw [List.pairwise_cons] at h
    split
    · rw [List.pairwise_cons]
      refine ⟨?_, ins_le c l h.2⟩
      intro b hb
      have := (ins_perm l c).mem_iff.1 hb
      simp only [List.mem_cons] at this
      rcases this with rfl | hb2
      · omega
      · exact h.1 b hb2
    · rw [List.pairwise_cons]
      refine ⟨?_, List.pairwise_cons.2 h⟩
      intro b hb
      simp only [List.mem_cons] at hb
      rcases hb with rfl | hb2
      · omega
      · have := h.1 b hb2; omega
theorem ins_all : ∀ (l acc : List Nat), acc.Pairwise (· ≤ ·) → (l.foldl ins acc).Pairwise (· ≤ ·) ∧ (l.foldl ins acc).Perm (acc ++ l)
  | [], acc, h => by simp [h]
  | c :: l, acc, h => by
    have ih := ins_all l (ins acc c) (ins_le c acc h)
    refine ⟨ih.1, ih.2.trans ?_⟩
    refine ((ins_perm acc c).append_right l).trans ?_
    exact (List.perm_middle (a := c) (l₁ := acc) (l₂ := l)).symm
theorem ins_srt (l : List Nat) : l.foldl ins [] = srt l :=
  srt_unique (by simpa using (ins_all l [] List.Pairwise.nil).2) (ins_all l [] List.Pairwise.nil).1

/-! ### Ranges -/
abbrev Rg := Nat × Nat
def joins (S : Nat) (out : List Rg) (c : Nat) : Bool :=
  match out.getLast? with
  | none => false
  | some r => (r.2 + 1) % 18446744073709551616 == c * S
def lowOf (S : Nat) (out : List Rg) (c : Nat) : Nat :=
  match out.getLast? with
  | none => c * S
  | some r => r.1
def pushR (S : Nat) (out : List Rg) (c : Nat) : List Rg :=
  if joins S out c then out.dropLast ++ [(lowOf S out c, c * S + (S - 1))] else out ++ [(c * S, c * S + (S - 1))]
def ranges (S : Nat) (cs : List Nat) : List Rg := cs.foldl (pushR S) []

structure Inv (S : Nat) (done : List Nat) (out : List Rg) : Prop where
  last : ∀ p, done.getLast? = some p → ∃ init lo, out = init ++ [(lo, p * S + (S - 1))]
  none_ : done = [] → out = []
  low : ∀ r ∈ out, r.1 ≤ r.2
  gap : out.Pairwise fun r s => r.2 + 1 < s.1
  mem : ∀ n, (∃ r ∈ out, r.1 ≤ n ∧ n ≤ r.2) ↔ n / S ∈ done
  len : out.length ≤ done.length

theorem div_iff {S n c : Nat} (hS : 0 < S) : n / S = c ↔ c * S ≤ n ∧ n ≤ c * S + (S - 1) := by
  constructor
  · rintro rfl
    have h1 := Nat.div_mul_le_self n S
    have h2 := Nat.lt_div_mul_add (a := n) hS
    omega
  · rintro ⟨h1, h2⟩
    exact Nat.div_eq_of_lt_le (by omega) (by rw [Nat.succ_mul]; omega)
theorem last_cases {α : Type} (l : List α) : l = [] ∨ ∃ init p, l = init ++ [p] := by
  rcases List.eq_nil_or_concat l with h | ⟨i, p, h⟩
  · exact .inl h
  · exact .inr ⟨i, p, by simpa using h⟩
theorem Inv.joins {S : Nat} {done : List Nat} {out : List Rg} {c p : Nat} (h : Inv S done out) (hS : 0 < S) (hc : (c + 1) * S ≤ 18446744073709551616) (hp : done.getLast? = some p) (hlt : p < c) :
    joins S out c = decide (c = p + 1) := by
  obtain ⟨init, lo, rfl⟩ := h.last p hp
  unfold M.joins
  rw [List.getLast?_concat]
  have h1 : (p + 1) * S ≤ c * S := Nat.mul_le_mul_right S (by omega)
  rw [Nat.succ_mul] at hc h1
  have e : p * S + (S - 1) + 1 = (p + 1) * S := by rw [Nat.succ_mul]; omega
  simp only [e]
  rw [Nat.mod_eq_of_lt (by rw [Nat.succ_mul]; omega)]
  by_cases hq : c = p + 1
  · subst hq; simp
  · have h2 : (p + 2) * S ≤ c * S := Nat.mul_le_mul_right S (by omega)
    have h3 : (p + 2) * S = (p + 1) * S + S := by rw [Nat.succ_mul]
    have : (p + 1) * S ≠ c * S := by omega
    simp [this, hq]
theorem Inv.push {S : Nat} {done : List Nat} {out : List Rg} {c : Nat} (h : Inv S done out) (hS : 0 < S) (hc : (c + 1) * S ≤ 18446744073709551616) (hlt : ∀ a ∈ done, a < c) : Inv S (done ++ [c]) (pushR S out c) := by
  rcases last_cases done with rfl | ⟨di, p, rfl⟩
  · have ho := h.none_ rfl
    subst ho
    simp only [pushR, M.joins, List.getLast?_nil]
    refine ⟨fun q hq => ?_, by simp, by simp, by simp, fun n => ?_, by simp⟩
    · simp at hq; subst hq; exact ⟨[], c * S, rfl⟩
    · simp [div_iff hS]
  · have hpc := hlt p (by simp)
    have hj := h.joins hS hc (by simp) hpc
    obtain ⟨init, lo, ho⟩ := h.last p (by simp)
    unfold pushR
    rw [hj]
    have hg := h.gap
    have hl := h.low
    have hm := h.mem
    have hn := h.len
    subst ho
    have hlo : lo ≤ p * S + (S - 1) := hl (lo, _) (by simp)
    rw [List.pairwise_append] at hg
    by_cases hq : c = p + 1
    · rw [if_pos (by simp [hq])]
      have e1 : lowOf S (init ++ [(lo, p * S + (S - 1))]) c = lo := by simp [lowOf]
      rw [e1, List.dropLast_concat]
      have e2 : c * S = p * S + S := by rw [hq, Nat.succ_mul]
      refine ⟨fun q hq => ?_, by simp, ?_, ?_, fun n => ?_, by simp at hn ⊢; omega⟩
      · simp at hq; subst hq; exact ⟨init, lo, rfl⟩
      · intro r hr
        simp only [List.mem_append, List.mem_singleton] at hr
        rcases hr with hr | rfl
        · exact hl r (by simp [hr])
        · show lo ≤ _; omega
      · rw [List.pairwise_append]
        refine ⟨hg.1, by simp, ?_⟩
        intro r hr s hs
        simp only [List.mem_singleton] at hs
        subst hs
        exact hg.2.2 r hr (lo, p * S + (S - 1)) (by simp)
      · have := hm n
        rw [List.mem_append, ← this, List.mem_singleton, div_iff hS]
        constructor
        · rintro ⟨r, hr, h1, h2⟩
          simp only [List.mem_append, List.mem_singleton] at hr
          rcases hr with hr | rfl
          · left; exact ⟨r, by simp [hr], h1, h2⟩
          · simp only at h1 h2
            by_cases h3 : n ≤ p * S + (S - 1)
            · left; exact ⟨(lo, p * S + (S - 1)), by simp, h1, h3⟩
            · right; omega
        · rintro (⟨r, hr, h1, h2⟩ | ⟨h1, h2⟩)
          · simp only [List.mem_append, List.mem_singleton] at hr
            rcases hr with hr | rfl
            · exact ⟨r, by simp [hr], h1, h2⟩
            · exact ⟨(lo, c * S + (S - 1)), by simp, h1, by simp only at h2 ⊢; omega⟩
          · exact ⟨(lo, c * S + (S - 1)), by simp, by simp only; omega, h2⟩
    · rw [if_neg (by simp [hq])]
      have h2 : (p + 2) * S ≤ c * S := Nat.mul_le_mul_right S (by omega)
      have h3 : (p + 2) * S = p * S + S + S := by rw [Nat.succ_mul, Nat.succ_mul]
      refine ⟨fun q hq => ?_, by simp, ?_, ?_, fun n => ?_, by simp at hn ⊢; omega⟩
      · simp at hq; subst hq; exact ⟨_, c * S, rfl⟩
      · intro r hr
        rw [List.mem_append, List.mem_singleton] at hr
        rcases hr with hr | rfl
        · exact hl r hr
        · show c * S ≤ _; omega
      · rw [List.pairwise_append]
        refine ⟨h.gap, by simp, ?_⟩
        intro r hr s hs
        simp only [List.mem_singleton] at hs
        subst hs
        show r.2 + 1 < c * S
        simp only [List.mem_append, List.mem_singleton] at hr
        rcases hr with hr | rfl
        · have := hg.2.2 r hr (lo, p * S + (S - 1)) (by simp)
          simp only at this
          omega
        · show p * S + (S - 1) + 1 < _; omega
      · have := hm n
        rw [List.mem_append, ← this, List.mem_singleton, div_iff hS]
        constructor
        · rintro ⟨r, hr, h1, h2⟩
          rw [List.mem_append, List.mem_singleton] at hr
          rcases hr with hr | rfl
          · left; exact ⟨r, hr, h1, h2⟩
          · right; exact ⟨h1, h2⟩
        · rintro (⟨r, hr, h1, h2⟩ | ⟨h1, h2⟩)
          · exact ⟨r, by rw [List.mem_append]; exact .inl hr, h1, h2⟩
          · exact ⟨(c * S, c * S + (S - 1)), by simp, h1, h2⟩
theorem Inv.nil (S : Nat) : Inv S [] [] := ⟨by simp, fun _ => rfl, by simp, by simp, by simp, by simp⟩
theorem Inv.take {S : Nat} (hS : 0 < S) {cs : List Nat} (hs : cs.Pairwise (· < ·)) (hb : ∀ c ∈ cs, (c + 1) * S ≤ 18446744073709551616) :
    ∀ k : Nat, k ≤ cs.length → Inv S (cs.take k) ((cs.take k).foldl (pushR S) [])
  | 0, _ => by simpa using Inv.nil S
  | k + 1, hk => by
    have ih := Inv.take hS hs hb k (by omega)
    rw [List.take_succ_eq_append_getElem (by omega), List.foldl_append]
    refine ih.push hS (hb _ (List.getElem_mem _)) ?_
    intro a ha
    rw [List.mem_iff_getElem] at ha
    obtain ⟨i, hi, rfl⟩ := ha
    simp only [List.length_take] at hi
    rw [List.getElem_take]
    exact List.pairwise_iff_getElem.1 hs i k (by omega) (by omega) (by omega)
theorem ranges_inv {S : Nat} (hS : 0 < S) {cs : List Nat} (hs : cs.Pairwise (· < ·)) (hb : ∀ c ∈ cs, (c + 1) * S ≤ 18446744073709551616) : Inv S cs (ranges S cs) := by
  have := Inv.take hS hs hb cs.length (Nat.le_refl _)
  rwa [List.take_length] at this

end Go.Proofs.Ythinjaddebfdhaa.M
