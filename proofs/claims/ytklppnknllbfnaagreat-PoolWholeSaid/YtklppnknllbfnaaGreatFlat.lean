/- A value without depth (structs and arrays within one another), opened to its cells: each cell reads as its own type. -/
import Derived.ProofKit
import Derived.OpenShut
import Derived.Lib.SmallJoins
namespace Go.Proofs.YtklppnknllbfnaaGreat
open Go.ChangeShapes Go.WideShapes Go.RowKit Go.Joins
/-- The types of a row's cells: a struct's, an array's parts in a row; all else is one cell. -/
def leaves (P : Program) : Nat → TypeId → Option (List TypeId)
 | 0, _ => none
 | n + 1, t =>
  match P.underlying t with
  | some (.struct fs) =>
   (fs.toList.foldl (fun (acc : Option (List TypeId)) f => acc.bind fun l =>
    if f.offset = l.length then (leaves P n f.type).bind fun m => if m.length = P.cellsOf f.type then some (l ++ m) else none else none) (some [])).bind fun l =>
     if l.length = P.cellsOf t then some l else none
  | some (.array k e) => (leaves P n e).bind fun m => if m.length = P.cellsOf e ∧ k * m.length = P.cellsOf t then some (List.replicate k m).flatten else none
  | _ => if P.cellsOf t = 1 then some [t] else none
section
variable {H : Type} {enc : TypeId × Value → H} {P : Program} {w : World} {base : Nat} {spare : Nat → Bool} {held : Bool}
/-- Every cell of a row reads as its leaf's type. -/
def Cells (enc : TypeId × Value → H) (P : Program) (w : World) (base : Nat) (spare : Nat → Bool) (held : Bool) (l : List TypeId) (cs : List Value) : Prop :=
 l.length = cs.length ∧ ∀ (i : Nat) (t : TypeId) (c : Value), l[i]? = some t → cs[i]? = some c → ∃ n y, DataW.trod enc P w base spare held n t [c] = some y
theorem Cells.append {l m : List TypeId} {cs ds : List Value} (h : Cells enc P w base spare held l cs) (k : Cells enc P w base spare held m ds) : Cells enc P w base spare held (l ++ m) (cs ++ ds) := by
 obtain ⟨h1, h2⟩ := h
 obtain ⟨k1, k2⟩ := k
 refine ⟨by simp [h1, k1], fun i t c ht hc => ?_⟩
 by_cases hi : i < l.length
 ·rw [List.getElem?_append_left hi] at ht
  rw [List.getElem?_append_left (by omega)] at hc
  exact h2 i t c ht hc
 ·rw [List.getElem?_append_right (by omega)] at ht
  rw [List.getElem?_append_right (by omega), ← h1] at hc
  exact k2 _ t c ht hc
theorem fields_flat {n fuel : Nat} {fs : List Field} (hrec : ∀ t l cs x, leaves P n t = some l → DataW.trod enc P w base spare held fuel t cs = some x → Cells enc P w base spare held l cs) (cs : List Value) :
  ∀ (l0 l : List TypeId) (xs : List (DataW H × List MemPlace)),
   fs.foldl (fun (acc : Option (List TypeId)) f => acc.bind fun l =>
    if f.offset = l.length then (leaves P n f.type).bind fun m => if m.length = P.cellsOf f.type then some (l ++ m) else none else none) (some l0) = some l →
   (fs.mapM fun f => DataW.trod enc P w base spare held fuel f.type ((cs.drop f.offset).take (P.cellsOf f.type))) = some xs →
   l0.length ≤ cs.length → Cells enc P w base spare held l0 (cs.take l0.length) → l.length ≤ cs.length ∧ Cells enc P w base spare held l (cs.take l.length) := by
 induction fs with
 | nil =>
  intro l0 l xs h _ hle hc
  simp only [List.foldl_nil, Option.some.injEq] at h
  subst h
  exact ⟨hle, hc⟩
 | cons f fs ih =>
  intro l0 l xs h hm hle hc
  rw [List.mapM_cons] at hm
  simp only [Option.bind_eq_bind, Option.bind_eq_some_iff, Option.pure_def, Option.some.injEq] at hm
  obtain ⟨x, hx, ys, hys, -⟩ := hm
  simp only [List.foldl_cons, Option.bind_some] at h
  by_cases ho : f.offset = l0.length
  ·rw [if_pos ho] at h
   cases hlf : leaves P n f.type with
   | none =>
    rw [hlf] at h
    simp only [Option.bind_none] at h
    have : ∀ gs : List Field, gs.foldl (fun (acc : Option (List TypeId)) f => acc.bind fun l =>
      if f.offset = l.length then (leaves P n f.type).bind fun m => if m.length = P.cellsOf f.type then some (l ++ m) else none else none) none = none := by
     intro gs; induction gs with
     | nil => rfl
     | cons g gs ig => simpa using ig
    rw [this] at h; cases h
   | some m =>
    rw [hlf] at h
    simp only [Option.bind_some] at h
    by_cases hml : m.length = P.cellsOf f.type
    ·rw [if_pos hml] at h
     have hcm := hrec _ _ _ _ hlf hx
     rw [ho, ← hml] at hcm
     have hlen := hcm.1
     rw [List.length_take, List.length_drop] at hlen
     have hle' : l0.length + m.length ≤ cs.length := by omega
     refine ih (l0 ++ m) l ys h hys (by simpa using hle') ?_
     have := hc.append hcm
     rwa [← List.take_add, ← List.length_append] at this
    ·rw [if_neg hml] at h
     have : ∀ gs : List Field, gs.foldl (fun (acc : Option (List TypeId)) f => acc.bind fun l =>
       if f.offset = l.length then (leaves P n f.type).bind fun m => if m.length = P.cellsOf f.type then some (l ++ m) else none else none) none = none := by
      intro gs; induction gs with
      | nil => rfl
      | cons g gs ig => simpa using ig
     rw [this] at h; cases h
  ·rw [if_neg ho] at h
   have : ∀ gs : List Field, gs.foldl (fun (acc : Option (List TypeId)) f => acc.bind fun l =>
     if f.offset = l.length then (leaves P n f.type).bind fun m => if m.length = P.cellsOf f.type then some (l ++ m) else none else none) none = none := by
    intro gs; induction gs with
    | nil => rfl
    | cons g gs ig => simpa using ig
   rw [this] at h; cases h
theorem array_flat {m : List TypeId} {q : Nat} (hq : m.length = q) : ∀ (k : Nat) (cs : List Value), cs.length = k * q →
  (∀ i, i < k → Cells enc P w base spare held m ((cs.drop (i * q)).take q)) → Cells enc P w base spare held (List.replicate k m).flatten cs
 | 0, cs, hl, _ => by
  have : cs = [] := List.length_eq_zero_iff.1 (by simpa using hl)
  subst this
  exact ⟨rfl, fun i t c ht => by simp at ht⟩
 | k + 1, cs, hl, h => by
  have e : cs = cs.take q ++ cs.drop q := (List.take_append_drop q cs).symm
  rw [List.replicate_succ, List.flatten_cons, e]
  refine Cells.append ?_ (array_flat hq k (cs.drop q) (by rw [List.length_drop, hl, Nat.succ_mul]; omega) fun i hi => ?_)
  ·have := h 0 (by omega)
   simpa using this
  ·have := h (i + 1) (by omega)
   rw [List.drop_drop]
   rwa [Nat.succ_mul, Nat.add_comm (i * q) q] at this
theorem one_cell {fuel : Nat} {t : TypeId} {cs : List Value} {x : DataW H × List MemPlace} (hx : DataW.trod enc P w base spare held (fuel + 1) t cs = some x)
  (h1 : ∀ fs, P.underlying t ≠ some (.struct fs)) (h2 : ∀ n e, P.underlying t ≠ some (.array n e)) : ∃ c, cs = [c] := by
 unfold DataW.trod at hx
 split at hx <;> first
  | exact ⟨_, rfl⟩
  | (rename_i hh; exact absurd hh (h1 _))
  | (rename_i hh; exact absurd hh (h2 _ _))
  | cases hx
theorem trod_flat : ∀ (n fuel : Nat) (t : TypeId) (l : List TypeId) (cs : List Value) (x : DataW H × List MemPlace), leaves P n t = some l → DataW.trod enc P w base spare held fuel t cs = some x → Cells enc P w base spare held l cs
 | 0, _, _, _, _, _, h, _ => by simp [leaves] at h
 | n + 1, 0, _, _, _, _, _, h => by simp [DataW.trod] at h
 | n + 1, fuel + 1, t, l, cs, x, hl, hx => by
  unfold leaves at hl
  cases hu : P.underlying t with
  | none => unfold DataW.trod at hx; rw [hu] at hx; simp at hx
  | some u =>
   rw [hu] at hl
   cases u
   case struct fs =>
    unfold DataW.trod at hx
    rw [hu] at hx
    simp only [Option.bind_eq_some_iff] at hl
    obtain ⟨l', hf, hc⟩ := hl
    by_cases hlen : l'.length = P.cellsOf t
    ·rw [if_pos hlen] at hc
     simp only [Option.some.injEq] at hc
     subst hc
     by_cases hcl : cs.length = P.cellsOf t
     ·simp only [hcl, if_true, Option.map_eq_some_iff] at hx
      obtain ⟨xs, hxs, -⟩ := hx
      have := fields_flat (fun t l cs x => trod_flat n fuel t l cs x) cs [] l' xs hf hxs (by simp) ⟨rfl, fun i t c ht => by simp at ht⟩
      have h2 := this.2
      rwa [List.take_of_length_le (by omega)] at h2
     ·simp [hcl] at hx
    ·rw [if_neg hlen] at hc; cases hc
   case array k e =>
    obtain ⟨xs, m', hm, -, hcl, hxl, hi⟩ := DataW.trod_array hu hx
    simp only [Nat.add_right_cancel_iff] at hm
    subst hm
    simp only [Option.bind_eq_some_iff] at hl
    obtain ⟨m, hme, hc⟩ := hl
    by_cases hcnd : m.length = P.cellsOf e ∧ k * m.length = P.cellsOf t
    ·rw [if_pos hcnd] at hc
     simp only [Option.some.injEq] at hc
     subst hc
     refine array_flat (q := P.cellsOf e) hcnd.1 k cs (by rw [hcl, ← hcnd.2, hcnd.1]) fun i hik => ?_
     have hri := hi i hik
     obtain ⟨y, hy⟩ : ∃ y, xs[i]? = some y := ⟨xs[i]'(by omega), List.getElem?_eq_getElem _⟩
     rw [hy] at hri
     exact trod_flat n fuel e m _ _ hme hri
    ·rw [if_neg hcnd] at hc; cases hc
   all_goals
    simp only at hl
    by_cases h1 : P.cellsOf t = 1
    ·rw [if_pos h1] at hl
     simp only [Option.some.injEq] at hl
     subst hl
     obtain ⟨c, rfl⟩ := one_cell hx (fun fs e => by rw [hu] at e; cases e) (fun n e h => by rw [hu] at h; cases h)
     exact ⟨rfl, fun i t' c' ht hc => by
      cases i with
      | zero => simp at ht hc; subst ht; subst hc; exact ⟨_, _, hx⟩
      | succ i => simp at ht⟩
    ·rw [if_neg h1] at hl; cases hl
theorem Cells.cons {t : TypeId} {l : List TypeId} {cs : List Value} (h : Cells enc P w base spare held (t :: l) cs) :
  ∃ c r, cs = c :: r ∧ (∃ n y, DataW.trod enc P w base spare held n t [c] = some y) ∧ Cells enc P w base spare held l r := by
 obtain ⟨h1, h2⟩ := h
 cases cs with
 | nil => simp at h1
 | cons c r => exact ⟨c, r, rfl, h2 0 t c rfl rfl, by simpa using h1, fun i t' c' ht hc => h2 (i + 1) t' c' (by simpa using ht) (by simpa using hc)⟩
theorem Cells.nil {cs : List Value} (h : Cells enc P w base spare held [] cs) : cs = [] := List.length_eq_zero_iff.1 h.1.symm
theorem Cells.int {t : TypeId} {k : IntKind} {l : List TypeId} {cs : List Value} (hu : P.underlying t = some (.int k)) (h : Cells enc P w base spare held (t :: l) cs) :
  ∃ (z : Int) (r : List Value), cs = .int k z :: r ∧ (Lit.int k z).wf = true ∧ Cells enc P w base spare held l r := by
 obtain ⟨c, r, rfl, ⟨n, y, hy⟩, hr⟩ := h.cons
 obtain ⟨z, e, -, wz⟩ := DataW.trod_int hu hy
 simp at e
 subst e
 exact ⟨z, r, rfl, wz, hr⟩
/-- A struct or an array by value, opened. -/
theorem open_flat {r : Reach} {b0 : Nat} {t : TypeId} {v : Value} {d : DataW H} {p : List MemPlace} {l : List TypeId} (n : Nat) (hl : leaves P n t = some l)
  (ht : (∃ fs, P.underlying t = some (.struct fs)) ∨ (∃ k e, P.underlying t = some (.array k e)))
  (hv : Value.okWide P w r b0 t v) (h : DataW.Trod enc P w base spare held t v d p) : ∃ cs : List Value, v = .agg cs.toArray ∧ Cells enc P w base spare held l cs := by
 obtain ⟨fuel, hf⟩ := h
 have hc := trod_flat n fuel t l _ _ hl hf
 unfold Value.okWide at hv
 rcases ht with ⟨fs, hu⟩ | ⟨k, e, hu⟩
 ·rw [hu] at hv
  obtain ⟨cs, rfl, -⟩ := hv
  exact ⟨cs.toList, by simp, hc⟩
 ·rw [hu] at hv
  obtain ⟨cs, rfl, -⟩ := hv
  exact ⟨cs.toList, by simp, hc⟩
end
end Go.Proofs.YtklppnknllbfnaaGreat
