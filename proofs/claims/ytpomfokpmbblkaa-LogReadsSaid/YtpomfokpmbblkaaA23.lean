/- Walks: a copy into a row of zeros of the call's own; the law's slots, one at a time. -/
import Derived.Test.YtpomfokpmbblkaaA22
import Derived.Laws.IdiomCopy
namespace Go.Proofs.Ytpomfokpmbblkaa
open Go.RowKit Go.Maps
set_option maxRecDepth 8000

theorem wp_copy_run {P : Program} (w : World) {o : Oper} {a : Act} {K : Act → World → Prop} {Q : Exit → Act → World → Prop} (s x : Operand) (t tn : TypeId)
    (ho : o.op = .call { callee := .builtin .copy, args := #[s, x], argTypes := #[t, tn] }) (vs vx : Value) (hs : a.eval s = vs) (hx : a.eval x = vx)
    (v' : Value) (w' : World) (hr : (Builtin.copy_ #[t, tn] o.type #[vs, vx]).run P w = .ok v' w') (h : K (a.put o.dst v') w') : o.wp P a w K Q := by
  unfold Oper.wp execOp
  simp only [ho, resolve, invoke, builtin, Sem.run_bind, Sem.run_pure, Result.andThen_ok, List.map_toArray, List.map_cons, List.map_nil, hs, hx, hr]
  exact h
theorem wpList_copy_run {P : Program} (w : World) {ops : Array Oper} {rest : List Oper} {o : Oper} {a : Act} {Q : Exit → Act → World → Prop} (hgd : o.guard = none) (s x : Operand) (t tn : TypeId)
    (ho : o.op = .call { callee := .builtin .copy, args := #[s, x], argTypes := #[t, tn] }) (vs vx : Value) (hs : a.eval s = vs) (hx : a.eval x = vx)
    (v' : Value) (w' : World) (hr : (Builtin.copy_ #[t, tn] o.type #[vs, vx]).run P w = .ok v' w') (h : wpList P ops Q rest (a.put o.dst v') w') : wpList P ops Q (o :: rest) a w :=
  wpList_plain hgd fun _ hK => wp_copy_run w s x t tn ho vs vx hs hx v' w' hr (hK _ _ h)
theorem set_drop {l : List Nat} {o x k : Nat} (h : o < k) : (l.set o x).drop k = l.drop k := by
  rw [List.drop_set, if_pos h]
theorem Own.stores {base g n c : Nat} : ∀ (xs : List Nat) (o : Nat) (l : List Nat) (w : World), Own w base (.slice (some ⟨g, 0, none⟩) n c) l → (∀ b ∈ xs, b < 256) → o + xs.length ≤ l.length →
    Own (w.setCells g o (cells xs)) base (.slice (some ⟨g, 0, none⟩) n c) (l.take o ++ xs ++ l.drop (o + xs.length)) ∧ w.grownBy (w.setCells g o (cells xs)) (some g)
  | [], o, l, w, h, _, _ => ⟨by simpa [cells, World.setCells] using h, ⟨rfl, rfl, rfl, Nat.le_refl _, fun _ _ _ => rfl⟩⟩
  | x :: xs, o, l, w, h, hx, hl => by
    have hx0 := hx x (by simp)
    have ea : (⟨g, 0, none⟩ : Addr).add o = ⟨g, o, none⟩ := by
      unfold Addr.add
      by_cases hk : o = 0 <;> simp [hk]
    have h1 := h.store o x hx0
    rw [ea] at h1
    have hlen : o + 1 + xs.length ≤ (l.set o x).length := by simp at hl; rw [List.length_set]; omega
    have ih := Own.stores xs (o + 1) (l.set o x) _ h1.1 (fun b hb => hx b (by simp [hb])) hlen
    have ho : o < l.length := by simp at hl; omega
    have e1 : (l.set o x).take (o + 1) = l.take o ++ [x] := by
      rw [List.take_add_one, List.take_set, List.set_eq_of_length_le (by simp; omega), List.getElem?_set_self ho]; rfl
    have e2 : (l.set o x).drop (o + 1 + xs.length) = l.drop (o + (x :: xs).length) := by
      rw [set_drop (by omega), List.length_cons]; congr 1; omega
    have e3 : w.setCells g o (cells (x :: xs)) = (w.setCell ⟨g, o, none⟩ (.int .u8 (x : Int))).setCells g (o + 1) (cells xs) := rfl
    rw [e1, e2] at ih
    rw [e3]
    refine ⟨by simpa using ih.1, ?_⟩
    have hs := (h.row.stored o (.int .u8 (x : Int))).2
    have ih2 := ih.2
    exact ⟨ih2.os.trans hs.os, ih2.tape.trans hs.tape, ih2.output.trans hs.output, Nat.le_trans hs.size ih2.size, fun k hk hne => (ih2.block k (Nat.lt_of_lt_of_le hk hs.size) hne).trans (hs.block k hk hne)⟩


/-- 'copy(b, x)', b of 64 zeros. -/
theorem run_copyin {w : World} {base g L c : Nat} {A : Option Addr} {l : List Nat} (h : Own w base (.slice (some ⟨g, 0, none⟩) 64 64) (List.replicate 64 0)) (hr : Rd w L A l) :
    ∃ s v9 wc, (Builtin.copy_ #[42, 42] 3 #[.slice (some ⟨g, 0, none⟩) 64 64, .slice A l.length c]).run Try.prog w = .ok v9 wc ∧ s.length = 64 ∧ Own wc base (.slice (some ⟨g, 0, none⟩) 64 64) s ∧ w.grownBy wc (some g) := by
  obtain ⟨i, hi, hz, hs, hby⟩ := info_parts u8_row
  rcases Nat.eq_zero_or_pos l.length with h0 | h0
  · have hrun := run_copy_none (P := Try.prog) w 42 42 3 5 (some ⟨g, 0, none⟩) A 64 64 l.length c Try.underlying42 (by rw [hi]; simp [hs]) (by rw [h0]; rfl)
    exact ⟨_, _, _, hrun, by simp, h, ⟨rfl, rfl, rfl, Nat.le_refl _, fun _ _ _ => rfl⟩⟩
  · obtain ⟨p, rfl⟩ : ∃ p, A = some p := by
      obtain ⟨q, e, _⟩ := hr.get h0
      exact ⟨q, e⟩
    have hlen : (l.take 64).length = Nat.min l.length 64 := by rw [List.length_take]; exact Nat.min_comm _ _
    have hle : (l.take 64).length ≤ 64 := by rw [List.length_take]; omega
    have hrun := run_copy_cells (P := Try.prog) w 42 42 3 5 g 0 64 64 p l.length c (cells (l.take 64)) Try.underlying42 (by rw [hi]; simp [hs]) (by rw [cells_length, hlen])
      (fun j v hv => by
        rcases Nat.lt_or_ge j (l.take 64).length with hj | hj
        · rw [cells_get hj] at hv
          have hj' : j < l.length := by rw [List.length_take] at hj; omega
          obtain ⟨q, e, _, hc, _⟩ := hr.get hj'
          cases e
          rw [List.getElem_take] at hv
          rw [hc]; exact hv
        · rw [List.getElem?_eq_none (by simpa using hj)] at hv; cases hv)
      (fun j hj => by
        have hj' : j < (List.replicate 64 0).length := by rw [cells_length] at hj; simp; omega
        rw [Nat.zero_add, h.row.cellAt j (by simpa using hj'), cells_get hj']; rfl)
      (fun j hj => h.row.frozenAt _) (one_cells _)
    have ho := Own.stores (l.take 64) 0 _ w h (fun b hb => hr.1 b (List.mem_of_mem_take hb)) (by rw [List.length_replicate]; omega)
    exact ⟨_, _, _, hrun, by simp only [List.length_append, List.length_drop, List.length_replicate, List.length_take]; omega, ho.1, ho.2⟩
end Go.Proofs.Ytpomfokpmbblkaa
