/- An insertion by 'append(l[:k], append([x], l[k:]...)...)', at a row of the call's own. -/
import Derived.Test.YthinjaddebfdhaaD2
import Derived.Laws.Slices
namespace Go.Proofs.Ythinjaddebfdhaa
open Go.RowKit

theorem add_zero_ (p : Addr) : p.add 0 = p := by simp [Addr.add]
theorem sliced_h (A : Option Addr) (k cc : Nat) : sliced A 0 k cc 1 = .slice A k cc := by
  unfold sliced
  cases A with
  | none => simp
  | some p => simp [add_zero_]

theorem exec_sliceH {ev : Operand → Value} {o : Oper} (x t : Operand) (ho : o.op = .slice 56 x none (some t) none) {A : Option Addr} {n k cc : Nat} {w : World} (hx : ev x = .slice A n cc) (ht : ev t = .int .i64 (k : Int)) (hk : k ≤ cc) :
    (execOp ev o).run Try.prog w = .ok (.value (.slice A k cc)) w := by
  have hr : (Instr.slice 56 (.slice A n cc) none (some (.int .i64 (k : Int))) none).run Try.prog w = .ok (.slice A k cc) w := by
    rw [run_slice_h w 56 A n cc (by kernel_rfl) .i64 (k : Int) (by omega) (by omega), show Try.prog.elem 56 = 24 by kernel_rfl, Try.sizeOf24, Int.toNat_natCast]
    rw [← sliced_h A k cc]; rfl
  unfold execOp
  simp only [ho, Option.map_some, Option.map_none, hx, ht, Sem.run_bind, run_sliceAt_slice w 56 _ _ _ _ (show Try.prog.underlying 56 = some (.slice (Try.prog.elem 56)) by kernel_rfl), hr]
  rfl
theorem exec_sliceL {ev : Operand → Value} {o : Oper} (x t : Operand) (ho : o.op = .slice 56 x (some t) none none) {A : Option Addr} {n k cc : Nat} {w : World} (hx : ev x = .slice A n cc) (ht : ev t = .int .i64 (k : Int)) (hk : k ≤ n) :
    (execOp ev o).run Try.prog w = .ok (.value (sliced A k n cc 1)) w := by
  have hr : (Instr.slice 56 (.slice A n cc) (some (.int .i64 (k : Int))) none none).run Try.prog w = .ok (sliced A k n cc 1) w := by
    rw [run_slice_l w 56 A n cc (by kernel_rfl) .i64 (k : Int) (by omega) (by omega), show Try.prog.elem 56 = 24 by kernel_rfl, Try.sizeOf24, Int.toNat_natCast]
    rfl
  unfold execOp
  simp only [ho, Option.map_some, Option.map_none, hx, ht, Sem.run_bind, run_sliceAt_slice w 56 _ _ _ _ (show Try.prog.underlying 56 = some (.slice (Try.prog.elem 56)) by kernel_rfl), hr]
  rfl

theorem run_append_keeps {P : Program} (w : World) (base : Nat) (t ty e : TypeId) (i : TypeInfo) (z : Value) (size bytes : Nat) (ht : P.underlying t = some (.slice e)) (hi : P.info? e = some i) (hz : i.zero = some z)
    (hsize : i.size = size) (hby : i.bytes = bytes) (hzs : z.cells.size = size) (hsz : 0 < size)
    (v : Value) (n : Nat) (xs : List Value) (hown : w.ownsRow base e size v n xs)
    (a : Addr) (m c : Nat) (news : List Value) (hl : news.length = m * size) (hnews : ∀ j u, news[j]? = some u → w.cell? (a.add j) = some u) (h1 : ∀ u ∈ news, u.oneCell' = true)
    (h63 : n + m ≤ maxLen) (hbytes : (n + m) * bytes ≤ 140737488355328) (hbase : base ≤ w.heap.size) :
    ∃ v' w', (Builtin.append_ #[t, t] ty #[v, .slice (some a) m c]).run P w = .ok v' w' ∧ w'.ownsRow base e size v' (n + m) (xs ++ news) ∧ w.grownBy w' v.ownBlock ∧
      (v'.ownBlock = v.ownBlock ∨ v'.ownBlock = some w.heap.size) ∧ w'.ownsRow base e size v n xs := by
  obtain ⟨v', w', hrun, h2, h3, _, h5⟩ := run_append_own_at (P := P) w base t ty e i z size bytes ht hi hz hsize hby hzs hsz v n xs hown a m c news hl hnews h1 h63 hbytes hbase
  refine ⟨v', w', hrun, h2, h3, h5, ?_⟩
  have hown' := hown
  subst hsize
  subst hby
  rcases hown.2 with ⟨rfl, rfl⟩ | ⟨g, cap, cur, rfl, hbg, hg, hnc, hcm, hcs, htake⟩
  · have : xs = [] := List.eq_nil_of_length_eq_zero (by simpa using hown.1)
    subst this
    exact World.ownsRow_nil _ _ _ _
  · by_cases hroom : n + m ≤ cap
    · have hfit : n * i.size + news.length ≤ cur.size := by rw [hl, hcs, ← Nat.add_mul]; exact Nat.mul_le_mul_right _ hroom
      have hr := run_append_room (P := P) w t ty e i ht hi g n cap cur hg a m c news hl hnews h1 hroom hfit
      rw [hrun] at hr
      injection hr with e1 e2
      subst e2
      refine ⟨hown.1, .inr ⟨g, cap, _, rfl, hbg, setRow_heap w g cur _ e _ hg, hnc, hcm, ?_, ?_⟩⟩
      · simp only [List.size_toArray, List.length_append, List.length_take, List.length_drop, Array.length_toList]
        omega
      · have hxl := hown.1
        rw [htake, ← hxl, List.append_assoc]
        exact List.take_left
    · have holds : ∀ j u, xs[j]? = some u → w.cell? ((⟨g, 0, none⟩ : Addr).add j) = some u := hown.cells (g := g) rfl
      have hr := run_append_grow (P := P) w t ty e i z ht hi hz ⟨g, 0, none⟩ n cap xs hown.1 holds a m c news hl hnews (by omega) (by simp only [maxLen] at h63; omega) (growslice_fits (by omega) hbytes)
      rw [hrun] at hr
      injection hr with e1 e2
      subst e2
      exact World.ownsRow.alloc (w := w.drew) hown' _

section
variable {w w' : World} {base : Nat} {l m : List Nat} {A : Option Addr} {n cc : Nat}
theorem OwnU.parts (h : OwnU w base (.slice A n cc) l) : n = l.length ∧ n ≤ cc ∧ ((A = none ∧ l = [] ∧ cc = 0) ∨ ∃ g, A = some ⟨g, 0, none⟩ ∧ base ≤ g ∧ g < w.heap.size ∧ ∀ k (hk : k < l.length), w.cell? ⟨g, k, none⟩ = some (.int .u64 (l[k] : Nat))) := by
  have hl := h.1
  rcases h.2 with ⟨h0, h1⟩ | ⟨g, cap, cur, h0, hb, hg, hn, hm, hs, ht⟩
  · injection h0 with a1 a2 a3
    subst a1; subst a2; subst a3
    exact ⟨h1.symm, Nat.le_refl _, .inl ⟨rfl, List.eq_nil_of_length_eq_zero h1, rfl⟩⟩
  · injection h0 with a1 a2 a3
    subst a1; subst a2; subst a3
    exact ⟨rfl, hn, .inr ⟨g, rfl, hb, lt_of_block hg, fun k hk => h.get hk⟩⟩
/-- The first k of a row. -/
theorem OwnU.take (h : OwnU w base (.slice A n cc) l) (k : Nat) (hk : k ≤ l.length) : OwnU w base (.slice A k cc) (l.take k) := by
  have hkl : (l.take k).length = k := by rw [List.length_take]; omega
  unfold OwnU at *
  rw [hkl]
  rcases h.2 with ⟨h0, h1⟩ | ⟨g, cap, cur, h0, hb, hg, hn, hm, hs, ht⟩
  · injection h0 with a1 a2 a3
    subst a1; subst a2; subst a3
    have : k = 0 := by omega
    subst this
    exact ⟨by simp [ints], .inl ⟨rfl, rfl⟩⟩
  · injection h0 with a1 a2 a3
    subst a1; subst a2; subst a3
    refine ⟨by simp [ints]; omega, .inr ⟨g, cc, cur, rfl, hb, hg, by omega, hm, hs, ?_⟩⟩
    have h2 := congrArg (List.take k) ht
    rw [List.take_take] at h2
    simp only [Nat.mul_one] at h2 ⊢
    rw [Nat.min_eq_left (by omega)] at h2
    rw [h2]
    simp [ints, List.map_take]
theorem info24 : ∃ i, Try.prog.info? 24 = some i ∧ i.zero = some (.int .u64 0) ∧ i.size = 1 ∧ i.bytes = 8 :=
  info_parts (show (Try.prog.info? 24).map (fun i => (i.zero, i.size, i.bytes)) = some (some (.int .u64 0), 1, 8) by kernel_rfl)

/-- 'append' of values that lie at an address. -/
theorem run_appU {v : Value} (ty : TypeId) (h : OwnU w base v l) (a : Addr) (c : Nat) (hc : ∀ j (hj : j < m.length), w.cell? (a.add j) = some (.int .u64 (m[j] : Nat))) (hbase : base ≤ w.heap.size) (hn : l.length + m.length ≤ 100000) :
    ∃ v' w', (Builtin.append_ #[56, 56] ty #[v, .slice (some a) m.length c]).run Try.prog w = .ok v' w' ∧ OwnU w' base v' (l ++ m) ∧ w.grownBy w' v.ownBlock ∧ Below base w w' ∧ OwnU w' base v l := by
  obtain ⟨i, hi, hz, hs, hby⟩ := info24
  obtain ⟨v', w', hrun, h2, h3, _, h5⟩ := run_append_keeps (P := Try.prog) w base 56 ty 24 i _ 1 8 Try.underlying56 hi hz hs hby rfl (by omega) v l.length _ h a m.length c ((ints m).map (Value.int .u64)) (by simp [ints])
    (fun j u hu => by
      simp only [ints, List.map_map, List.getElem?_map] at hu
      cases hj : m[j]? with
      | none => rw [hj] at hu; cases hu
      | some y =>
        rw [hj] at hu
        simp at hu
        subst hu
        obtain ⟨hj2, rfl⟩ := List.getElem?_eq_some_iff.1 hj
        exact hc j hj2) (by intro u hu; simp [ints] at hu; obtain ⟨y, _, rfl⟩ := hu; rfl) (by simp only [maxLen]; omega) (by omega) hbase
  refine ⟨v', w', hrun, ?_, h3, (Below.refl base w).grown h3 hbase h.low, h5⟩
  unfold OwnU ints at *
  simpa using h2
theorem run_appU_none {v : Value} (ty : TypeId) (h : OwnU w base v l) (c : Nat) : (Builtin.append_ #[56, 56] ty #[v, .slice none 0 c]).run Try.prog w = .ok v w := by
  obtain ⟨i, hi, hz, hs, hby⟩ := info24
  rcases h.2 with ⟨rfl, _⟩ | ⟨g, cap, cur, rfl, _, _, hnc, _⟩
  · simp [Builtin.append_, run_underlying Try.underlying56, sizeOf, typeInfo, hi, Builtin.lenOf, Builtin.firstCells]
  · simp [Builtin.append_, run_underlying Try.underlying56, sizeOf, typeInfo, hi, Builtin.lenOf, Builtin.firstCells, hnc, loadCells, storeCells]

theorem OwnU.single {b x : Nat} (hb : Blk w b #[.int .u64 x] 24) : OwnU w b (.slice (some ⟨b, 0, none⟩) 1 1) [x] :=
  ⟨rfl, .inr ⟨b, 1, #[.int .u64 x], rfl, Nat.le_refl _, hb, Nat.le_refl _, by decide, rfl, rfl⟩⟩

theorem run_ins1 (ty : TypeId) (h : OwnU w base (.slice A n cc) l) (k : Nat) (hk : k ≤ l.length) (b x : Nat) (h1 : OwnU w b (.slice (some ⟨b, 0, none⟩) 1 1) [x]) (hbb : base ≤ b)
    (hlt : ∀ g, (Value.slice A n cc).ownBlock = some g → g < b) (hl : l.length ≤ 1000) :
    ∃ v1 w1, (Builtin.append_ #[56, 56] ty #[.slice (some ⟨b, 0, none⟩) 1 1, sliced A k n cc 1]).run Try.prog w = .ok v1 w1 ∧ OwnU w1 b v1 (x :: l.drop k) ∧ OwnU w1 base (.slice A n cc) l ∧ Below base w w1 ∧ OwnU w1 b (.slice (some ⟨b, 0, none⟩) 1 1) [x] := by
  have hbl : b < w.heap.size := (World.ownsRow.lt h1 b rfl).2
  obtain ⟨hn, hnc, hp⟩ := h.parts
  rcases hp with ⟨rfl, rfl, rfl⟩ | ⟨g, rfl, hg1, hg2, hcell⟩
  · simp at hk
    subst hk
    simp at hn
    subst hn
    have e1 : sliced none 0 0 0 1 = .slice none 0 0 := rfl
    rw [e1]
    exact ⟨_, w, run_appU_none ty h1 0, by simpa using h1, h, Below.refl _ _, h1⟩
  · have hgb : g < b := hlt g rfl
    have hd : (l.drop k).length = n - k := by rw [List.length_drop, hn]
    obtain ⟨a, ha1, ha2⟩ : ∃ a, sliced (some ⟨g, 0, none⟩) k n cc 1 = .slice (some a) (l.drop k).length (cc - k) ∧ (l.drop k = [] ∨ a = ⟨g, k, none⟩) := by
      unfold sliced
      by_cases e1 : cc = k
      · refine ⟨⟨g, 0, none⟩, by rw [if_pos e1, hd], .inl (List.eq_nil_of_length_eq_zero (by omega))⟩
      · refine ⟨(⟨g, 0, none⟩ : Addr).add (k * 1), by rw [if_neg e1, hd]; rfl, .inr ?_⟩
        unfold Addr.add
        by_cases h0 : k = 0
        · subst h0; simp
        · simp [h0]
    rw [ha1]
    obtain ⟨v1, w1, hrun, ho, hgr, hbel, hk1⟩ := run_appU (m := l.drop k) ty h1 a (cc - k) (fun j hj => by
      rcases ha2 with h0 | rfl
      · rw [h0] at hj; simp at hj
      · have e2 : (⟨g, k, none⟩ : Addr).add j = ⟨g, k + j, none⟩ := by
          unfold Addr.add
          by_cases h0 : j = 0
          · subst h0; simp
          · simp [h0]
        rw [e2, hcell (k + j) (by simp at hj; omega)]
        simp) (Nat.le_of_lt hbl) (by simp; omega)
    refine ⟨v1, w1, hrun, by simpa using ho, ?_, hbel.mono hbb, hk1⟩
    refine h.kept hgr (.inr ?_)
    intro e
    have h5 : (Value.slice (some ⟨g, 0, none⟩) n cc).ownBlock = some g := rfl
    rw [h5] at e
    have h6 : (Value.slice (some ⟨b, 0, none⟩) 1 1).ownBlock = some b := rfl
    rw [h6] at e
    injection e with e
    omega
theorem run_ins2 (ty : TypeId) (h : OwnU w base (.slice A n cc) l) (k : Nat) (hk : k ≤ l.length) {b : Nat} {v1 : Value} (h1 : OwnU w b v1 m) (hm : m ≠ []) (hbase : base ≤ w.heap.size) (hl : l.length + m.length ≤ 1000) :
    ∃ v2 w2, (Builtin.append_ #[56, 56] ty #[.slice A k cc, v1]).run Try.prog w = .ok v2 w2 ∧ OwnU w2 base v2 (l.take k ++ m) ∧ Below base w w2 := by
  have ht := h.take k hk
  obtain ⟨A1, n1, c1, rfl⟩ : ∃ A1 n1 c1, v1 = .slice A1 n1 c1 := by
    rcases h1.form with ⟨rfl, _⟩ | ⟨g, c, rfl, _⟩ <;> exact ⟨_, _, _, rfl⟩
  obtain ⟨hn1, _, hp⟩ := h1.parts
  rcases hp with ⟨_, h0, _⟩ | ⟨g1, rfl, _, _, hcell⟩
  · exact absurd h0 hm
  · subst hn1
    obtain ⟨v2, w2, hrun, ho, _, hbel, _⟩ := run_appU (m := m) ty ht ⟨g1, 0, none⟩ c1 (fun j hj => by
      have e2 : (⟨g1, 0, none⟩ : Addr).add j = ⟨g1, j, none⟩ := by
        unfold Addr.add
        by_cases h0 : j = 0
        · subst h0; simp
        · simp [h0]
      rw [e2]; exact hcell j hj) hbase (by rw [List.length_take]; omega)
    exact ⟨v2, w2, hrun, ho, hbel⟩
end
end Go.Proofs.Ythinjaddebfdhaa
