/- Walks: FrameTorn, three pieces whose marks are unlike. -/
import Derived.Test.YtipijjlajhofkaaW21
import Derived.Laws.CopyOwn
import Derived.Deep.RegionHeld3
namespace Go.Proofs.Ytipijjlajhofkaa
open Go.RowKit

theorem wp_copy_run {P : Program} (w : World) {o : Oper} {a : Act} {K : Act → World → Prop} {Q : Exit → Act → World → Prop} (s x : Operand) (t tn : TypeId)
    (ho : o.op = .call { callee := .builtin .copy, args := #[s, x], argTypes := #[t, tn] }) (vs vx : Value) (hs : a.eval s = vs) (hx : a.eval x = vx)
    (v' : Value) (w' : World) (hr : (Builtin.copy_ #[t, tn] o.type #[vs, vx]).run P w = .ok v' w') (h : K (a.put o.dst v') w') : o.wp P a w K Q := by
  unfold Oper.wp execOp
  simp only [ho, resolve, invoke, builtin, Sem.run_bind, Sem.run_pure, Result.andThen_ok, List.map_toArray, List.map_cons, List.map_nil, hs, hx, hr]
  exact h
theorem wpList_copy_run {P : Program} (w : World) {ops : Array Oper} {rest : List Oper} {o : Oper} {a : Act} {Q : Exit → Act → World → Prop} (hgd : o.guard = none) (s x : Operand) (t tn : TypeId)
    (ho : o.op = .call { callee := .builtin .copy, args := #[s, x], argTypes := #[t, tn] }) (vs vx : Value) (hs : a.eval s = vs) (hx : a.eval x = vx)
    (v' : Value) (w' : World) (hr : (Builtin.copy_ #[t, tn] o.type #[vs, vx]).run P w = .ok v' w') (h : wpList P ops Q rest (a.put o.dst v') w') : wpList P ops Q (o :: rest) a w :=
  wpList_plain hgd fun _ hK => wp_copy_run w s x t tn ho vs vx hs hx v' w' hr (hK _ _ h)

/-- How much of a sector is written. -/
def cutN (q : Int) (n : Nat) : Nat := ((IntKind.u64.wrap q) % ((n : Int) + 1)).toNat
theorem cutN_le (q : Int) (n : Nat) : cutN q n ≤ n := by
  unfold cutN
  have := Int.emod_lt_of_pos (IntKind.u64.wrap q) (show (0 : Int) < (n : Int) + 1 by omega)
  omega
theorem cutN_eq (q : Int) (n : Nat) (hn : n ≤ 4096) : wrap64 ((IntKind.u64.wrap q).tmod ((n : Int) + 1)) = (cutN q n : Int) := by
  unfold cutN
  have h0 : 0 ≤ IntKind.u64.wrap q := by rw [IntKind.wrap_u64]; omega
  rw [Int.tmod_eq_emod_of_nonneg h0]
  have hm0 := Int.emod_nonneg (IntKind.u64.wrap q) (show ((n : Int) + 1) ≠ 0 by omega)
  have hm1 := Int.emod_lt_of_pos (IntKind.u64.wrap q) (show (0 : Int) < (n : Int) + 1 by omega)
  generalize IntKind.u64.wrap q % ((n : Int) + 1) = z at *
  unfold wrap64
  omega

/-- What stands there behind so many pieces, and the whole sectors among them. -/
def nowOf (n : Nat) (z : Bool) (sec : Nat → List Nat) (kk : Nat → Nat) : Nat → List Nat
  | 0 => List.replicate n 0
  | i + 1 => if i = 0 ∧ z = true then nowOf n z sec kk i else mix (kk i) (sec i) (nowOf n z sec kk i)
def wholeOf (z : Bool) (sec : Nat → List Nat) : Nat → List (List Nat)
  | 0 => []
  | i + 1 => if i = 0 ∧ z = true then wholeOf z sec i else wholeOf z sec i ++ [sec i]
def kkOf (n : Nat) (Q : Nat → Int) (i : Nat) : Nat := if i = 0 then n else cutN (Q i) n

theorem nowOf_length {n : Nat} {z : Bool} {sec : Nat → List Nat} {kk : Nat → Nat} : ∀ {i : Nat}, (∀ j, j < i → ¬ (j = 0 ∧ z = true) → (sec j).length = n) → (∀ j, kk j ≤ n) → (nowOf n z sec kk i).length = n
  | 0, _, _ => by simp [nowOf]
  | i + 1, h, hk => by
    have ih := nowOf_length (i := i) (fun j hj => h j (by omega)) hk
    unfold nowOf
    split
    · exact ih
    · rename_i hz
      exact mix_length (h i (by omega) hz) ih (hk i)

theorem fits_bad (n m : Int) (A : Option Addr) (k c : Nat) (hk : okSize n = true) (h : ¬ (1 ≤ m ∧ m ≤ 4611686018427387904 ∧ (k : Int) ≤ n - 36)) :
    ∃ E : Int, E ≠ 0 ∧ ∀ w, Calls Try.prog 12 #[.int .i64 n, .int .i64 m, .slice A k c] w fun e w' => e = .returned (.tuple #[.slice none 0 0, .int .i64 E]) ∧ w = w' := by
  by_cases hm : m < 1 ∨ 4611686018427387904 < m
  · exact ⟨2, by decide, fun w => Build_mark n m A k c w hk hm⟩
  · exact ⟨9, by decide, fun w => Build_long n m A k c w hk (by omega) (by omega) (by omega)⟩

theorem nowOf_step {n : Nat} {z : Bool} {sec : Nat → List Nat} {kk : Nat → Nat} {i : Nat} (h : ¬ (i = 0 ∧ z = true)) : nowOf n z sec kk (i + 1) = mix (kk i) (sec i) (nowOf n z sec kk i) := if_neg h
theorem wholeOf_step {z : Bool} {sec : Nat → List Nat} {i : Nat} (h : ¬ (i = 0 ∧ z = true)) : wholeOf z sec (i + 1) = wholeOf z sec i ++ [sec i] := if_neg h
theorem wholeOf_length {z : Bool} {sec : Nat → List Nat} : ∀ i, (wholeOf z sec i).length ≤ i
  | 0 => by simp [wholeOf]
  | i + 1 => by
    have := wholeOf_length (z := z) (sec := sec) i
    unfold wholeOf
    split
    · omega
    · simp; omega

/-- One piece: the copy, the string, the row of whole sectors. -/
theorem piece_step {w wr w' : World} {cs : Array Value} {n L2 c2 kk : Nat} {cur s : List Nat} {ss : List ByteArray} {v8 : Value} {p2 : Addr}
    (hn : Own wr (w.heap.size + 1) (.slice (some ⟨w.heap.size + 1, 0, none⟩) n n) cur) (hw : Strs wr (w.heap.size + 2) v8 ss)
    (hm : Blk wr w.heap.size cs 41 ∧ Below w.heap.size w wr ∧ w.heap.size + 1 < wr.heap.size) (hwr : Below wr.heap.size wr w') (hL : wr.heap.size ≤ L2)
    (ho : Own w' L2 (.slice (some p2) n c2) s) (hs : s.length = n) (hk : kk ≤ n) (hss : ss.length ≤ 1000) :
    ∃ wc v3 w3, (Builtin.copy_ #[22, 22] 3 #[.slice (some ⟨w.heap.size + 1, 0, none⟩) n n, .slice (some p2) kk c2]).run Try.prog w' = .ok (.int .i64 kk) wc ∧
      (convert 22 9 (.slice (some p2) n c2)).run Try.prog wc = .ok (.string (str s)) wc ∧
      (Builtin.append_ #[42, 42] 42 #[v8, .slice (some ⟨wc.heap.size, 0, none⟩) 1 1]).run Try.prog (wc.alloc (.cells #[.string (str s)] 9)) = .ok v3 w3 ∧
      Own w3 (w.heap.size + 1) (.slice (some ⟨w.heap.size + 1, 0, none⟩) n n) (mix kk s cur) ∧ Strs w3 (w.heap.size + 2) v3 (ss ++ [str s]) ∧
      (Blk w3 w.heap.size cs 41 ∧ Below w.heap.size w w3 ∧ w.heap.size + 1 < w3.heap.size) := by
  have hn' := hn.below hwr
  have hr := ho.form
  obtain ⟨A2, c2', e2, r2⟩ := hr
  injection e2 with e3 e4 e5
  subst e3 e5
  have hlow := ho.low p2.block rfl
  have hcp := run_copyto 3 hn' (by exact hn.len) _ p2 (s.take kk) kk c2 (r2.take_ kk) (by simp; omega) hk
  generalize w'.setCells (w.heap.size + 1) 0 (cells (s.take kk)) = wc at *
  obtain ⟨hrun, ho1, hg⟩ := hcp
  have hoc : Own wc L2 (.slice (some p2) n c2) s := ⟨ho.1, World.ownsRow.kept ho.2 hg (.inr (by simp [Value.ownBlock]; omega))⟩
  have hwc : Strs wc (w.heap.size + 2) v8 ss := (hw.below hwr).keep hg (by
    cases e : v8.ownBlock with
    | none => exact .inl rfl
    | some k => exact .inr (by have := hw.low k e; simp; omega))
  have hbc : Blk wc w.heap.size cs 41 := (hg.block _ (by have := hwr.size; omega) (by simp)).trans (hm.1.grew hwr)
  have hsz : w.heap.size + 2 ≤ wc.heap.size := by have := hwr.size; have := hg.size; omega
  have hbel : Below w.heap.size w wc := (grow hm.2.1 hwr).trans ⟨hg.os, hg.tape, hg.output, by have := hg.size; have := hwr.size; omega, fun j hj => hg.block j (by have := hwr.size; omega) (by simp; omega)⟩
  obtain ⟨A3, c3, e3, r3⟩ := hoc.form
  injection e3 with e6 e7 e8
  subst e6 e8
  have hst := run_str c2 r3
  rw [hs] at hst
  obtain ⟨v3, w3, hrun2, hs3, hb3⟩ := run_strs 42 hwc (str s) hsz hss
  refine ⟨wc, v3, w3, hrun, hst, hrun2, ho1.under (B := w.heap.size + 2) (by omega) hb3, hs3, hbc.below hb3 (by omega), hbel.trans (hb3.mono (by omega)), ?_⟩
  have := hb3.size
  omega

/-- What 'Read' tells of what stands there. -/
theorem torn_tells (n : Nat) (z : Bool) (M Q : Nat → Int) (L : Nat → List Nat) (hn1 : 64 ≤ n)
    (h01 : M 0 ≠ M 1) (h02 : M 0 ≠ M 2) (h12 : M 1 ≠ M 2)
    (hg : ∀ j, j < 3 → ¬ (j = 0 ∧ z = true) → 1 ≤ M j ∧ M j ≤ 4611686018427387904 ∧ ((L j).length : Int) ≤ n - 36) (hb : ∀ j, j < 3 → ∀ b ∈ L j, b < 256) :
    (nowOf n z (fun j => sector n (M j).toNat (L j)) (kkOf n Q) 3).length = n ∧
    ((∀ b ∈ nowOf n z (fun j => sector n (M j).toNat (L j)) (kkOf n Q) 3, b < 256) →
    (∀ s ∈ wholeOf z (fun j => sector n (M j).toNat (L j)) 3, (∀ b ∈ s, b < 256) ∧ (nowOf n z (fun j => sector n (M j).toNat (L j)) (kkOf n Q) 3 = s → readOk (nowOf n z (fun j => sector n (M j).toNat (L j)) (kkOf n Q) 3) = true)) ∧
    ((∀ s ∈ wholeOf z (fun j => sector n (M j).toNat (L j)) 3, ¬ nowOf n z (fun j => sector n (M j).toNat (L j)) (kkOf n Q) 3 = s) → readOk (nowOf n z (fun j => sector n (M j).toNat (L j)) (kkOf n Q) 3) = false)) := by
  have hsl : ∀ j, j < 3 → ¬ (j = 0 ∧ z = true) → (sector n (M j).toNat (L j)).length = n := fun j hj hz => sector_length (by have := (hg j hj hz).2.2; omega)
  have hrd : ∀ j, j < 3 → ¬ (j = 0 ∧ z = true) → readOk (sector n (M j).toNat (L j)) = true := fun j hj hz => by
    have := hg j hj hz
    exact (sector_reads n (M j).toNat (L j) hn1 (by omega) (by omega) (by omega) (hb j hj)).1
  have hkk : ∀ j, kkOf n Q j ≤ n := fun j => by
    unfold kkOf
    split
    · exact Nat.le_refl n
    · exact cutN_le _ _
  have hnl := nowOf_length (n := n) (z := z) (kk := kkOf n Q) (i := 3) (sec := fun j => sector n (M j).toNat (L j)) hsl hkk
  refine ⟨hnl, fun hlt => ⟨fun s hs => ?_, fun hno => ?_⟩⟩
  · have : ∃ j, j < 3 ∧ ¬ (j = 0 ∧ z = true) ∧ s = sector n (M j).toNat (L j) := by
      cases z with
      | true =>
        have : s = sector n (M 1).toNat (L 1) ∨ s = sector n (M 2).toNat (L 2) := by simpa [wholeOf] using hs
        rcases this with e | e
        · exact ⟨1, by omega, by omega, e⟩
        · exact ⟨2, by omega, by omega, e⟩
      | false =>
        have : s = sector n (M 0).toNat (L 0) ∨ s = sector n (M 1).toNat (L 1) ∨ s = sector n (M 2).toNat (L 2) := by simpa [wholeOf] using hs
        rcases this with e | e | e
        · exact ⟨0, by omega, by simp, e⟩
        · exact ⟨1, by omega, by omega, e⟩
        · exact ⟨2, by omega, by omega, e⟩
    obtain ⟨j, hj, hz, rfl⟩ := this
    exact ⟨sector_lt (hb j hj), fun e => by rw [e]; exact hrd j hj hz⟩
  · cases hc : readOk (nowOf n z (fun j => sector n (M j).toNat (L j)) (kkOf n Q) 3)
    · rfl
    exfalso
    obtain ⟨m, hm, hm', ea, eb⟩ := ok_ends hlt hnl hn1 hc
    have g1 := hg 1 (by omega) (by omega)
    have g2 := hg 2 (by omega) (by omega)
    have k1 : kkOf n Q 1 = cutN (Q 1) n := rfl
    have k2 : kkOf n Q 2 = cutN (Q 2) n := rfl
    have e3 : nowOf n z (fun j => sector n (M j).toNat (L j)) (kkOf n Q) 3 = mix (cutN (Q 2) n) (sector n (M 2).toNat (L 2)) (mix (cutN (Q 1) n) (sector n (M 1).toNat (L 1)) (nowOf n z (fun j => sector n (M j).toNat (L j)) (kkOf n Q) 1)) := by
      rw [nowOf_step (by omega), nowOf_step (by omega), k1, k2]
    have l1 := hsl 1 (by omega) (by omega)
    have l2 := hsl 2 (by omega) (by omega)
    have e1 : z = true → nowOf n z (fun j => sector n (M j).toNat (L j)) (kkOf n Q) 1 = List.replicate n 0 := fun hz => by subst hz; rfl
    have e0 : z = false → nowOf n z (fun j => sector n (M j).toNat (L j)) (kkOf n Q) 1 = sector n (M 0).toNat (L 0) := fun hz => by
      subst hz
      have l0 := hsl 0 (by omega) (by simp)
      show mix n (sector n (M 0).toNat (L 0)) _ = _
      unfold mix
      rw [List.take_of_length_le (by omega)]
      simp [nowOf]
    have g0 : z = false → 1 ≤ M 0 ∧ M 0 ≤ 4611686018427387904 ∧ ((L 0).length : Int) ≤ n - 36 := fun hz => hg 0 (by omega) (by simp [hz])
    have l0 := nowOf_length (n := n) (z := z) (kk := kkOf n Q) (i := 1) (sec := fun j => sector n (M j).toNat (L j)) (fun j hj => hsl j (by omega)) hkk
    have hres := torn n (cutN (Q 1) n) (cutN (Q 2) n) (M 0).toNat (M 1).toNat (M 2).toNat z
      (fun j => (nowOf n z (fun j => sector n (M j).toNat (L j)) (kkOf n Q) 3).getD j 0)
      (fun j => (nowOf n z (fun j => sector n (M j).toNat (L j)) (kkOf n Q) 1).getD j 0)
      (fun j => (sector n (M 1).toNat (L 1)).getD j 0) (fun j => (sector n (M 2).toNat (L 2)).getD j 0)
      hn1 (cutN_le _ _) (cutN_le _ _) (fun hz => by have := g0 hz; omega) (by omega) (by omega)
      (fun hz => by have := g0 hz; omega) (fun hz => by have := g0 hz; omega) (by omega)
      (fun j => by
        show List.getD _ j 0 = _
        rw [e3, mix_at l2 (cutN_le _ _), mix_at l1 (cutN_le _ _)])
      (fun hz j hj => by show List.getD _ j 0 = _; rw [e0 hz]; exact sector_first n _ _ j hj)
      (fun hz j _ => by show List.getD _ (n - 16 + j) 0 = _; rw [e0 hz]; exact sector_last n _ _ (by have := (g0 hz).2.2; omega) j)
      (fun hz => by show List.getD _ _ 0 = _; rw [e1 hz]; simp [List.getD_eq_getElem?_getD, List.getElem?_replicate]; split <;> rfl)
      (fun j hj => sector_first n _ _ j hj) (fun j _ => sector_last n _ _ (by omega) j)
      (fun j hj => sector_first n _ _ j hj) (fun j _ => sector_last n _ _ (by omega) j)
      m hm hm' ea eb
    have hmem1 : sector n (M 1).toNat (L 1) ∈ wholeOf z (fun j => sector n (M j).toNat (L j)) 3 := by
      cases z <;> simp [wholeOf]
    have hmem2 : sector n (M 2).toNat (L 2) ∈ wholeOf z (fun j => sector n (M j).toNat (L j)) 3 := by
      cases z <;> simp [wholeOf]
    rcases hres with h | h | ⟨hz, h⟩
    · exact hno _ hmem2 (row_ext hnl l2 h)
    · exact hno _ hmem1 (row_ext hnl l1 h)
    · refine hno (sector n (M 0).toNat (L 0)) (by subst hz; simp [wholeOf]) ?_
      rw [← e0 hz]
      exact row_ext hnl l0 h

set_option maxRecDepth 20000 in
set_option maxHeartbeats 4000000 in
theorem Torn_loop (n : Nat) (z : Bool) (M Q : Nat → Int) (A : Nat → Option Addr) (L : Nat → List Nat) (C : Nat → Nat) (w : World) (hn1 : (64 : Int) ≤ n) (hn2 : (n : Int) ≤ 4096)
    (h01 : M 0 ≠ M 1) (h02 : M 0 ≠ M 2) (h12 : M 1 ≠ M 2)
    (hr : ∀ k, k < 3 → Rd w w.heap.size (A k) (L k)) :
    Calls Try.prog 6 #[.int .i64 n, .bool z, .agg (pieces M Q A L C)] w fun e w' => e = .returned (.bool true) ∧ Below w.heap.size w w' := by
  have hb := Blk.new w (pieces M Q A L C) 41
  have h0 := (pieces_at hb 0 (by omega)).1
  have h1 := (pieces_at hb 1 (by omega)).1
  have h2 := (pieces_at hb 2 (by omega)).1
  simp only [Nat.zero_mul, Nat.one_mul, show 2 * 3 = 6 from rfl] at h0 h1 h2
  have f1 : (M 0 == M 1) = false := by simpa using h01
  have f2 : (M 0 == M 2) = false := by simpa using h02
  have f3 : (M 1 == M 2) = false := by simpa using h12
  have hsz : (w.alloc (.cells (pieces M Q A L C) 41)).heap.size = w.heap.size + 1 := by simp
  obtain ⟨w2, hmk, ho, hg⟩ := run_makeN (w := w.alloc (.cells (pieces M Q A L C) 41)) (w.heap.size + 1) n (by omega) (by omega)
  rw [hsz] at hmk ho
  have hB2 : Below (w.heap.size + 1) (w.alloc (.cells (pieces M Q A L C) 41)) w2 := (Below.refl _ _).grown hg (by omega) (by simp)
  have hblk : Blk w2 w.heap.size (pieces M Q A L C) 41 := hb.below hB2 (by omega)
  have hBw : Below w.heap.size w w2 := ((Below.refl _ w).alloc (Nat.le_refl _) _).trans (hB2.mono (by omega))
  have hlt : w.heap.size + 1 < w2.heap.size := by
    rcases ho.2.2 with ⟨e, _⟩ | ⟨g, _, _, e, _, hk, _⟩
    · cases e
    · simp only [Value.slice.injEq, Option.some.injEq, Addr.mk.injEq] at e
      have := lt_of_block hk
      omega
  have MK := Lib.hid hmk
  have HO := Lib.hid ho
  have HBLK := Lib.hid hblk
  have HBW := Lib.hid hBw
  have HLT := Lib.hid hlt
  have HR := Lib.hid hr
  have HD := Lib.hid (And.intro h01 (And.intro h02 h12))
  clear hmk ho hblk hBw hlt hr hb hg hB2 hsz h01 h02 h12
  generalize hcs : pieces M Q A L C = cs at *
  have HCS := Lib.hid hcs
  clear hcs
  go_enter Try.func6, Try.ntmps6
  go_wp2_with (at_make; refine wpList_make_run rfl _ _ 22 rfl _ _ _ w2 rfl rfl MK.out ?_)
  clear h0 h1 h2 f1 f2 f3 MK
  go_loopw [8, 9] (fun v8 i wr => ∃ k : Nat, k ≤ 3 ∧ i = .int .i64 k ∧
    Hid (Own wr (w.heap.size + 1) (.slice (some ⟨w.heap.size + 1, 0, none⟩) n n) (nowOf n z (fun j => sector n (M j).toNat (L j)) (kkOf n Q) k)) ∧
    Hid (Strs wr (w.heap.size + 2) v8 ((wholeOf z (fun j => sector n (M j).toNat (L j)) k).map str)) ∧
    Hid (Blk wr w.heap.size cs 41 ∧ Below w.heap.size w wr ∧ w.heap.size + 1 < wr.heap.size) ∧
    Hid (∀ j, j < k → ¬ (j = 0 ∧ z = true) → 1 ≤ M j ∧ M j ≤ 4611686018427387904 ∧ ((L j).length : Int) ≤ n - 36)) (fun _ i _ => 3 - (intOf i).toNat)
  case atStart => exact ⟨0, by omega, rfl, HO, Lib.hid (Strs.none_ _ _), Lib.hid ⟨HBLK.out, HBW.out, HLT.out⟩, Lib.hid fun j hj => absurd hj (by omega)⟩
  case round =>
    obtain ⟨k, hk, rfl, HN, HW, HM, HG⟩ := hrel
    by_cases hlt : k < 3
    · by_cases hz : k = 0 ∧ z = true
      · obtain ⟨rfl, rfl⟩ := hz
        go_wp2
        go_round
        case rel => exact ⟨1, by omega, rfl, by unfold nowOf; rw [if_pos ⟨rfl, rfl⟩]; exact HN, by unfold wholeOf; rw [if_pos ⟨rfl, rfl⟩]; exact HW, HM, Lib.hid fun j hj hz => absurd ⟨by omega, trivial⟩ hz⟩
        case measure => show 3 - (intOf (.int .i64 (0 + 1))).toNat < 3 - (intOf (.int .i64 0)).toNat; decide
      · have hcell := pieces_at (HCS.out ▸ HM.out.1) k hlt
        have okn : okSize (n : Int) = true := by simp [okSize]; omega
        by_cases h0 : k = 0
        · obtain rfl : z = false := by
            cases z
            · rfl
            · exact absurd ⟨h0, rfl⟩ hz
          clear hz
          subst h0
          rw [Nat.zero_mul] at hcell
          by_cases hlong : (5000 : Int) < (L 0).length
          · go_wp2
            go_ret
            exact ⟨rfl, HM.out.2.1⟩
          by_cases hfit : 1 ≤ M 0 ∧ M 0 ≤ 4611686018427387904 ∧ ((L 0).length : Int) ≤ (n : Int) - 36
          · have hbu : ∀ w', Below wr.heap.size wr w' → Calls Try.prog 12 #[.int .i64 n, .int .i64 (M 0), .slice (A 0) (L 0).length (C 0)] w' fun e w'' => ∃ v', e = .returned (.tuple #[v', .int .i64 0]) ∧ Own w'' w'.heap.size v' (sector n (M 0).toNat (L 0)) ∧ Below w'.heap.size w' w'' := fun w' hb => by
              have := Build_ok n (M 0).toNat (A 0) (L 0) (C 0) w' ((HR.out 0 (by omega)).below (grow HM.out.2.1 hb) (grow HM.out.2.1 hb).size) hn1 hn2 (by omega) (by omega) hfit.2.2
              rwa [Int.toNat_of_nonneg (by omega)] at this
            have ks : ∀ a b : World, Below a.heap.size a b → (a.cell? ⟨w.heap.size, 0, none⟩ = some (.int .i64 (M 0)) ∧ a.cell? ⟨w.heap.size, 0 + 1, none⟩ = some (.slice (A 0) (L 0).length (C 0)) ∧ Below wr.heap.size wr a) →
                (b.cell? ⟨w.heap.size, 0, none⟩ = some (.int .i64 (M 0)) ∧ b.cell? ⟨w.heap.size, 0 + 1, none⟩ = some (.slice (A 0) (L 0).length (C 0)) ∧ Below wr.heap.size wr b) :=
              fun a b hb hs => ⟨cell_grew hs.1 hb, cell_grew hs.2.1 hb, grow hs.2.2 hb⟩
            have KS := Lib.hid ks
            have BU := Lib.hid hbu
            have HF := Lib.hid hfit
            clear ks hbu hfit
            go_wp2_with fail
            go_region_held3 (fun w' => w'.cell? ⟨w.heap.size, 0, none⟩ = some (.int .i64 (M 0)) ∧ w'.cell? ⟨w.heap.size, 0 + 1, none⟩ = some (.slice (A 0) (L 0).length (C 0)) ∧ Below wr.heap.size wr w')
              (first | exact ⟨hcell.1, hcell.2.1, (Below.refl _ _).drew⟩ | exact KS.out _ _ (by assumption) (by assumption))
              (first | (go_at_call 12; refine (BU.out _ (‹_ ∧ _ ∧ Below wr.heap.size wr _›).2.2).mono ?_; rintro e w' ⟨v2, rfl, ho2, hb⟩))
            rename_i hHeld
            have hwr : Below wr.heap.size wr w' := hHeld.2.2
            have hsl : (sector n (M 0).toNat (L 0)).length = n := sector_length (by have := HF.out.2.2; omega)
            obtain ⟨p2, c2, rfl, -, -⟩ := ho2.at_ n hsl (by omega)
            have hcap := ho2.cap
            rw [hsl] at hcap
            have hwl : ((wholeOf false (fun j => sector n (M j).toNat (L j)) 0).map str).length ≤ 1000 := by simp [wholeOf]
            obtain ⟨wc, v3, w3, r1, r2, r3, o3, s3, m3⟩ := piece_step HN.out HW.out HM.out hwr (Nat.le_refl _) ho2 hsl (Nat.le_refl n) hwl
            have R1 := Lib.hid r1
            have R3 := Lib.hid r3
            have O3 := Lib.hid o3
            have S3 := Lib.hid s3
            have M3 := Lib.hid m3
            clear r1 r3 o3 s3 m3 hHeld hwr ho2 hb hcell hsl hwl
            generalize hST : str (sector n (M 0).toNat (L 0)) = ST at *
            have HST := Lib.hid hST
            clear hST
            go_wp2_with (first
              | (refine wpList_copy_run _ rfl (.tmp 106) (.tmp 109) 22 22 rfl _ _ rfl rfl _ wc R1.out ?_)
              | (at_builtin; refine Lib.wpList_append_run _ rfl (.tmp 111) (.tmp 114) 42 42 rfl _ _ rfl rfl v3 w3 R3.out ?_))
            go_round
            case rel => exact ⟨1, by omega, rfl, by rw [nowOf_step (by simp)]; exact O3, by rw [wholeOf_step (by simp), List.map_append]; exact Lib.hid (by have := S3.out; rw [← HST.out] at this; exact this), M3, Lib.hid fun j hj _ => by
              obtain rfl : j = 0 := by omega
              exact HF.out⟩
            case measure => show 3 - (intOf (.int .i64 (0 + 1))).toNat < 3 - (intOf (.int .i64 0)).toNat; decide
          · obtain ⟨E, hE, hbad⟩ := fits_bad n (M 0) (A 0) (L 0).length (C 0) okn hfit
            have hE' : (E != 0) = true := by simpa using hE
            have HBAD := Lib.hid hbad
            clear hbad hfit hE
            go_wp2_with fail
            go_quiet (first | (go_at_call 12; refine Calls.quiet_of_same ((HBAD.out _).mono fun _ _ h => ⟨h.1, h.2.symm⟩)))
            go_wp2_with fail
            refine (awake_any _).mono ?_
            rintro e w4 ⟨rfl, hb4⟩
            go_wp2
            go_ret
            exact ⟨rfl, grow HM.out.2.1 ((below_drewN _ _).trans hb4)⟩
        · have hk0 : (0 : Int) < k := by omega
          have hk0' : ((k : Int) == 0) = false := by simp; omega
          clear hz
          by_cases hlong : (5000 : Int) < (L k).length
          · go_wp2
            go_ret
            exact ⟨rfl, HM.out.2.1⟩
          by_cases hfit : 1 ≤ M k ∧ M k ≤ 4611686018427387904 ∧ ((L k).length : Int) ≤ (n : Int) - 36
          · have hbu : ∀ w', Below wr.heap.size wr w' → Calls Try.prog 12 #[.int .i64 n, .int .i64 (M k), .slice (A k) (L k).length (C k)] w' fun e w'' => ∃ v', e = .returned (.tuple #[v', .int .i64 0]) ∧ Own w'' w'.heap.size v' (sector n (M k).toNat (L k)) ∧ Below w'.heap.size w' w'' := fun w' hb => by
              have := Build_ok n (M k).toNat (A k) (L k) (C k) w' ((HR.out k hlt).below (grow HM.out.2.1 hb) (grow HM.out.2.1 hb).size) hn1 hn2 (by omega) (by omega) hfit.2.2
              rwa [Int.toNat_of_nonneg (by omega)] at this
            have ks : ∀ a b : World, Below a.heap.size a b → (a.cell? ⟨w.heap.size, k * 3, none⟩ = some (.int .i64 (M k)) ∧ a.cell? ⟨w.heap.size, k * 3 + 1, none⟩ = some (.slice (A k) (L k).length (C k)) ∧ a.cell? ⟨w.heap.size, k * 3 + 2, none⟩ = some (.int .i64 (Q k)) ∧ Below wr.heap.size wr a) →
                (b.cell? ⟨w.heap.size, k * 3, none⟩ = some (.int .i64 (M k)) ∧ b.cell? ⟨w.heap.size, k * 3 + 1, none⟩ = some (.slice (A k) (L k).length (C k)) ∧ b.cell? ⟨w.heap.size, k * 3 + 2, none⟩ = some (.int .i64 (Q k)) ∧ Below wr.heap.size wr b) :=
              fun a b hb hs => ⟨cell_grew hs.1 hb, cell_grew hs.2.1 hb, cell_grew hs.2.2.1 hb, grow hs.2.2.2 hb⟩
            have KS := Lib.hid ks
            have BU := Lib.hid hbu
            have HF := Lib.hid hfit
            clear ks hbu hfit
            go_wp2_with fail
            go_region_held3 (fun w' => w'.cell? ⟨w.heap.size, k * 3, none⟩ = some (.int .i64 (M k)) ∧ w'.cell? ⟨w.heap.size, k * 3 + 1, none⟩ = some (.slice (A k) (L k).length (C k)) ∧ w'.cell? ⟨w.heap.size, k * 3 + 2, none⟩ = some (.int .i64 (Q k)) ∧ Below wr.heap.size wr w')
              (first | exact ⟨hcell.1, hcell.2.1, hcell.2.2, (Below.refl _ _).drew⟩ | exact KS.out _ _ (by assumption) (by assumption))
              (first | (go_at_call 12; refine (BU.out _ (‹_ ∧ _ ∧ _ ∧ Below wr.heap.size wr _›).2.2.2).mono ?_; rintro e w' ⟨v2, rfl, ho2, hb⟩))
            rename_i hHeld
            have hwr : Below wr.heap.size wr w' := hHeld.2.2.2
            have hsl : (sector n (M k).toNat (L k)).length = n := sector_length (by have := HF.out.2.2; omega)
            obtain ⟨p2, c2, rfl, -, -⟩ := ho2.at_ n hsl (by omega)
            have hcap := ho2.cap
            rw [hsl] at hcap
            have hwl : ((wholeOf z (fun j => sector n (M j).toNat (L j)) k).map str).length ≤ 1000 := by rw [List.length_map]; have := wholeOf_length (z := z) (sec := fun j => sector n (M j).toNat (L j)) k; omega
            obtain ⟨wc, v3, w3, r1, r2, r3, o3, s3, m3⟩ := piece_step HN.out HW.out HM.out hwr (Nat.le_refl _) ho2 hsl (cutN_le (Q k) n) hwl
            have R1 := Lib.hid r1
            have R3 := Lib.hid r3
            have O3 := Lib.hid o3
            have S3 := Lib.hid s3
            have M3 := Lib.hid m3
            clear r1 r3 o3 s3 m3 hwr ho2 hcell hsl hwl
            have hq := cutN_eq (Q k) n (by omega)
            have hcut : (cutN (Q k) n : Int) ≤ n := by have := cutN_le (Q k) n; omega
            have hkk : kkOf n Q k = cutN (Q k) n := if_neg h0
            have HKK := Lib.hid hkk
            have hqc := hHeld.2.2.1
            have hq1 := Lib.hid hb
            clear hkk hHeld hb
            generalize cutN (Q k) n = kk at *
            generalize hST : str (sector n (M k).toNat (L k)) = ST at *
            have HST := Lib.hid hST
            clear hST
            go_wp2_with (first
              | (refine wpList_copy_run _ rfl (.tmp 106) (.tmp 109) 22 22 rfl _ _ rfl rfl _ wc R1.out ?_)
              | (at_builtin; refine Lib.wpList_append_run _ rfl (.tmp 111) (.tmp 114) 42 42 rfl _ _ rfl rfl v3 w3 R3.out ?_))
            go_round
            case rel => exact ⟨k + 1, by omega, val_int rfl, by rw [nowOf_step (fun q => absurd q.1 (by omega)), HKK.out]; exact O3, by rw [wholeOf_step (fun q => absurd q.1 (by omega)), List.map_append]; exact Lib.hid (by have := S3.out; rw [← HST.out] at this; exact this), M3, Lib.hid fun j hj hj0 => by
              by_cases e : j = k
              · subst e; exact HF.out
              · exact HG.out j (by omega) hj0⟩
            case measure => simp only [intOf]; omega
          · obtain ⟨E, hE, hbad⟩ := fits_bad n (M k) (A k) (L k).length (C k) okn hfit
            have hE' : (E != 0) = true := by simpa using hE
            have HBAD := Lib.hid hbad
            clear hbad hfit hE
            go_wp2_with fail
            go_quiet (first | (go_at_call 12; refine Calls.quiet_of_same ((HBAD.out _).mono fun _ _ h => ⟨h.1, h.2.symm⟩)))
            go_wp2_with fail
            refine (awake_any _).mono ?_
            rintro e w4 ⟨rfl, hb4⟩
            go_wp2
            go_ret
            exact ⟨rfl, grow HM.out.2.1 ((below_drewN _ _).trans hb4)⟩
    · obtain rfl : k = 3 := by omega
      have htell := torn_tells n z M Q L (by omega) (HD.out.1) (HD.out.2.1) (HD.out.2.2) HG.out (fun j hj => (HR.out j hj).1)
      generalize nowOf n z (fun j => sector n (M j).toNat (L j)) (kkOf n Q) 3 = F at *
      have HWL := Lib.hid (wholeOf_length (z := z) (sec := fun j => sector n (M j).toNat (L j)) 3)
      generalize wholeOf z (fun j => sector n (M j).toNat (L j)) 3 = Wh at *
      obtain ⟨hnl, htell⟩ := htell
      obtain ⟨hin, hout⟩ := htell HN.out.1
      obtain ⟨A2, c2', e2, r2⟩ := HN.out.form
      injection e2 with e3 e4 e5
      subst e3 e5
      have hRead := Read_any ⟨w.heap.size + 1, 0, none⟩ F n wr r2 (by omega) (by omega) (by omega)
      rw [hnl] at hRead
      have hst := fun (w' : World) (h : Below wr.heap.size wr w') => run_str n (r2.below h h.size)
      rw [hnl] at hst
      have hF := r2.1
      have hE : readErr F = if readOk F then 0 else 5 := rfl
      have HIN := Lib.hid hin
      have HOUT := Lib.hid hout
      have HST := Lib.hid hst
      have HF := Lib.hid hF
      have HE := Lib.hid hE
      clear hin hout hst hF hE htell e4 r2 hnl
      generalize readErr F = er at *
      generalize readLoad F = ld at *
      generalize readMark F = rm at *
      go_wp2_with fail
      refine hRead.mono ?_
      clear hRead
      rintro e w4 ⟨v4, rfl, -, hb4⟩
      have HB4 := Lib.hid hb4
      have HS4 := Lib.hid (HW.out.below hb4)
      clear hb4
      obtain ⟨A8, c8, rfl, hel⟩ := HS4.out.form
      have HEL := Lib.hid hel
      have hcv : ∀ d, (convert 22 9 (.slice (some ⟨w.heap.size + 1, 0, none⟩) n n)).run Try.prog (w4.drewN d) = .ok (.string (str F)) (w4.drewN d) := fun d => HST.out _ (HB4.out.trans ((below_drewN w4 d).mono HB4.out.size))
      have HCV := Lib.hid hcv
      have hwl : Wh.length ≤ 3 := HWL.out
      rw [List.length_map] at *
      clear hel hcv
      go_wp2_with fail
      go_loopw [16] (fun i wq => ∃ k d : Nat, i = .int .i64 k ∧ k ≤ Wh.length ∧ Hid (wq = w4.drewN d) ∧ Hid (∀ j (h : j < Wh.length), j < k → ¬ F = Wh[j])) (fun i _ => Wh.length - (intOf i).toNat)
      case atStart => exact ⟨0, 0, rfl, Nat.zero_le _, Lib.hid rfl, Lib.hid fun j _ h => absurd h (by omega)⟩
      case round =>
        obtain ⟨k, d, rfl, hk2, HWD, HNE⟩ := hrel
        obtain rfl := HWD.out
        by_cases hlt2 : k < Wh.length
        · obtain ⟨p8, rfl, hall⟩ := HEL.out (by rw [List.length_map]; omega)
          have hcell := hall k (by rw [List.length_map]; exact hlt2)
          clear hall
          rw [List.getElem_map] at hcell
          have hcv := HCV.out
          have hin := HIN.out Wh[k] (List.getElem_mem _)
          by_cases hs : F = Wh[k]
          · rw [← hs] at hcell
            have her : er = 0 := by rw [HE.out, hin.2 hs]; rfl
            subst her
            clear hin hs
            generalize str F = S at *
            go_wp2_with fail
            go_quiet (fail)
            go_wp2_with fail
            refine (awake_any _).mono ?_
            rintro e w5 ⟨rfl, hb5⟩
            go_wp2
            go_ret
            exact ⟨rfl, grow (grow HM.out.2.1 HB4.out) ((below_drewN w4 _).trans hb5)⟩
          · have hne : ¬ str F = str Wh[k] := fun e => hs (str_inj HF.out hin.1 e)
            have hne := str_ne hne
            clear hin
            have HS := Lib.hid hs
            clear hs
            obtain ⟨S2, hS2⟩ : ∃ S2, str Wh[k] = S2 := ⟨_, rfl⟩
            rw [hS2] at hcell hne
            clear hS2
            generalize str F = S at *
            go_wp2_with fail
            go_quiet (fail)
            go_wp2
            refine ⟨?rel, ?measure⟩
            case rel => exact ⟨k + 1, d + nq, val_int rfl, by omega, Lib.hid rfl, Lib.hid fun j h hj => by
              by_cases e : j = k
              · subst e; exact HS.out
              · exact HNE.out j h (by omega)⟩
            case measure => simp only [intOf]; omega
        · have her : er = 5 := by
            rw [HE.out, HOUT.out fun s hs => ?_]
            · rfl
            · obtain ⟨j, hj, rfl⟩ := List.mem_iff_getElem.1 hs
              exact HNE.out j hj (by omega)
          subst her
          go_wp2_with fail
          refine (awake_any _).mono ?_
          rintro e w5 ⟨rfl, hb5⟩
          go_wp2
          go_ret
          exact ⟨rfl, grow (grow HM.out.2.1 HB4.out) ((below_drewN w4 d).trans hb5)⟩

theorem Torn_any (n : Int) (z : Bool) (M Q : Nat → Int) (A : Nat → Option Addr) (L : Nat → List Nat) (C : Nat → Nat) (w : World)
    (hr : ∀ k, k < 3 → Rd w w.heap.size (A k) (L k)) :
    Calls Try.prog 6 #[.int .i64 n, .bool z, .agg (pieces M Q A L C)] w fun e w' => e = .returned (.bool true) ∧ Below w.heap.size w w' := by
  cases hk : okSize n with
  | false => exact Torn_small n z _ w hk
  | true =>
    have hn : 64 ≤ n ∧ n ≤ 4096 := by simpa [okSize] using hk
    by_cases h : M 0 = M 1 ∨ M 0 = M 2 ∨ M 1 = M 2
    · exact Torn_alike n z M Q A L C w hn.1 hn.2 h
    · obtain ⟨N, rfl⟩ := Int.eq_ofNat_of_zero_le (show 0 ≤ n by omega)
      exact Torn_loop N z M Q A L C w hn.1 hn.2 (fun e => h (.inl e)) (fun e => h (.inr (.inl e))) (fun e => h (.inr (.inr e))) hr

end Go.Proofs.Ytipijjlajhofkaa
