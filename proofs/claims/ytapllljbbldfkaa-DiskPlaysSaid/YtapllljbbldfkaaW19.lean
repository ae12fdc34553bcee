/- Walks: the document's disk: rows copied; Put. -/
import Derived.Test.YtapllljbbldfkaaW18
namespace Go.Proofs.Ytapllljbbldfkaa
open Go.RowKit Go.Maps

theorem str_size (l : List Nat) : (str l).size = l.length := by simp [str, ByteArray.size]

/-- 'append([]Write{}, l...)'. -/
theorem copyW {w : World} {LA : Option Addr} {n lc : Nat} {xs : List Value} (h : w.ownsRow 0 78 2 (.slice LA n lc) n xs) (h1 : ∀ u ∈ xs, u.oneCell' = true) (hn : n ≤ 3000000) :
    ∃ A' c' w', (Builtin.append_ #[43, 43] 43 #[.slice (some ⟨w.heap.size, 0, none⟩) 0 0, .slice LA n lc]).run Try.prog (w.alloc (.cells #[] 78)) = .ok (.slice A' n c') w' ∧ w'.ownsRow w.heap.size 78 2 (.slice A' n c') n xs ∧ Below w.heap.size w w' := by
  have hg : Below w.heap.size w (w.alloc (.cells #[] 78)) := (Below.refl _ w).alloc (Nat.le_refl _) _
  have hown : (w.alloc (.cells #[] 78)).ownsRow w.heap.size 78 2 (.slice (some ⟨w.heap.size, 0, none⟩) 0 0) 0 [] :=
    ⟨rfl, .inr ⟨w.heap.size, 0, #[], rfl, Nat.le_refl _, World.alloc_heap_new w _, Nat.le_refl _, by simp [maxLen], by simp, by simp⟩⟩
  rcases h.2 with ⟨e, h0⟩ | ⟨g, cap, cur, e, _⟩
  · injection e with e1 e2 e3
    subst e1 e2 e3
    obtain ⟨i, hi, hz, hs, hby⟩ := info_parts wstr_row
    have hx : xs = [] := List.eq_nil_of_length_eq_zero (by have := h.1; omega)
    subst hx
    refine ⟨_, _, w.alloc (.cells #[] 78), ?_, hown, hg⟩
    simp [Builtin.append_, run_underlying Try.underlying43, sizeOf, typeInfo, hi, Builtin.lenOf, Builtin.firstCells, storeCells]
  · injection e with e1 e2 e3
    subst e1
    have hcells : ∀ j u, xs[j]? = some u → (w.alloc (.cells #[] 78)).cell? ((⟨g, 0, none⟩ : Addr).add j) = some u := fun j u hu => by
      have h3 := World.ownsRow.cells h (g := g) rfl j u hu
      rw [← h3]
      exact hg.cell (p := (⟨g, 0, none⟩ : Addr).add j) (by rw [add_block]; exact World.block_lt_of_cell? w _ h3 |> fun k => by rwa [add_block] at k)
    obtain ⟨v', w', hrun, ho', hgr, _⟩ := appW hown (by simp) ⟨g, 0, none⟩ n lc xs h.1 hcells h1 (by omega)
    rw [Nat.zero_add, List.nil_append] at ho'
    obtain ⟨A', c', rfl, _⟩ := row_form ho'
    exact ⟨A', c', w', hrun, ho', hg.trans ((Below.refl w.heap.size (w.alloc (.cells #[] 78))).grown hgr (by simp) (fun k e => by simp [Value.ownBlock] at e; omega))⟩
/-- 'append([]string{}, l...)'. -/
theorem copyS {w : World} {LA : Option Addr} {n lc : Nat} {xs : List Value} (h : w.ownsRow 0 9 1 (.slice LA n lc) n xs) (h1 : ∀ u ∈ xs, u.oneCell' = true) (hn : n ≤ 3000000) :
    ∃ A' c' w', (Builtin.append_ #[42, 42] 42 #[.slice (some ⟨w.heap.size, 0, none⟩) 0 0, .slice LA n lc]).run Try.prog (w.alloc (.cells #[] 9)) = .ok (.slice A' n c') w' ∧ w'.ownsRow w.heap.size 9 1 (.slice A' n c') n xs ∧ Below w.heap.size w w' := by
  have hg : Below w.heap.size w (w.alloc (.cells #[] 9)) := (Below.refl _ w).alloc (Nat.le_refl _) _
  have hown : (w.alloc (.cells #[] 9)).ownsRow w.heap.size 9 1 (.slice (some ⟨w.heap.size, 0, none⟩) 0 0) 0 [] :=
    ⟨rfl, .inr ⟨w.heap.size, 0, #[], rfl, Nat.le_refl _, World.alloc_heap_new w _, Nat.le_refl _, by simp [maxLen], by simp, by simp⟩⟩
  rcases h.2 with ⟨e, h0⟩ | ⟨g, cap, cur, e, _⟩
  · injection e with e1 e2 e3
    subst e1 e2 e3
    obtain ⟨i, hi, hz, hs, hby⟩ := info_parts str_row
    have hx : xs = [] := List.eq_nil_of_length_eq_zero (by have := h.1; omega)
    subst hx
    refine ⟨_, _, w.alloc (.cells #[] 9), ?_, hown, hg⟩
    simp [Builtin.append_, run_underlying Try.underlying42, sizeOf, typeInfo, hi, Builtin.lenOf, Builtin.firstCells, storeCells]
  · injection e with e1 e2 e3
    subst e1
    have hcells : ∀ j u, xs[j]? = some u → (w.alloc (.cells #[] 9)).cell? ((⟨g, 0, none⟩ : Addr).add j) = some u := fun j u hu => by
      have h3 := World.ownsRow.cells h (g := g) rfl j u hu
      rw [← h3]
      exact hg.cell (p := (⟨g, 0, none⟩ : Addr).add j) (by rw [add_block]; exact World.block_lt_of_cell? w _ h3 |> fun k => by rwa [add_block] at k)
    obtain ⟨v', w', hrun, ho', hgr, _⟩ := appS hown (by simp) ⟨g, 0, none⟩ n lc xs (by have := h.1; omega) hcells h1 (by omega)
    rw [Nat.zero_add, List.nil_append] at ho'
    obtain ⟨A', c', rfl, _⟩ := row_form ho'
    exact ⟨A', c', w', hrun, ho', hg.trans ((Below.refl w.heap.size (w.alloc (.cells #[] 9))).grown hgr (by simp) (fun k e => by simp [Value.ownBlock] at e; omega))⟩
theorem fasts_one (s : Nat) (f : Int → List Nat) : ∀ u ∈ fasts s f, u.oneCell' = true := by
  intro u hu
  unfold fasts at hu
  obtain ⟨i, _, rfl⟩ := List.mem_map.1 hu
  rfl
theorem wcells_one' (vs : List (Int × Value)) (h : ∀ e ∈ vs, e.2.oneCell' = true) : ∀ u ∈ wcells vs, u.oneCell' = true := by
  intro u hu
  unfold wcells at hu
  obtain ⟨e, he, hu⟩ := List.mem_flatMap.1 hu
  simp at hu
  rcases hu with rfl | rfl
  · rfl
  · exact h e he
theorem wstrs_one (L : List (Int × List Nat)) : ∀ u ∈ wstrs L, u.oneCell' = true := by
  refine wcells_one' _ (fun e he => ?_)
  obtain ⟨x, _, rfl⟩ := List.mem_map.1 he
  rfl
theorem wstrs_snoc (L : List (Int × List Nat)) (a : Int) (l : List Nat) : wstrs (L ++ [(a, l)]) = wstrs L ++ [.int .i64 a, .string (str l)] := by simp [wstrs, wcells]
theorem two_cell_at {w : World} {b : Nat} {u v : Value} {t : TypeId} (h : Blk w b #[u, v] t) : ∀ j x, [u, v][j]? = some x → w.cell? ((⟨b, 0, none⟩ : Addr).add j) = some x := by
  intro j x hx
  match j, hx with
  | 0, hx => simp at hx; subst hx; exact h.cell 0
  | 1, hx => simp at hx; subst hx; exact h.cell 1

/-- The boxes at a function's entry: the value, the result. -/
theorem boxes45 (w : World) (x0 x1 x2 x3 x4 x5 : Value) : ∃ w1, w1 = (w.alloc (.cells #[x0, x1, x2, x3, x4, x5] 45)).alloc (.cells #[.int .i64 0, .int .i64 0, .slice none 0 0, .slice none 0 0, .int .i64 0, .bool false] 45) ∧ Blk w1 w.heap.size #[x0, x1, x2, x3, x4, x5] 45 ∧ Blk w1 (w.heap.size + 1) #[.int .i64 0, .int .i64 0, .slice none 0 0, .slice none 0 0, .int .i64 0, .bool false] 45 ∧ Below w.heap.size w w1 := by
  have g0 := (Below.refl w.heap.size w).alloc (Nat.le_refl _) (.cells #[x0, x1, x2, x3, x4, x5] 45)
  have g1 := (Below.refl _ (w.alloc (.cells #[x0, x1, x2, x3, x4, x5] 45))).alloc (Nat.le_refl _) (.cells #[.int .i64 0, .int .i64 0, .slice none 0 0, .slice none 0 0, .int .i64 0, .bool false] 45)
  exact ⟨_, rfl, (Blk.new' _ _ _ rfl).grew g1, Blk.new' _ _ _ (by simp), g0.trans (g1.mono (by simp))⟩

/-- Leaving: the box's value is laid into the result. -/
structure Out (w w' : World) (b c : Nat) (x0 x1 x2 x3 x4 x5 : Value) : Prop where
  six : w'.cell? ⟨b, 0, none⟩ = some x0 ∧ w'.cell? ⟨b, 1, none⟩ = some x1 ∧ w'.cell? ⟨b, 2, none⟩ = some x2 ∧ w'.cell? ⟨b, 3, none⟩ = some x3 ∧ w'.cell? ⟨b, 4, none⟩ = some x4 ∧ w'.cell? ⟨b, 5, none⟩ = some x5
  res : Blk (lay6 w' c x0 x1 x2 x3 x4 x5) c #[x0, x1, x2, x3, x4, x5] 45
  low : Below w.heap.size w (lay6 w' c x0 x1 x2 x3 x4 x5)
  turn : Turn [c] w' (lay6 w' c x0 x1 x2 x3 x4 x5)
theorem Out.mk' {w w' : World} {b c : Nat} {x0 x1 x2 x3 x4 x5 : Value} (hb : Blk w' b #[x0, x1, x2, x3, x4, x5] 45) (hc : Blk w' c #[.int .i64 0, .int .i64 0, .slice none 0 0, .slice none 0 0, .int .i64 0, .bool false] 45) (hl : Below w.heap.size w w') (hle : w.heap.size ≤ c) : Out w w' b c x0 x1 x2 x3 x4 x5 :=
  ⟨⟨hb.cell 0, hb.cell 1, hb.cell 2, hb.cell 3, hb.cell 4, hb.cell 5⟩, set6 hc _ _ _ _ _ _, hl.trans ((lay6_turn w' c x0 x1 x2 x3 x4 x5).below hl.size (by intro j hj; simp at hj; omega)), lay6_turn _ _ _ _ _ _ _ _⟩
theorem Out.rows {w w' : World} {b c : Nat} {x0 x1 x2 x3 x4 x5 : Value} {D : Dsk} {fv lv : Value} (h : Out w w' b c x0 x1 x2 x3 x4 x5) (hc : Blk w' c #[.int .i64 0, .int .i64 0, .slice none 0 0, .slice none 0 0, .int .i64 0, .bool false] 45) (r : Rows w' D fv lv) : Rows (lay6 w' c x0 x1 x2 x3 x4 x5) D fv lv :=
  r.turn h.turn (fun j hj cs t e => by
    simp at hj; subst hj
    unfold Blk at hc
    rw [hc] at e
    cases e
    decide)

theorem early45 {w : World} (x0 x1 x2 x3 x4 x5 : Value) {D : Dsk} {fv lv : Value} (r : Rows w D fv lv) :
    Blk ((w.alloc (.cells #[x0, x1, x2, x3, x4, x5] 45)).alloc (.cells #[x0, x1, x2, x3, x4, x5] 45)) (w.heap.size + 1) #[x0, x1, x2, x3, x4, x5] 45 ∧ Rows ((w.alloc (.cells #[x0, x1, x2, x3, x4, x5] 45)).alloc (.cells #[x0, x1, x2, x3, x4, x5] 45)) D fv lv ∧
      Below w.heap.size w ((w.alloc (.cells #[x0, x1, x2, x3, x4, x5] 45)).alloc (.cells #[x0, x1, x2, x3, x4, x5] 45)) := by
  have g0 := (Below.refl w.heap.size w).alloc (Nat.le_refl _) (.cells #[x0, x1, x2, x3, x4, x5] 45)
  have g1 := (Below.refl _ (w.alloc (.cells #[x0, x1, x2, x3, x4, x5] 45))).alloc (Nat.le_refl _) (.cells #[x0, x1, x2, x3, x4, x5] 45)
  exact ⟨Blk.new' _ _ _ (by simp), (r.grew g0).grew g1, g0.trans (g1.mono (by simp))⟩

set_option maxHeartbeats 8000000 in
theorem Put_ref (D : Dsk) (hD : D.Ok) (FA LA : Option Addr) (fc lc : Nat) (a : Int) (l : List Nat) (w : World) (hr : Rows w D (.slice FA D.sectors fc) (.slice LA D.loose.length lc)) (hL : D.loose.length ≤ 1000000) :
    Calls Try.prog 25 #[RV D (.slice FA D.sectors fc) (.slice LA D.loose.length lc), .int .i64 a, .string (str l)] w fun e w' => ∃ lv, e = .returned (.tuple #[RV (D.put a l) (.slice FA D.sectors fc) lv, .int .i64 (D.putErr a l)]) ∧ Rows w' (D.put a l) (.slice FA D.sectors fc) lv ∧ Below w.heap.size w w' := by
  obtain ⟨dn, hdn⟩ : ∃ dn, dn = D.down := ⟨_, rfl⟩
  obtain ⟨w1, hw1, hB, hC, hg⟩ := boxes45 w (.int .i64 D.sectors) (.int .i64 D.size) (.slice FA D.sectors fc) (.slice LA D.loose.length lc) (.int .i64 D.armed) (.bool dn)
  have hR := hr.grew hg
  have HW1 := Lib.hid hw1
  have HB := Lib.hid hB
  have HC := Lib.hid hC
  have HG := Lib.hid hg
  have HR := Lib.hid hR
  have HL := Lib.hid hL
  have HDN := Lib.hid hdn
  have HOK := Lib.hid hD
  have HO := Lib.hid (Out.mk' hB hC hg (Nat.le_succ _))
  have HEA := Lib.hid (early45 (.int .i64 D.sectors) (.int .i64 D.size) (.slice FA D.sectors fc) (.slice LA D.loose.length lc) (.int .i64 D.armed) (.bool dn) hr)
  have hss := str_size l
  have hRV : RV D (.slice FA D.sectors fc) (.slice LA D.loose.length lc) = .agg #[.int .i64 D.sectors, .int .i64 D.size, (.slice FA D.sectors fc), (.slice LA D.loose.length lc), .int .i64 D.armed, .bool dn] := by rw [hdn]; rfl
  rw [hRV]
  by_cases hr0 : D.ready a = 0
  · have hin := Dsk.ready_in hr0
    have hdf : dn = false := by rw [hdn]; exact hin.1
    subst hdf
    obtain ⟨hin1, hin2, hin3⟩ := hin
    by_cases hl : l.length = D.size
    · have hpe : D.putErr a l = if D.act.down then 4 else 0 := by unfold Dsk.putErr; rw [if_neg (by simp [hr0]), if_neg (by simp [hl])]
      obtain ⟨z, hz⟩ : ∃ z, z = D.act.down := ⟨_, rfl⟩
      rw [hpe, Dsk.put_eq hr0 hl, ← hz]
      have HZ := Lib.hid hz
      have hll : (l.length : Int) = D.size := by omega
      have HACT := Lib.hid (act_ref D FA LA D.sectors fc D.loose.length lc w1 hD.arm0 hD.arm1)
      have HRV := Lib.hid hRV
      clear hw1 hB hC hg hr hR hL hdn hD hRV hr0 hin1 hl hpe hz HO HEA
      go_enter Try.func25, Try.ntmps25
      go_wp2_with fail
      rw [← HW1.out, ← HRV.out]
      refine HACT.out.mono ?_
      rintro e w3 ⟨rfl, hb3⟩
      obtain ⟨ac, hac⟩ : ∃ ac, ac = D.act.armed := ⟨_, rfl⟩
      unfold RV
      rw [Dsk.act_sectors, Dsk.act_size, ← hac, ← HZ.out]
      have HAC := Lib.hid hac
      -- the box is laid anew
      have r3 := (HB.out.grew hb3).six
      obtain ⟨w4, hw4⟩ : ∃ w4, w4 = lay6 w3 w.heap.size (.int .i64 D.sectors) (.int .i64 D.size) (.slice FA D.sectors fc) (.slice LA D.loose.length lc) (.int .i64 ac) (.bool z) := ⟨_, rfl⟩
      have hB4 : Blk w4 w.heap.size #[.int .i64 D.sectors, .int .i64 D.size, (.slice FA D.sectors fc), (.slice LA D.loose.length lc), .int .i64 ac, .bool z] 45 := by rw [hw4]; exact set6 (HB.out.grew hb3) _ _ _ _ _ _
      have ht4 : Turn [w.heap.size] w3 w4 := by rw [hw4]; exact lay6_turn _ _ _ _ _ _ _ _
      have hC4 : Blk w4 (w.heap.size + 1) #[.int .i64 0, .int .i64 0, .slice none 0 0, .slice none 0 0, .int .i64 0, .bool false] 45 := (ht4.block _ (HC.out.grew hb3).lt (by simp)).trans (HC.out.grew hb3)
      have hg4 : Below w.heap.size w w4 := (grow HG.out hb3).trans (ht4.below (grow HG.out hb3).size (by simp))
      have hR4 : Rows w4 D (.slice FA D.sectors fc) (.slice LA D.loose.length lc) := (HR.out.grew hb3).turn ht4 (fun j hj cs t e => by
        simp at hj; subst hj
        have hh := HB.out.grew hb3
        unfold Blk at hh
        rw [hh] at e; cases e; decide)
      obtain ⟨A1, c1, w6, happ1, ho1, hb6⟩ := copyW hR4.l (wstrs_one _) (by have := HL.out; omega)
      obtain ⟨w7, hw7⟩ : ∃ w7, w7 = w6.alloc (.cells #[.int .i64 a, .string (str l)] 78) := ⟨_, rfl⟩
      have hb7 : Below w6.heap.size w6 w7 := by rw [hw7]; exact (Below.refl _ _).alloc (Nat.le_refl _) _
      have hn7 : Blk w7 w6.heap.size #[.int .i64 a, .string (str l)] 78 := by rw [hw7]; exact Blk.new' _ _ _ rfl
      obtain ⟨v2, w8, happ2, ho2, hgr2, _⟩ := appW (row_grew ho1 hb7) (Nat.le_trans hb6.size hb7.size) ⟨w6.heap.size, 0, none⟩ 1 1 [.int .i64 a, .string (str l)] rfl (two_cell_at hn7) (by intro u hu; simp at hu; rcases hu with rfl | rfl <;> rfl) (by have := HL.out; omega)
      obtain ⟨A2, c2, rfl, _⟩ := row_form ho2
      rw [← wstrs_snoc] at ho2
      have hb48 : Below w4.heap.size w4 w8 := (hb6.trans (hb7.mono hb6.size)).trans ((Below.refl w4.heap.size w7).grown hgr2 (Nat.le_trans hb6.size hb7.size) (fun k e => (ho1.lt k e).1))
      have hB8 := hB4.grew hb48
      have hC8 := hC4.grew hb48
      have f3 := hB8.free 3
      have k3 : w8.cell? ⟨w.heap.size, 3, none⟩ = some (.slice LA D.loose.length lc) := hB8.cell 3
      have k3' : w4.cell? ⟨w.heap.size, 3, none⟩ = some (.slice LA D.loose.length lc) := hB4.cell 3
      obtain ⟨w9, hw9⟩ : ∃ w9, w9 = w8.setCell ⟨w.heap.size, 3, none⟩ (.slice A2 (D.loose.length + 1) c2) := ⟨_, rfl⟩
      have hB9 : Blk w9 w.heap.size #[.int .i64 D.sectors, .int .i64 D.size, (.slice FA D.sectors fc), .slice A2 (D.loose.length + 1) c2, .int .i64 ac, .bool z] 45 := by rw [hw9]; have := hB8.set 3 (.slice A2 (D.loose.length + 1) c2); simpa using this
      have ht9 : Turn [w.heap.size] w8 w9 := by rw [hw9]; exact (Turn.refl [w.heap.size] w8).set (a := ⟨w.heap.size, 3, none⟩) (.inl (by simp)) _
      have hC9 : Blk w9 (w.heap.size + 1) #[.int .i64 0, .int .i64 0, .slice none 0 0, .slice none 0 0, .int .i64 0, .bool false] 45 := (ht9.block _ hC8.lt (by simp)).trans hC8
      have hg9 : Below w.heap.size w w9 := (grow hg4 hb48).trans (ht9.below (grow hg4 hb48).size (by simp))
      have hR9 : Rows w9 { D.act with loose := D.act.loose ++ [(a, l)] } (.slice FA D.sectors fc) (.slice A2 (D.loose.length + 1) c2) := by
        refine ⟨?_, ?_⟩
        · show SRow w9 (.slice FA D.sectors fc) D.act.sectors D.act.fast
          rw [Dsk.act_sectors, Dsk.act_fast]
          exact row_turn (row_grew hR4.f hb48) ht9 (fun g hg hm => by
            simp at hm; subst hm
            obtain ⟨cs, e⟩ := row_kind (row_grew hR4.f hb48) hg
            have hh := hB8
            unfold Blk at hh
            rw [hh] at e; cases e)
        · show WRow w9 _ (D.act.loose ++ [(a, l)])
          rw [Dsk.act_loose]
          unfold WRow
          rw [List.length_append]
          exact row_base (Nat.zero_le _) (row_turn ho2 ht9 (fun g hg hm => by
            simp at hm; subst hm
            obtain ⟨cs, e⟩ := row_kind ho2 hg
            have hh := hB8
            unfold Blk at hh
            rw [hh] at e; cases e))
      have HOUT := Lib.hid (Out.mk' (w := w) hB9 hC9 hg9 (Nat.le_succ _))
      have HRES := Lib.hid ((Out.mk' (w := w) hB9 hC9 hg9 (Nat.le_succ _)).rows hC9 hR9)
      have e9 := hB9.six
      have r9 := hC9.six
      have r9c := hC9.six
      obtain ⟨m0, m1, m2, m3, m4, m5, -⟩ := r9c
      rw [hw7] at happ2
      have HA1 := Lib.hid happ1
      have HA2 := Lib.hid happ2
      have q4 : (((((w3.setCell ⟨w.heap.size, 0, none⟩ (.int .i64 D.sectors)).setCell ⟨w.heap.size, 1, none⟩ (.int .i64 D.size)).setCell ⟨w.heap.size, 2, none⟩ (.slice FA D.sectors fc)).setCell ⟨w.heap.size, 3, none⟩ (.slice LA D.loose.length lc)).setCell ⟨w.heap.size, 4, none⟩ (.int .i64 ac)).setCell ⟨w.heap.size, 5, none⟩ (.bool z) = w4 := hw4.symm
      have q9 : w8.setCell ⟨w.heap.size, 3, none⟩ (.slice A2 (D.loose.length + 1) c2) = w9 := hw9.symm
      have HW4 := Lib.hid hw4
      have HW7 := Lib.hid hw7
      have HW9 := Lib.hid hw9
      have k5 : w9.cell? ⟨w.heap.size, 5, none⟩ = some (.bool z) := hB9.cell 5
      have HL4 := Lib.hid hb6
      have hbs : w.heap.size < w4.heap.size := hB4.lt
      have hna : ¬ a < 0 := by omega
      have hnb : ¬ (D.sectors : Int) ≤ a := by omega
      obtain ⟨s9, t9, u9, v9, x9, y9, -⟩ := e9
      obtain ⟨-, -, -, -, -, -, z0, z1, z2, z3, z4, z5⟩ := r9
      clear hB4 ht4 hC4 hg4 hR4 ho1 hn7 happ1 happ2 ho2 hgr2 hb48 hB8 hC8 hB9 ht9 hC9 hg9 hR9 hw4 hw7 hw9 hb7 hac hb6 HB HC HG HR HRV hll hss HACT
      cases z
      all_goals
        go_wp2_with first
          | (at_builtin; refine Lib.wpList_append_run _ rfl (.tmp 28) (.tmp 30) 43 43 rfl _ _ rfl rfl _ w6 HA1.out ?_)
          | (at_builtin; refine Lib.wpList_append_run _ rfl (.tmp 31) (.tmp 35) 43 43 rfl _ _ rfl rfl _ w8 HA2.out ?_)
        refine bodyPost_ret (results_cell6t rfl HOUT.out.res rfl) rfl ⟨.slice A2 (D.loose.length + 1) c2, ?_, HRES.out, HOUT.out.low⟩
        unfold RV
        simp only [Dsk.act_sectors, Dsk.act_size, ← HAC.out, ← HZ.out]
        rfl
    · have hpe : D.putErr a l = 3 := by unfold Dsk.putErr; rw [if_neg (by simp [hr0]), if_pos hl]
      rw [hpe, Dsk.put_stay (.inr hl)]
      have hll : ¬ (l.length : Int) = D.size := by omega
      have hna : ¬ a < 0 := by omega
      have hnb : ¬ (D.sectors : Int) ≤ a := by omega
      have hne : ((l.length : Int) == D.size) = false := by simpa using hll
      clear hw1 hB hC hg hr hR hL hdn hD hr0 hin1 hl hpe HB HC HG HR HO HW1
      go_enter Try.func25, Try.ntmps25
      go_wp2
      exact bodyPost_ret (results_cell6t rfl HEA.out.1 rfl) rfl ⟨_, by rw [hRV]; rfl, HEA.out.2⟩
  · have hpe : D.putErr a l = D.ready a := by unfold Dsk.putErr; rw [if_pos hr0]
    rw [hpe, Dsk.put_stay (.inl hr0)]
    unfold Dsk.ready at hr0 ⊢
    rw [← hdn] at hr0 ⊢
    clear hw1 hB hC hg hr hR hL hdn hD hpe HB HC HG HR HO HW1
    cases dn with
    | true =>
      simp only [if_true] at hr0 ⊢
      go_enter Try.func25, Try.ntmps25
      go_wp2
      exact bodyPost_ret (results_cell6t rfl HEA.out.1 rfl) rfl ⟨_, by rw [hRV]; rfl, HEA.out.2⟩
    | false =>
      simp only [Bool.false_eq_true, if_false] at hr0 ⊢
      have hor : a < 0 ∨ (D.sectors : Int) ≤ a := Classical.byContradiction fun h => hr0 (if_neg h)
      rw [if_pos hor]
      clear hr0
      by_cases hna : a < 0
      · go_enter Try.func25, Try.ntmps25
        go_wp2
        exact bodyPost_ret (results_cell6t rfl HEA.out.1 rfl) rfl ⟨_, by rw [hRV]; rfl, HEA.out.2⟩
      · have hnb : (D.sectors : Int) ≤ a := by omega
        go_enter Try.func25, Try.ntmps25
        go_wp2
        exact bodyPost_ret (results_cell6t rfl HEA.out.1 rfl) rfl ⟨_, by rw [hRV]; rfl, HEA.out.2⟩
end Go.Proofs.Ytapllljbbldfkaa
