/- A row of changes in memory; slices.ContainsFunc over it and over bytes. -/
import Derived.Test.YtpomfokpmbblkaaL2
namespace Go.Proofs.Ytpomfokpmbblkaa
open Go.RowKit Go.Maps
set_option maxRecDepth 8000

/-- The slice vl is a row of these changes. -/
def Chg (w : World) (vl : Value) (L : List (Int × List Nat)) : Prop :=
  ∃ vs : List (Int × Value), vs.length = L.length ∧ w.ownsRow 0 44 2 vl L.length (wcells vs) ∧ ∀ k (h : k < L.length), ∃ v, vs[k]? = some (L[k].1, v) ∧ Byt w v L[k].2

section
variable {T : List Nat} {w w' : World} {vl : Value} {L : List (Int × List Nat)}
theorem Chg.nil (w : World) : Chg w nilv [] := ⟨[], rfl, World.ownsRow_nil _ _ _ _, fun k h => absurd h (by simp)⟩
theorem Chg.lt (h : Chg w vl L) {g : Nat} (hg : vl.ownBlock = some g) : g < w.heap.size := by
  obtain ⟨vs, _, ho, _⟩ := h
  exact (ho.lt g hg).2
theorem Chg.kind (h : Chg w vl L) {g : Nat} (hg : vl.ownBlock = some g) : ∃ cs, w.heap[g]? = some (.cells cs 44 (0, 0)) := by
  obtain ⟨vs, _, ho, _⟩ := h
  rcases ho.2 with ⟨rfl, _⟩ | ⟨g', cap, cur, rfl, _, hh, _⟩
  · simp [Value.ownBlock] at hg
  · simp [Value.ownBlock] at hg; subst hg; exact ⟨_, hh⟩
theorem Chg.turn (h : Chg w vl L) (k : Turn T w w') (hn : NoBytes w T) (hg : ∀ g, vl.ownBlock = some g → g ∉ T) : Chg w' vl L := by
  obtain ⟨vs, h1, ho, h2⟩ := h
  refine ⟨vs, h1, ?_, fun j hj => ?_⟩
  · refine ⟨ho.1, ?_⟩
    rcases ho.2 with h | ⟨g, cap, cur, rfl, hb, hh, r⟩
    · exact .inl h
    · exact .inr ⟨g, cap, cur, rfl, hb, (k.block g (lt_of_block hh) (hg g rfl)).trans hh, r⟩
  · obtain ⟨v, e, hb⟩ := h2 j hj
    exact ⟨v, e, hb.turn k hn⟩
theorem Chg.form (h : Chg w vl L) : ∃ A c, vl = .slice A L.length c ∧ L.length ≤ c ∧ ∀ k (hk : k < L.length), ∃ p v, A = some p ∧ p.block < w.heap.size ∧ w.cell? (p.add (k * 2)) = some (.int .i64 L[k].1) ∧ w.cell? ((p.add (k * 2)).add 1) = some v ∧ Byt w v L[k].2 := by
  obtain ⟨vs, h1, ho, h2⟩ := h
  have aa : ∀ (p : Addr) (j i : Nat), (p.add j).add i = p.add (j + i) := by
    intro p j i
    unfold Addr.add
    by_cases h1 : j = 0
    · subst h1; simp
    · by_cases h2 : i = 0
      · subst h2; simp
      · simp [h1, h2]; omega
  rcases ho.2 with ⟨rfl, h0⟩ | ⟨g, cap, cur, rfl, hb, hh, hnc, _⟩
  · exact ⟨none, 0, by rw [h0], by omega, fun k hk => absurd hk (by omega)⟩
  · refine ⟨_, _, rfl, hnc, fun k hk => ?_⟩
    obtain ⟨v, e, hv⟩ := h2 k hk
    have := wcells_get e
    exact ⟨_, v, rfl, lt_of_block hh, World.ownsRow.cells ho (g := g) rfl _ _ this.1, by rw [aa]; exact World.ownsRow.cells ho (g := g) rfl _ _ this.2, hv⟩
end

theorem chg_row : (Try.prog.info? 44).map (fun i => (i.zero, i.size, i.bytes)) = some (some (.agg #[.int .i64 0, nilv]), 2, 32) := by kernel_rfl

/-- 'append(out, c)', x in a block of its own. -/
theorem Chg.append {w : World} {vl : Value} {L : List (Int × List Nat)} (h : Chg w vl L) (hn : L.length ≤ 1000000000) {g : Nat} {x : Int} {v : Value} {l : List Nat} (hg : Blk w g #[.int .i64 x, v] 44) (hv : Byt w v l) :
    ∃ v' w', (Builtin.append_ #[38, 38] 38 #[vl, .slice (some ⟨g, 0, none⟩) 1 1]).run Try.prog w = .ok v' w' ∧ Chg w' v' (L ++ [(x, l)]) ∧ Chg w' vl L ∧ w.grownBy w' vl.ownBlock ∧ (v'.ownBlock = vl.ownBlock ∨ v'.ownBlock = some w.heap.size) := by
  obtain ⟨i, hi, hz, hs, hby⟩ := info_parts chg_row
  obtain ⟨vs, h1, ho, h2⟩ := id h
  have hc := hg.two
  obtain ⟨p, cc, rfl, hlc, hkb, hcl⟩ := hv.2
  obtain ⟨v', w', hrun, ho', hgr, hloc, hold⟩ := run_append_keeps (P := Try.prog) w 0 38 38 44 i _ 2 32 Try.underlying38 hi hz hs hby rfl (by omega) vl L.length (wcells vs) ho ⟨g, 0, none⟩ 1 1 [.int .i64 x, .slice (some p) l.length cc] rfl
    (fun j u hu => by
      match j, hu with
      | 0, hu => simp at hu; subst hu; exact hc.1
      | 1, hu => simp at hu; subst hu; exact hc.2.1) (by intro u hu; simp at hu; rcases hu with rfl | rfl <;> rfl) (by simp only [maxLen]; omega) (by omega) (Nat.zero_le _)
  have ht : Turn vl.ownBlock.toList w w' := (Turn.refl _ w).grown hgr (fun k e => .inl (by simp [e]))
  have hnb : NoBytes w vl.ownBlock.toList := by
    intro k hk cs fz e
    obtain ⟨cs', e'⟩ := h.kind (g := k) (by simpa using hk)
    rw [e'] at e; cases e
  refine ⟨v', w', hrun, ⟨vs ++ [(x, .slice (some p) l.length cc)], by simp [h1], ?_, fun k hk => ?_⟩, ⟨vs, h1, hold, fun k hk => ?_⟩, hgr, hloc⟩
  · have e : wcells (vs ++ [(x, .slice (some p) l.length cc)]) = wcells vs ++ [.int .i64 x, .slice (some p) l.length cc] := by simp [wcells]
    rw [e, List.length_append]; exact ho'
  · by_cases hlt : k < L.length
    · obtain ⟨u, e, hu⟩ := h2 k hlt
      refine ⟨u, ?_, ?_⟩
      · rw [List.getElem?_append_left (by omega), List.getElem_append_left hlt]; exact e
      · rw [List.getElem_append_left hlt]; exact hu.turn ht hnb
    · have ek : k = L.length := by simp at hk; omega
      subst ek
      refine ⟨.slice (some p) l.length cc, ?_, ?_⟩
      · rw [List.getElem?_append_right (by omega), h1]; simp
      · simpa using hv.turn ht hnb
  · obtain ⟨u, e, hu⟩ := h2 k hk
    exact ⟨u, e, hu.turn ht hnb⟩


theorem Chg.at_ {w : World} {vl : Value} {L : List (Int × List Nat)} (h : Chg w vl L) (k : Nat) (hk : k < L.length) :
    ∃ g c p z d, vl = .slice (some ⟨g, 0, none⟩) L.length c ∧ L.length ≤ c ∧ w.cell? ⟨g, k * 2, none⟩ = some (.int .i64 L[k].1) ∧ w.cell? ⟨g, k * 2 + 1, none⟩ = some (.slice (some p) z d) ∧ Byt w (.slice (some p) z d) L[k].2 ∧ z = L[k].2.length := by
  obtain ⟨vs, h1, ho, h2⟩ := h
  obtain ⟨v, e, hb⟩ := h2 k hk
  obtain ⟨p, d, ev, _, _⟩ := hb.rd
  have := wcells_get e
  rcases ho.2 with ⟨rfl, h0⟩ | ⟨g, cap, cur, rfl, hb', hh, hnc, _⟩
  · omega
  · have q0 := World.ownsRow.cells ho (g := g) rfl _ _ this.1
    have q1 := World.ownsRow.cells ho (g := g) rfl _ _ this.2
    rw [addr_add] at q0 q1
    dsimp only at q1
    exact ⟨g, cap, p, _, d, rfl, hnc, q0, ev ▸ q1, ev ▸ hb, rfl⟩
theorem Chg.grew {w w' : World} {vl : Value} {L : List (Int × List Nat)} (h : Chg w vl L) (k : Below w.heap.size w w') : Chg w' vl L :=
  h.turn (Turn.of_below k []) (by intro _ h; simp at h) (by simp)

set_option maxHeartbeats 2000000 in
/-- slices.IndexFunc over a row of changes. -/
theorem IndexCh_any (l : List (Int × List Nat)) (n c : Nat) (hn : l.length = n) (hnb : (n : Int) ≤ 1000000000) (A : Option Addr) (w : World) (h : Chg w (.slice A n c) l) (g : Nat) (caps : Array Value)
    (eg : ∀ args w, (callFunc g args).run Try.prog w = .ok (.enter g args) w) (q : Int × List Nat → Bool)
    (hq : ∀ x ∈ l, ∀ W, Below w.heap.size w W → ∀ u, Byt W u x.2 → Calls Try.prog g (#[.agg #[.int .i64 x.1, u]] ++ caps) W fun e W' => e = .returned (.bool (q x)) ∧ Below W.heap.size W W') :
    Calls Try.prog 74 #[.slice A n c, .func (.func g) #[] caps] w fun e w' => (∃ r : Int, e = .returned (.int .i64 r) ∧ -1 ≤ r ∧ decide (0 ≤ r) = l.any q) ∧ Below w.heap.size w w' := by
  have HQ := Lib.hid hq
  have HC := Lib.hid h
  have HN := Lib.hid hn
  have hb0 := Lib.hid (Below.refl w.heap.size w)
  clear hq h hn
  go_enter Try.func74, Try.ntmps74
  go_wp2
  go_loopw [8] (fun iv wr => ∃ k : Nat, k ≤ n ∧ iv = .int .i64 k ∧ Hid (Below w.heap.size w wr) ∧ Hid ((l.take k).any q = false)) (fun iv _ => n - (intOf iv).toNat)
  case atStart => exact ⟨0, by omega, rfl, hb0, Lib.hid rfl⟩
  case round =>
    obtain ⟨k, hk, rfl, HB, HT⟩ := hrel
    by_cases hlt : k < n
    · have hkl : k < l.length := by rw [HN.out]; exact hlt
      have hlt' : (k : Int) < n := by omega
      obtain ⟨G, c', p, z, d, e, _, c0, c1, hby, hzz⟩ := (HC.out.grew HB.out).at_ k hkl
      injection e with e1 e2 e3
      subst e1
      have hcall := HQ.out l[k] (List.getElem_mem hkl) wr HB.out _ hby
      have HX : Hid (l.take (k + 1) = l.take k ++ [l[k]]) := Lib.hid (by rw [List.take_add_one, List.getElem?_eq_getElem hkl]; rfl)
      have HY : Hid (q l[k] = true → l.any q = true) := Lib.hid (fun h => List.any_eq_true.2 ⟨l[k], List.getElem_mem hkl, h⟩)
      have HP := Lib.hid hcall
      clear hcall hby e2 e3 hzz
      generalize l[k].1 = pg at *
      cases hqk : q l[k] with
      | true =>
        have hany := HY.out hqk
        rw [hqk] at HP
        have HA := Lib.hid hany
        clear hany hqk HY HX HT
        go_wp2_with fail
        refine HP.out.mono ?_
        rintro e w2 ⟨rfl, hb2⟩
        have HB2 := Lib.hid (grow HB.out hb2)
        clear hb2 HP
        go_wp2
        go_ret
        exact ⟨⟨k, rfl, by omega, by rw [HA.out]; simp⟩, HB2.out⟩
      | false =>
        rw [hqk] at HP
        have HT2 : Hid ((l.take (k + 1)).any q = false) := Lib.hid (by rw [HX.out, List.any_append, HT.out]; simp [hqk])
        clear hqk HY HX HT
        go_wp2_with fail
        refine HP.out.mono ?_
        rintro e w2 ⟨rfl, hb2⟩
        have HB2 := Lib.hid (grow HB.out hb2)
        clear hb2 HP
        go_wp2
        go_roundw
        case rel => exact ⟨k + 1, by omega, by go_num, HB2, HT2⟩
        case measure => simp [intOf]; omega
    · have hlt' : ¬ (k : Int) < n := by omega
      have HA : Hid (l.any q = false) := Lib.hid (by have := HT.out; rw [List.take_of_length_le (by have := HN.out; omega)] at this; exact this)
      clear HT
      go_wp2
      go_ret
      exact ⟨⟨-1, rfl, by omega, by rw [HA.out]; rfl⟩, HB.out⟩
theorem ContainsCh_any (l : List (Int × List Nat)) (n c : Nat) (hn : l.length = n) (hnb : (n : Int) ≤ 1000000000) (A : Option Addr) (w : World) (h : Chg w (.slice A n c) l) (g : Nat) (caps : Array Value)
    (eg : ∀ args w, (callFunc g args).run Try.prog w = .ok (.enter g args) w) (q : Int × List Nat → Bool)
    (hq : ∀ x ∈ l, ∀ W, Below w.heap.size w W → ∀ u, Byt W u x.2 → Calls Try.prog g (#[.agg #[.int .i64 x.1, u]] ++ caps) W fun e W' => e = .returned (.bool (q x)) ∧ Below W.heap.size W W') :
    Calls Try.prog 61 #[.slice A n c, .func (.func g) #[] caps] w fun e w' => e = .returned (.bool (l.any q)) ∧ Below w.heap.size w w' := by
  have HI := Lib.hid (IndexCh_any l n c hn hnb A w h g caps eg q hq)
  clear h hq
  generalize l.any q = Q at *
  go_enter Try.func61, Try.ntmps61
  go_wp2_with fail
  refine HI.out.mono ?_
  rintro e w2 ⟨⟨r, rfl, h1, h2⟩, hb⟩
  have HB := Lib.hid hb
  clear hb HI
  go_wp2
  go_ret
  exact ⟨rfl, HB.out⟩
end Go.Proofs.Ytpomfokpmbblkaa
