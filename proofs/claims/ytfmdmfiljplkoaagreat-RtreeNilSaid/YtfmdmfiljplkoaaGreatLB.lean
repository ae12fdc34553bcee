/- Walks: Append. Walks: slices.ContainsFunc over bytes; what a slot has. Walks: the iterator of a log's slots. Printed by mk_l8.py. Walks: Latest. -/
import Derived.Test.YtfmdmfiljplkoaaGreatL5
namespace Go.Proofs.YtfmdmfiljplkoaaGreat
open Go.RowKit Go.Maps
set_option maxRecDepth 8000
variable {ι : Type} [Bar ι]
/-- What a group's changes do, one by one. -/
def goApp (D : Dsk) (L : Lg) : List (Int × List Nat) → Int × Dsk × Lg
  | [] => (D.flushErr, D.flush, { L with dead := decide (D.flushErr ≠ 0) })
  | c :: r =>
    if D.putErr ((L.first : Int) + L.next) (secOf D.size L c.1.toNat r.isEmpty c.2) ≠ 0 then
      (D.putErr ((L.first : Int) + L.next) (secOf D.size L c.1.toNat r.isEmpty c.2), D.put ((L.first : Int) + L.next) (secOf D.size L c.1.toNat r.isEmpty c.2), { L with next := L.next + 1, dead := true })
    else goApp (D.put ((L.first : Int) + L.next) (secOf D.size L c.1.toNat r.isEmpty c.2)) { L with next := L.next + 1 } r
/-- Append: its answer, the disk and the log behind it. -/
def app (D : Dsk) (L : Lg) (g : List (Int × List Nat)) : Int × Dsk × Lg := if rightE D L g = 0 then goApp D L g else (rightE D L g, D, L)
/-- What stands between two puts. -/
structure ApSt (w wr : World) (G b m : Nat) (vl : Value) (D : Dsk) (L : Lg) (gv : Value) (g : List (Int × List Nat)) (k : Nat) (R : Int × Dsk × Lg) (Dk : Dsk) (Lk : Lg) (vlk : Value) : Prop where
  disk : DiskAt wr b m vlk Dk
  log : LogIn wr G b Lk
  row : Chg wr gv g
  went : Went w wr G b m vl vlk
  ok : Lk.Ok
  next : Lk.next = L.next + k
  cnt : Lk.count = L.count
  size : Dk.size = D.size
  lose : Dk.loose.length ≤ D.loose.length + k
  res : goApp Dk Lk (g.drop k) = R
end Go.Proofs.YtfmdmfiljplkoaaGreat
namespace Go.Proofs.YtfmdmfiljplkoaaGreat
open Go.RowKit Go.Maps
set_option maxRecDepth 8000
variable {ι : Type} [Bar ι]
def nzB (l : List Nat) : Bool := l.any fun x => decide (x ≠ 0)
theorem nonzero_any (x : Nat) (w : World) : Calls Tryz.prog 165 #[.int .u8 x] w fun e w' => e = .returned (.bool (decide (x ≠ 0))) ∧ w' = w := by
  have hd : decide (x ≠ 0) = ((x : Int) != 0) := by by_cases h : x = 0 <;> simp [h]
  rw [hd]
  go_enter Tryz.func165, Tryz.ntmps165
  go_wp2
  go_ret
  exact ⟨rfl, rfl⟩
set_option maxHeartbeats 2000000 in
theorem IndexB_any (l : List Nat) (n c : Nat) (hn : l.length = n) (hnb : (n : Int) ≤ 1000000000) (A : Option Addr) (w : World) (h : Rd w w.heap.size A l) :
    Calls Tryz.prog 207 #[.slice A n c, .func (.func 165) #[] #[]] w fun e w' => (∃ r : Int, e = .returned (.int .i64 r) ∧ -1 ≤ r ∧ decide (0 ≤ r) = nzB l) ∧ w' = w := by
  have HC := Lib.hid h
  have HN := Lib.hid hn
  have HQ := Lib.hid (fun (x : Nat) => nonzero_any x w)
  have eg : ∀ args w, (callFunc 165 args).run Tryz.prog w = .ok (.enter 165 args) w := enters_of Tryz.func165 (by kernel_rfl) rfl
  clear h hn
  go_enter Tryz.func207, Tryz.ntmps207
  go_wp2
  go_loop [8] (fun iv => ∃ k : Nat, k ≤ n ∧ iv = .int .i64 k ∧ Hid (nzB (l.take k) = false)) (fun iv => n - (intOf iv).toNat)
  case atStart => exact ⟨0, by omega, rfl, Lib.hid rfl⟩
  case round =>
    obtain ⟨k, hk, rfl, HT⟩ := hrel
    by_cases hlt : k < n
    · have hkl : k < l.length := by rw [HN.out]; exact hlt
      have hlt' : (k : Int) < n := by omega
      obtain ⟨p, rfl, _, hc, hb⟩ := HC.out.get hkl
      have HX : Hid (l.take (k + 1) = l.take k ++ [l[k]]) := Lib.hid (by rw [List.take_add_one, List.getElem?_eq_getElem hkl]; rfl)
      have HY : Hid (l[k] ≠ 0 → nzB l = true) := Lib.hid (fun h => List.any_eq_true.2 ⟨l[k], List.getElem_mem hkl, by simpa using h⟩)
      have HP := Lib.hid (HQ.out l[k])
      obtain ⟨x, hx⟩ : ∃ x, x = l[k] := ⟨_, rfl⟩
      rw [← hx] at hc HX HY HP
      clear hb hx
      by_cases hx0 : x = 0
      · subst hx0
        have HT2 : Hid (nzB (l.take (k + 1)) = false) := Lib.hid (by have h := HT.out; unfold nzB at h ⊢; rw [HX.out, List.any_append, h]; rfl)
        clear HX HY HT
        go_wp2_with fail
        refine HP.out.mono ?_
        rintro e w2 ⟨rfl, rfl⟩
        rw [decide_eq_false (by simp)]
        go_wp2
        go_round
        case rel => exact ⟨k + 1, by omega, by go_num, HT2⟩
        case measure => simp [intOf]; omega
      · have HA := Lib.hid (HY.out hx0)
        have HX0 := Lib.hid hx0
        clear HX HY HT hx0
        go_wp2_with fail
        refine HP.out.mono ?_
        rintro e w2 ⟨rfl, rfl⟩
        rw [decide_eq_true HX0.out]
        go_wp2
        go_ret
        exact ⟨⟨k, rfl, by omega, by rw [HA.out]; simp⟩, rfl⟩
    · have hlt' : ¬ (k : Int) < n := by omega
      have HA : Hid (nzB l = false) := Lib.hid (by have := HT.out; rw [List.take_of_length_le (by have := HN.out; omega)] at this; exact this)
      clear HT
      go_wp2
      go_ret
      exact ⟨⟨-1, rfl, by omega, by rw [HA.out]; rfl⟩, rfl⟩
theorem ContainsB_any (l : List Nat) (n c : Nat) (hn : l.length = n) (hnb : (n : Int) ≤ 1000000000) (A : Option Addr) (w : World) (h : Rd w w.heap.size A l) :
    Calls Tryz.prog 164 #[.slice A n c, .func (.func 165) #[] #[]] w fun e w' => e = .returned (.bool (nzB l)) ∧ w' = w := by
  have HI := Lib.hid (IndexB_any l n c hn hnb A w h)
  clear h
  generalize nzB l = Q at *
  go_enter Tryz.func164, Tryz.ntmps164
  go_wp2_with fail
  refine HI.out.mono ?_
  rintro e w2 ⟨⟨r, rfl, h1, h2⟩, rfl⟩
  clear HI
  go_wp2
  go_ret
  exact ⟨rfl, rfl⟩
/-! ### What a slot has -/
def slotE (l : List Nat) (i : Nat) : Int := (readMark l - i - 1) / 2097152
def slotOk (l : List Nat) (i : Nat) : Bool := (readErr l == 0) && okEp (slotE l i) && (readMark l == slotE l i * 2097152 + i + 1)
def slotEp (l : List Nat) (i : Nat) : Int := if slotOk l i then slotE l i else 0
def slotLoad (l : List Nat) (i : Nat) : List Nat := if slotOk l i then readLoad l else []
def slotEmpty (l : List Nat) (i : Nat) : Bool := if slotOk l i then false else !nzB l
theorem readMark_le (l : List Nat) (hb : ∀ b ∈ l, b < 256) (h1 : 64 ≤ l.length) : 0 ≤ readMark l ∧ readMark l ≤ 4611686018427387904 := by
  obtain ⟨h2, h3⟩ := readOk_eq l hb h1
  cases hr : readOk l with
  | false => unfold readMark; rw [hr]; simp
  | true =>
    rw [h3 hr]
    rw [hr] at h2
    unfold refOk at h2
    have := of_decide_eq_true h2.symm
    omega
end Go.Proofs.YtfmdmfiljplkoaaGreat
namespace Go.Proofs.YtfmdmfiljplkoaaGreat
open Go.RowKit Go.Maps Go.Shelf
attribute [local go_sem] Oper.semAt_some
set_option maxRecDepth 8000
variable {ι : Type} [Bar ι]
theorem slots_any (p : Value) (f c : Int) (Eb : Nat) (w : World) : Calls Tryz.prog 111 #[.agg #[p, .int .i64 f, .int .i64 c], .pointer (some ⟨Eb, 0, none⟩)] w fun e w' => ∃ X, e = .returned (.func (.func 163) #[] #[.pointer (some ⟨X, 0, none⟩), .pointer (some ⟨X + 1, 0, none⟩)]) ∧
    Blk w' X #[p, .int .i64 f, .int .i64 c] 172 ∧ Blk w' (X + 1) #[.pointer (some ⟨Eb, 0, none⟩)] 102 ∧ w.heap.size ≤ X ∧ Below w.heap.size w w' := by
  have h1 : Blk ((w.alloc (.cells #[p, .int .i64 f, .int .i64 c] 172)).alloc (.cells #[.pointer (some ⟨Eb, 0, none⟩)] 102)) w.heap.size #[p, .int .i64 f, .int .i64 c] 172 := (Blk.new w _ _).alloc _
  have h2 : Blk ((w.alloc (.cells #[p, .int .i64 f, .int .i64 c] 172)).alloc (.cells #[.pointer (some ⟨Eb, 0, none⟩)] 102)) (w.heap.size + 1) #[.pointer (some ⟨Eb, 0, none⟩)] 102 := Blk.new' _ _ _ (by simp)
  have H := Lib.hid (And.intro h1 (And.intro h2 (grow_alloc (grow_alloc (Below.refl _ w) (.cells #[p, .int .i64 f, .int .i64 c] 172)) (.cells #[.pointer (some ⟨Eb, 0, none⟩)] 102))))
  clear h1 h2
  go_enter Tryz.func111, Tryz.ntmps111
  go_wp2
  go_ret
  exact ⟨_, rfl, H.out.1, H.out.2.1, Nat.le_refl _, H.out.2.2⟩
theorem slot_no {s : List Nat} {k : Nat} (h : slotOk s k = false) : slotEp s k = 0 ∧ slotLoad s k = [] ∧ slotEmpty s k = !nzB s := by
  unfold slotEp slotLoad slotEmpty; rw [h]; exact ⟨rfl, rfl, rfl⟩
theorem slot_yes {s : List Nat} {k : Nat} (h : slotOk s k = true) : slotEp s k = slotE s k ∧ slotLoad s k = readLoad s ∧ slotEmpty s k = false := by
  unfold slotEp slotLoad slotEmpty; rw [h]; exact ⟨rfl, rfl, rfl⟩
theorem box_set {wr w : World} {Y : Nat} {q : Bool} {u : Value} {e : Int} {l : List Nat} (h : Below wr.heap.size wr w ∧ Blk w Y #[.int .i64 0, .slice none 0 0, .bool (!q)] 179 ∧ (∃ B, Own w B u l) ∧ wr.heap.size ≤ Y) :
    Below wr.heap.size wr (((w.setCell ⟨Y, 0, none⟩ (.int .i64 e)).setCell ⟨Y, 1, none⟩ u).setCell ⟨Y, 2, none⟩ (.bool false)) ∧ ∃ B, Own (((w.setCell ⟨Y, 0, none⟩ (.int .i64 e)).setCell ⟨Y, 1, none⟩ u).setCell ⟨Y, 2, none⟩ (.bool false)) B u l := by
  obtain ⟨h1, h2, ⟨B, h3⟩, h4⟩ := h
  have ht : Turn [Y] w (((w.setCell ⟨Y, 0, none⟩ (.int .i64 e)).setCell ⟨Y, 1, none⟩ u).setCell ⟨Y, 2, none⟩ (.bool false)) := (((Turn.refl [Y] w).set (.inl (by simp)) _).set (.inl (by simp)) _).set (.inl (by simp)) _
  refine ⟨((h1.setCell (p := ⟨Y, 0, none⟩) h4 _).setCell (p := ⟨Y, 1, none⟩) h4 _).setCell (p := ⟨Y, 2, none⟩) h4 _, B, h3.1, h3.2.1, ?_⟩
  rcases h3.2.2 with h0 | ⟨g, cap, cur, rfl, hb, hh, r⟩
  · exact .inl h0
  · refine .inr ⟨g, cap, cur, rfl, hb, (ht.block g (lt_of_block hh) (fun e => ?_)).trans hh, r⟩
    simp at e
    subst e
    unfold Blk at h2
    rw [hh] at h2
    cases h2
theorem readErr_two (l : List Nat) : readErr l = 0 ∨ readErr l = 5 := by unfold readErr; split <;> simp
set_option maxHeartbeats 8000000 in
theorem iter_any {l Pb Eb b m : Nat} {vl : Value} {D : Dsk} {W1 : World} (J : Nat → World → Prop) (Jx : World → Prop) (first count : Nat) (hcb : (count : Int) ≤ 1048576) (hfb : (first : Int) ≤ 1048576)
    (hJ : ∀ k W, J k W → Blk W Pb #[.pointer (some ⟨b, 0, none⟩), .int .i64 first, .int .i64 count] 172 ∧ DiskAt W b m vl D) (hgr : ∀ k W W', J k W → Below W.heap.size W W' → J k W')
    (hlo : D.loose.length ≤ 1000000000) (hup : ∀ k : Nat, k < count → D.ready ((first : Int) + k) = 0)
    (hy : ∀ (k : Nat) (W : World) (v : Value) (R : Ending → World → Prop), k < count → J k W → (∃ B, Own W B v (slotLoad (D.tells ((first : Int) + k)) k)) →
      (∀ W', J (k + 1) W' → R (.returned (.bool true)) W') → (∀ W', Jx W' → R (.returned (.bool false)) W') →
      YieldAt Fence.wide 3 Tryz.prog l #[.int .i64 k, .agg #[.int .i64 (slotEp (D.tells ((first : Int) + k)) k), v, .bool (slotEmpty (D.tells ((first : Int) + k)) k)]] W R)
    (h0 : J 0 W1) : CallsIn Fence.wide 4 Tryz.prog 163 #[.func (.yield l) #[] #[], .pointer (some ⟨Pb, 0, none⟩), .pointer (some ⟨Eb, 0, none⟩)] W1 fun e W2 => (∃ v, e = .returned v) ∧ (J count W2 ∨ Jx W2) := by
  have HJ := Lib.hid hJ
  have HGR := Lib.hid hgr
  have HLO := Lib.hid hlo
  have HUP := Lib.hid hup
  have HY := Lib.hid hy
  have H0 := Lib.hid h0
  have c2 : W1.cell? ⟨Pb, 2, none⟩ = some (.int .i64 count) := (hJ 0 W1 h0).1.cell 2
  clear hJ hgr hlo hup hy h0
  refine callsIn_of_wp Tryz.func163 rfl trivial ?_
  simp only [Tryz.ntmps163, List.size_toArray, List.length_cons, List.length_nil, Nat.reduceAdd, Nat.reduceSub, Array.replicate_succ, Array.replicate_zero, List.push_toArray, List.append_toArray, List.nil_append, List.cons_append]
  gi_wp2_with fail
  gi_loopw [14] (fun i wr => ∃ k : Nat, k ≤ count ∧ i = .int .i64 k ∧ Hid (J k wr)) (fun i _ => count - (intOf i).toNat)
  case atStart => exact ⟨0, by omega, rfl, H0⟩
  case round =>
    clear H0 c2
    obtain ⟨k, hk, rfl, HK⟩ := hrel
    by_cases hlt : k < count
    · have hlt' : (k : Int) < count := by omega
      have hk0 := HJ.out k wr HK.out
      have c0 := hk0.1.cell 0
      have c1 := hk0.1.cell 1
      obtain ⟨s, hs⟩ : ∃ s, s = D.tells ((first : Int) + k) := ⟨_, rfl⟩
      have hst := Dsk.tells_ok hk0.2.ok ((first : Int) + k)
      rw [← hs] at hst
      have hz1 := hk0.2.ok.z1
      have hz2 := hk0.2.ok.z2
      have hrd := Read_yes ((first : Int) + k) hk0.2 (HUP.out k hlt) HLO.out
      have hyk := HY.out k
      rw [← hs] at hyk hrd
      have HYK := Lib.hid hyk
      have HRD := Lib.hid hrd
      have HST := Lib.hid hst
      have HZZ := Lib.hid (And.intro hz1 hz2)
      clear hk0 hst hz1 hz2 hrd hyk hs
      gi_wp2_with fail
      refine ⟨trivial, callsIn_wide.2 (HRD.out.mono ?_)⟩
      rintro e w2 ⟨v, rfl, ho, hb2⟩
      obtain ⟨p, c, rfl, hpb, hpc⟩ := ho.at_ D.size HST.out.1 (by have := HZZ.out; omega)
      obtain ⟨A', c', e', hr⟩ := ho.form
      injection e' with e1 e2 e3
      subst e1 e3
      have HR2 := Lib.hid (And.intro hr (And.intro ho.cap hb2))
      clear ho hb2 hr hpb hpc c0 c1 HRD e2
      have HCB := Lib.hid (fun w (h : Rd w w.heap.size (some p) s) => ContainsB_any s D.size c HST.out.1 (by have := HZZ.out; omega) (some p) w h)
      have HFR : Hid (∀ w, Rd w w.heap.size (some p) s → Calls Tryz.prog 162 #[.slice (some p) D.size c] w fun e w' => ∃ v', e = .returned (.tuple #[.int .i64 (readMark s), v', .int .i64 (readErr s)]) ∧ Own w' w.heap.size v' (readLoad s) ∧ Below w.heap.size w w') := Lib.hid (fun w h => by
        have hl := HST.out.1
        have := FRead_any p s c w h (by have := HZZ.out; omega) (by have := HZZ.out; omega) (by have := HR2.out.2.1; omega)
        rw [hl] at this
        exact this)
      have hm := readMark_le s HST.out.2 (by have := HZZ.out; have := HST.out.1; omega)
      have hm0 := hm.1
      have hm1 := hm.2
      clear hm
      gi_wp2_with fail
      refine ⟨trivial, callsIn_wide.2 ((HCB.out w2 HR2.out.1).mono ?_)⟩
      rintro e w3 ⟨rfl, hw3⟩
      subst hw3
      obtain ⟨q, hq⟩ : ∃ q, q = nzB s := ⟨_, rfl⟩
      rw [← hq]
      obtain ⟨w4, hw4⟩ : ∃ w4, w4 = w3.alloc (.cells #[.int .i64 0, .slice none 0 0, .bool (!q)] 179) := ⟨_, rfl⟩
      have hb4 : Below w3.heap.size w3 w4 := by subst hw4; exact grow_alloc (Below.refl _ _) _
      have hY : Blk w4 w3.heap.size #[.int .i64 0, .slice none 0 0, .bool (!q)] 179 := by subst hw4; exact Blk.new _ _ _
      have HQ := Lib.hid hq
      obtain ⟨Y, hYs⟩ : ∃ Y, Y = w3.heap.size := ⟨_, rfl⟩
      rw [← hYs] at hY
      have H4 : Hid (Below wr.heap.size wr w4 ∧ Blk w4 Y #[.int .i64 0, .slice none 0 0, .bool (!q)] 179 ∧ Rd w4 w4.heap.size (some p) s ∧ wr.heap.size ≤ Y) := Lib.hid ⟨grow HR2.out.2.2 hb4, hY, HR2.out.1.below hb4 hb4.size, by rw [hYs]; exact HR2.out.2.2.size⟩
      clear hb4 hY hq HCB HR2
      gi_wp2_with fail
      rw [← hYs, ← hw4]
      clear hw4 hYs w3
      refine ⟨trivial, callsIn_wide.2 ((HFR.out w4 H4.out.2.2.1).mono ?_)⟩
      rintro e w5 ⟨v9, rfl, ho9, hb9⟩
      obtain ⟨A9, c9, rfl, _⟩ := ho9.form
      obtain ⟨n9, hn9⟩ : ∃ n9, n9 = (readLoad s).length := ⟨_, rfl⟩
      rw [← hn9] at ho9 ⊢
      have hY5 : Blk w5 Y #[.int .i64 0, .slice none 0 0, .bool (!q)] 179 := H4.out.2.1.grew hb9
      have H5 : Hid (Below wr.heap.size wr w5 ∧ Blk w5 Y #[.int .i64 0, .slice none 0 0, .bool (!q)] 179 ∧ (∃ B, Own w5 B (.slice A9 n9 c9) (readLoad s)) ∧ wr.heap.size ≤ Y) := Lib.hid ⟨grow H4.out.1 hb9, hY5, ⟨_, ho9⟩, H4.out.2.2.2⟩
      clear ho9 hb9 hn9 H4 HFR
      have y0 := hY5.cell 0
      have y1 := hY5.cell 1
      have y2 := hY5.cell 2
      have g0 := hY5.free 0
      have g1 := hY5.free 1
      have g2 := hY5.free 2
      clear hY5
      obtain ⟨eE, heE⟩ : ∃ eE, eE = slotE s k := ⟨_, rfl⟩
      have hdv : (readMark s - (k : Int) - 1) / 2097152 = eE := by rw [heE]; rfl
      have hso : slotOk s k = ((readErr s == 0) && okEp eE && (readMark s == eE * 2097152 + k + 1)) := by rw [heE]; rfl
      have hse : slotOk s k = true → slotEp s k = eE := fun h => by rw [(slot_yes h).1, heE]
      have HSE := Lib.hid hse
      have HSO := Lib.hid hso
      have HMAY := Lib.hid (fun w => lmay_any eE w)
      clear hso heE hse
      generalize readMark s = M at *
      rcases readErr_two s with hE | hE
      · rw [hE] at HSO ⊢
        cases hoe : okEp eE with
        | false =>
          have hno : slotOk s k = false := by rw [HSO.out, hoe]; simp
          rw [hoe] at HMAY
          have hs := slot_no hno
          rw [hs.1, hs.2.1, hs.2.2, ← HQ.out] at HYK
          have HYF := Lib.hid (fun W R (hj : J k W) ho => HYK.out W (.slice none 0 0) R hlt hj ho)
          have HWB : Hid (Below wr.heap.size wr w5 ∧ ∃ B, Own w5 B (.slice none 0 0) []) := Lib.hid ⟨H5.out.1, 0, Own.none_ _ _⟩
          clear hs HYK HSO HSE H5 hno HQ
          gi_wp2_with fail
          refine ⟨trivial, callsIn_wide.2 ((HMAY.out w5).mono ?_)⟩
          rintro e w6 ⟨rfl, hw6⟩
          subst hw6
          gi_wp2_with fail
          refine ⟨trivial, ?_⟩
          gi_wp2_with fail
          refine upon_yield (by intro h; cases h) ?_
          refine HYF.out _ _ (HGR.out _ _ _ HK.out HWB.out.1) HWB.out.2 (fun W' hj => ?_) (fun W' hj => ?_)
          · have HJ2 := Lib.hid hj
            clear hj
            gi_wp2
            go_roundw
            case rel => exact ⟨k + 1, by omega, by go_num, HJ2⟩
            case measure => simp [intOf]; omega
          · have HJ2 := Lib.hid hj
            clear hj
            gi_wp2
            refine bodyPost_ret (results_none rfl _ _ _) rfl ⟨⟨_, rfl⟩, Or.inr HJ2.out⟩
        | true =>
          have hoe2 := of_decide_eq_true hoe
          have HMK := Lib.hid (fun w => mark_any eE (k : Int) hoe2 (by omega) w)
          rw [hoe] at HMAY
          by_cases hmm : M = eE * 2097152 + k + 1
          · have hyes : slotOk s k = true := by rw [HSO.out, hoe, hmm]; simp
            have hs := slot_yes hyes
            rw [HSE.out hyes, hs.2.1, hs.2.2] at HYK
            have HYF := Lib.hid (fun W R (hj : J k W) ho => HYK.out W (.slice A9 n9 c9) R hlt hj ho)
            have hmt : (M == eE * 2097152 + k + 1) = true := by simpa using hmm
            clear hmm
            gi_wp2_with fail
            refine ⟨trivial, callsIn_wide.2 ((HMAY.out w5).mono ?_)⟩
            rintro e w6 ⟨rfl, hw6⟩
            subst hw6
            gi_wp2_with fail
            refine ⟨trivial, callsIn_wide.2 ((HMK.out _).mono ?_)⟩
            rintro e w7 ⟨rfl, hw7⟩
            subst hw7
            have HWB : Hid (Below wr.heap.size wr (((w7.setCell ⟨Y, 0, none⟩ (.int .i64 eE)).setCell ⟨Y, 1, none⟩ (.slice A9 n9 c9)).setCell ⟨Y, 2, none⟩ (.bool false)) ∧ ∃ B, Own (((w7.setCell ⟨Y, 0, none⟩ (.int .i64 eE)).setCell ⟨Y, 1, none⟩ (.slice A9 n9 c9)).setCell ⟨Y, 2, none⟩ (.bool false)) B (.slice A9 n9 c9) (readLoad s)) := Lib.hid (box_set H5.out)
            clear hs HYK HSO HSE H5 hyes HQ
            gi_wp2_with fail
            refine upon_yield (by intro h; cases h) ?_
            refine HYF.out _ _ (HGR.out _ _ _ HK.out HWB.out.1) HWB.out.2 (fun W' hj => ?_) (fun W' hj => ?_)
            · have HJ2 := Lib.hid hj
              clear hj
              gi_wp2
              go_roundw
              case rel => exact ⟨k + 1, by omega, by go_num, HJ2⟩
              case measure => simp [intOf]; omega
            · have HJ2 := Lib.hid hj
              clear hj
              gi_wp2
              refine bodyPost_ret (results_none rfl _ _ _) rfl ⟨⟨_, rfl⟩, Or.inr HJ2.out⟩
          · have hno : slotOk s k = false := by rw [HSO.out, hoe]; simp [hmm]
            have hs := slot_no hno
            rw [hs.1, hs.2.1, hs.2.2, ← HQ.out] at HYK
            have HYF := Lib.hid (fun W R (hj : J k W) ho => HYK.out W (.slice none 0 0) R hlt hj ho)
            have HWB : Hid (Below wr.heap.size wr w5 ∧ ∃ B, Own w5 B (.slice none 0 0) []) := Lib.hid ⟨H5.out.1, 0, Own.none_ _ _⟩
            clear hs HYK HSO HSE H5 hno HQ
            have hmf : (M == eE * 2097152 + k + 1) = false := by simpa using hmm
            gi_wp2_with fail
            refine ⟨trivial, callsIn_wide.2 ((HMAY.out w5).mono ?_)⟩
            rintro e w6 ⟨rfl, hw6⟩
            subst hw6
            gi_wp2_with fail
            refine ⟨trivial, callsIn_wide.2 ((HMK.out _).mono ?_)⟩
            rintro e w7 ⟨rfl, hw7⟩
            subst hw7
            gi_wp2_with fail
            refine upon_yield (by intro h; cases h) ?_
            refine HYF.out _ _ (HGR.out _ _ _ HK.out HWB.out.1) HWB.out.2 (fun W' hj => ?_) (fun W' hj => ?_)
            · have HJ2 := Lib.hid hj
              clear hj
              gi_wp2
              go_roundw
              case rel => exact ⟨k + 1, by omega, by go_num, HJ2⟩
              case measure => simp [intOf]; omega
            · have HJ2 := Lib.hid hj
              clear hj
              gi_wp2
              refine bodyPost_ret (results_none rfl _ _ _) rfl ⟨⟨_, rfl⟩, Or.inr HJ2.out⟩
      · rw [hE] at HSO ⊢
        have hno : slotOk s k = false := by rw [HSO.out]; rfl
        have hs := slot_no hno
        rw [hs.1, hs.2.1, hs.2.2, ← HQ.out] at HYK
        have HYF := Lib.hid (fun W R (hj : J k W) ho => HYK.out W (.slice none 0 0) R hlt hj ho)
        have HWB : Hid (Below wr.heap.size wr w5 ∧ ∃ B, Own w5 B (.slice none 0 0) []) := Lib.hid ⟨H5.out.1, 0, Own.none_ _ _⟩
        clear hs HYK HSO HSE H5 hno HQ
        gi_wp2_with fail
        refine ⟨trivial, ?_⟩
        gi_wp2_with fail
        refine ⟨trivial, ?_⟩
        gi_wp2_with fail
        refine upon_yield (by intro h; cases h) ?_
        refine HYF.out _ _ (HGR.out _ _ _ HK.out HWB.out.1) HWB.out.2 (fun W' hj => ?_) (fun W' hj => ?_)
        · have HJ2 := Lib.hid hj
          clear hj
          gi_wp2
          go_roundw
          case rel => exact ⟨k + 1, by omega, by go_num, HJ2⟩
          case measure => simp [intOf]; omega
        · have HJ2 := Lib.hid hj
          clear hj
          gi_wp2
          refine bodyPost_ret (results_none rfl _ _ _) rfl ⟨⟨_, rfl⟩, Or.inr HJ2.out⟩
    · have hlt' : ¬ (k : Int) < count := by omega
      obtain rfl : k = count := by omega
      gi_wp2
      go_end0
      exact ⟨⟨_, rfl⟩, Or.inl HK.out⟩
end Go.Proofs.YtfmdmfiljplkoaaGreat
namespace Go.Proofs.YtfmdmfiljplkoaaGreat
open Go.RowKit Go.Maps Go.Shelf
attribute [local go_sem] Oper.semAt_some
set_option maxRecDepth 8000
variable {ι : Type} [Bar ι]
/-- The greatest epoch of a log's first k slots. -/
def latV (D : Dsk) (f : Nat) : Nat → Int
  | 0 => 0
  | k + 1 => max (latV D f k) (slotEp (D.tells ((f : Int) + k)) k)
theorem slotEp_in (s : List Nat) (k : Nat) : 0 ≤ slotEp s k ∧ slotEp s k ≤ 1099511627776 := by
  unfold slotEp
  split
  · rename_i h
    unfold slotOk at h
    simp only [Bool.and_eq_true] at h
    have := of_decide_eq_true h.1.2
    omega
  · omega
theorem latV_in (D : Dsk) (f : Nat) : ∀ k, 0 ≤ latV D f k ∧ latV D f k ≤ 1099511627776
  | 0 => by simp [latV]
  | k + 1 => by
    have h1 := latV_in D f k
    have h2 := slotEp_in (D.tells ((f : Int) + k)) k
    simp only [latV]
    omega
structure LtSt (w0 v : World) (b m : Nat) (vl : Value) (D : Dsk) (f c X EB OB d l : Nat) (out : Int) (o : Loop) : Prop where
  disk : DiskAt v b m vl D
  kX : Blk v X #[.pointer (some ⟨b, 0, none⟩), .int .i64 f, .int .i64 c] 172
  kE : Blk v EB #[.int .i64 0] 30
  kO : Blk v OB #[.int .i64 out] 3
  kd : v.heap[d]? = some (.deferred (some []))
  kl : v.heap[l]? = some (.loop o)
  low : Below w0.heap.size w0 v
  lo : w0.heap.size ≤ OB ∧ w0.heap.size ≤ l ∧ w0.heap.size ≤ d
section
variable {w0 v v' : World} {b m : Nat} {vl : Value} {D : Dsk} {f c X EB OB d l : Nat} {out : Int} {o o' : Loop}
theorem LtSt.grew (h : LtSt w0 v b m vl D f c X EB OB d l out o) (k : Below v.heap.size v v') : LtSt w0 v' b m vl D f c X EB OB d l out o :=
  ⟨h.disk.grew k, h.kX.grew k, h.kE.grew k, h.kO.grew k, (k.block _ (lt_of_block h.kd)).trans h.kd, (k.block _ (lt_of_block h.kl)).trans h.kl, grow h.low k, h.lo⟩
theorem LtSt.turned (h : LtSt w0 v b m vl D f c X EB OB d l out o) (k : Turned l (.loop o') v v') : LtSt w0 v' b m vl D f c X EB OB d l out o' := by
  refine ⟨h.disk.turned h.kl k, h.kX.turned h.kl k, h.kE.turned h.kl k, h.kO.turned h.kl k, (k.same d ?_).trans h.kd, k.at_, h.low.trans (k.below h.lo.2.1), h.lo⟩
  intro e
  have := h.kd
  rw [e, h.kl] at this
  cases this
theorem LtSt.set (h : LtSt w0 v b m vl D f c X EB OB d l out o) (x : Int) : LtSt w0 (v.setCell ⟨OB, 0, none⟩ (.int .i64 x)) b m vl D f c X EB OB d l x o := by
  have ht : Turn [OB] v (v.setCell ⟨OB, 0, none⟩ (.int .i64 x)) := (Turn.refl [OB] v).set (.inl (by simp)) _
  have nb : NoBytes v [OB] := by
    intro k hk cs fz e
    simp at hk; subst hk
    have := h.kO; unfold Blk at this; rw [this] at e; cases e
  have ne : ∀ (x : Nat) (o : Obj), v.heap[x]? = some o → (∀ c, o ≠ .cells c 3 (0, 0)) → x ∉ [OB] := by
    intro x o hx ho hm
    simp at hm; subst hm
    have := h.kO; unfold Blk at this; rw [this] at hx
    exact ho _ (Option.some.inj hx).symm
  refine ⟨h.disk.turn ht nb (fun j hj => ?_), (ht.block X h.kX.lt (ne _ _ h.kX (by intro c e; cases e))).trans h.kX, (ht.block EB h.kE.lt (ne _ _ h.kE (by intro c e; cases e))).trans h.kE, ?_,
    (ht.block d (lt_of_block h.kd) (ne _ _ h.kd (by intro c e; cases e))).trans h.kd, (ht.block l (lt_of_block h.kl) (ne _ _ h.kl (by intro c e; cases e))).trans h.kl, h.low.setCell (p := ⟨OB, 0, none⟩) h.lo.1 _, h.lo⟩
  · rcases mem_own.1 hj with e | e | hg
    · rw [e]; exact ne _ _ h.disk.blk (by intro c e; cases e)
    · obtain ⟨es, clock, hm⟩ := h.disk.fast.kind; rw [e]; exact ne _ _ hm (by intro c e; cases e)
    · obtain ⟨cs, e⟩ := h.disk.loose.kind hg; exact ne _ _ e (by intro c e; cases e)
  · have := h.kO.set 0 (.int .i64 x)
    simpa using this
end
set_option maxHeartbeats 8000000 in
theorem Latest_any {w : World} {b m : Nat} {vl : Value} {D : Dsk} (h : DiskAt w b m vl D) (f c : Nat) (hk : okAt D f c = true) (hlo : D.loose.length ≤ 1000000000) (hdn : D.down = false) :
    Calls Tryz.prog 56 #[.pointer (some ⟨b, 0, none⟩), .int .i64 f, .int .i64 c] w fun e w' => e = .returned (.tuple #[.int .i64 (latV D f c), .int .i64 0]) ∧ Below w.heap.size w w' := by
  refine (callsIn_wide (n := 5)).1 ?_
  have HAT := Lib.hid (at_ok h f c hk)
  unfold okAt at hk
  have hk2 := of_decide_eq_true hk
  have hs2 := h.ok.s2
  have HUP : Hid (∀ k : Nat, k < c → D.ready ((f : Int) + k) = 0) := Lib.hid (fun k hkc => by unfold Dsk.ready; rw [hdn, if_neg (by simp), if_neg (by omega)])
  have HD := Lib.hid h
  have HLO := Lib.hid hlo
  have hcb : (c : Int) ≤ 1048576 := by omega
  have hfb : (f : Int) ≤ 1048576 := by omega
  clear h hk hk2 hs2 hlo hdn
  refine callsIn_of_wp_marks Tryz.func56 rfl trivial ?_
  simp only [Tryz.ntmps56, List.size_toArray, List.length_cons, List.length_nil, Nat.reduceAdd, Nat.reduceSub, Array.replicate_succ, Array.replicate_zero, List.push_toArray, List.append_toArray, List.nil_append, List.cons_append]
  gi_wp2_with fail
  refine ⟨trivial, callsIn_wide.2 (HAT.out.mono ?_)⟩
  rintro e w1 ⟨rfl, hb1⟩
  have H1 : Hid (∀ v, v = (((w1.alloc (.cells #[.pointer (some ⟨b, 0, none⟩), .int .i64 f, .int .i64 c] 172)).alloc (.cells #[.int .i64 0] 30)).alloc (.cells #[.int .i64 0] 3)) → Below w.heap.size w v ∧ DiskAt v b m vl D ∧ Blk v (w1.heap.size + 1) #[.int .i64 0] 30 ∧ Blk v (w1.heap.size + 1 + 1) #[.int .i64 0] 3 ∧ w.heap.size ≤ w1.heap.size + 1 + 1) := Lib.hid (by
    rintro v rfl
    have g0 : Below w1.heap.size w1 (((w1.alloc (.cells #[.pointer (some ⟨b, 0, none⟩), .int .i64 f, .int .i64 c] 172)).alloc (.cells #[.int .i64 0] 30)).alloc (.cells #[.int .i64 0] 3)) := grow_alloc (grow_alloc (grow_alloc (Below.refl _ _) _) _) _
    exact ⟨grow hb1 g0, (HD.out.grew hb1).grew g0, (Blk.new' _ _ _ (by simp)).alloc _, Blk.new' _ _ _ (by simp), by have := hb1.size; omega⟩)
  clear hb1 HAT HD
  gi_wp2_with fail
  have h2 := H1.out _ rfl
  refine ⟨trivial, callsIn_wide.2 ((slots_any _ _ _ _ _).mono ?_)⟩
  rintro e w4 ⟨X, rfl, hX, _, _, hb4⟩
  have H4 := Lib.hid (And.intro (grow h2.1 hb4) (And.intro (h2.2.1.grew hb4) (And.intro (h2.2.2.1.grew hb4) (And.intro (h2.2.2.2.1.grew hb4) (And.intro h2.2.2.2.2 hX)))))
  clear h2 hX hb4 H1
  generalize w1.heap.size + 1 + 1 = OB at *
  generalize w1.heap.size + 1 = EB at *
  gi_wp2_with fail
  refine wpIn_range rfl (by decide) (gf := 163) (lb := #[.pointer (some ⟨X, 0, none⟩), .pointer (some ⟨X + 1, 0, none⟩)]) rfl trivial (enters_of Tryz.func163 (by kernel_rfl) rfl) ?_
  intro fn hfn W1 hb1 hz1 hD hL
  generalize hrec : recOf fn _ _ _ _ _ = rec at hL ⊢
  have HR := Lib.hid hrec
  clear hrec
  have R1 : LtSt w W1 b m vl D f c X EB OB w4.heap.size (w4.heap.size + 1) (latV D f 0) (rec .ready none) :=
    ⟨H4.out.2.1.grew hb1, H4.out.2.2.2.2.2.grew hb1, H4.out.2.2.1.grew hb1, H4.out.2.2.2.1.grew hb1, hD, hL, grow H4.out.1 hb1, ⟨H4.out.2.2.2.2.1, Nat.le_trans H4.out.1.size (by omega), H4.out.1.size⟩⟩
  have RR := Lib.hid R1
  clear H4 hD hL hb1 R1 hz1
  generalize w4.heap.size = d at *
  refine (iter_any (fun k W => LtSt w W b m vl D f c X EB OB d (d + 1) (latV D f k) (rec .ready none)) (fun _ => False) f c hcb hfb (fun k W h => ⟨h.kX, h.disk⟩) (fun k W W' h hb => h.grew hb) HLO.out HUP.out ?_ RR.out).mono ?_
  · intro k W v R hkc hJ ho hR hRx
    obtain ⟨B, ho⟩ := ho
    obtain ⟨A, c9, rfl, _⟩ := ho.form
    have hep := slotEp_in (D.tells ((f : Int) + k)) k
    have hov := latV_in D f k
    have hlk : latV D f (k + 1) = max (latV D f k) (slotEp (D.tells ((f : Int) + k)) k) := rfl
    rw [hlk] at hR
    have HJ := Lib.hid hJ
    have dL := hJ.kl
    rw [← HR.out] at dL
    refine yield_of trivial dL rfl ?_
    have HRR := Lib.hid hR
    generalize slotLoad (D.tells ((f : Int) + k)) k = ld at *
    generalize slotEmpty (D.tells ((f : Int) + k)) k = em at *
    generalize slotEp (D.tells ((f : Int) + k)) k = ep at *
    generalize latV D f k = out at *
    have e0 := hep.1
    have e1 := hep.2
    have o0 := hov.1
    have o1 := hov.2
    clear hR hRx hJ ho hlk dL RR HUP hep hov
    obtain ⟨n9, hn9⟩ : ∃ n9, n9 = ld.length := ⟨_, rfl⟩
    rw [← hn9]
    clear hn9
    have H2 : Hid (∀ W2, W2 = W.alloc (.cells #[.int .i64 ep, .slice A n9 c9, .bool em] 179) → LtSt w W2 b m vl D f c X EB OB d (d + 1) out (rec .ready none) ∧ Blk W2 W.heap.size #[.int .i64 ep, .slice A n9 c9, .bool em] 179) := Lib.hid (by
      rintro W2 rfl
      exact ⟨HJ.out.grew (grow_alloc (Below.refl _ _) _), Blk.new _ _ _⟩)
    gi_wp2_with fail
    obtain ⟨W2, hW2⟩ : ∃ W2, W2 = W.alloc (.cells #[.int .i64 ep, .slice A n9 c9, .bool em] 179) := ⟨_, rfl⟩
    rw [← hW2]
    have h2 := H2.out W2 hW2
    obtain ⟨Y, hY⟩ : ∃ Y, Y = W.heap.size := ⟨_, rfl⟩
    rw [← hY] at h2 ⊢
    have dL := h2.1.kl
    refine ⟨by rw [HR.out]; exact dL, ?_⟩
    intro W3 hT
    rw [HR.out] at hT
    have h3 := h2.1.turned hT
    have b3 := h2.2.turned dL hT
    have c0 := b3.cell 0
    have c1 := h3.kO.cell 0
    have f1 := h3.kO.free 0
    have H3 := Lib.hid h3
    clear H2 HJ hW2 hY h2 dL hT h3 b3
    rcases Int.lt_trichotomy out ep with hle | hle | hle
    · have hmx : max out ep = ep := by omega
      rw [hmx] at HRR
      have HS := Lib.hid (H3.out.set ep)
      clear hmx
      gi_wp2
      refine ⟨by rw [HR.out]; exact HS.out.kl, ?_⟩
      intro W5 hT5
      rw [HR.out] at hT5
      exact HRR.out W5 (HS.out.turned hT5)
    · subst hle
      have hmx : max out out = out := by omega
      rw [hmx] at HRR
      have HS := Lib.hid (H3.out.set out)
      clear hmx
      gi_wp2
      refine ⟨by rw [HR.out]; exact HS.out.kl, ?_⟩
      intro W5 hT5
      rw [HR.out] at hT5
      exact HRR.out W5 (HS.out.turned hT5)
    · have hmx : max out ep = out := by omega
      rw [hmx] at HRR
      have HS := Lib.hid (H3.out.set out)
      clear hmx
      gi_wp2
      refine ⟨by rw [HR.out]; exact HS.out.kl, ?_⟩
      intro W5 hT5
      rw [HR.out] at hT5
      exact HRR.out W5 (HS.out.turned hT5)
  · rintro e W2 ⟨⟨v, rfl⟩, hj | hj⟩
    · refine ⟨⟨_, rfl⟩, Or.inl ⟨hj.kl, ?_⟩⟩
      intro W3 hT
      have h3 := hj.turned hT
      have c0 := h3.kE.cell 0
      have c1 := h3.kO.cell 0
      have H3 := Lib.hid h3
      clear h3 hj hT RR HUP
      gi_wp2
      have hT := Turned.put (.deferred none) H3.out.kd
      refine ⟨by simp, .inl ⟨_, _, rfl, run_takeDeferred H3.out.kd, ?_⟩⟩
      exact ⟨_, results_tmp2 rfl _ _ _, rfl, H3.out.low.trans (hT.below H3.out.lo.2.2)⟩
    · exact hj.elim
end Go.Proofs.YtfmdmfiljplkoaaGreat
