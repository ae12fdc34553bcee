/- Slots among a law's arguments; the sectors that a law writes; plain laws of LogReads. -/
import Derived.Test.YtpomfokpmbblkaaA20
namespace Go.Proofs.Ytpomfokpmbblkaa
open Go.RowKit Go.Maps
set_option maxRecDepth 8000

/-! ### a slot that the law is given -/
structure SlotV where
  ep : Int
  at_ : Int
  page : Int
  last : Nat
  bytes : List Nat
  raw : Bool
def SlotAt (w : World) (N : Nat) (q : Addr) (x : SlotV) : Prop :=
  (x.last < 256 ∧ x.page ≤ 9223372036854775807) ∧ w.cell? q = some (.int .i64 x.ep) ∧ w.cell? ⟨q.block, q.off + 1, none⟩ = some (.int .i64 x.at_) ∧ w.cell? ⟨q.block, q.off + 2, none⟩ = some (.int .i64 x.page) ∧
  w.cell? ⟨q.block, q.off + 3, none⟩ = some (.int .u8 x.last) ∧ (∃ A c, w.cell? ⟨q.block, q.off + 4, none⟩ = some (.slice A x.bytes.length c) ∧ Rd w N A x.bytes) ∧ w.cell? ⟨q.block, q.off + 5, none⟩ = some (.bool x.raw)
def SlotsV (w : World) (N : Nat) (A : Option Addr) (l : List SlotV) : Prop :=
  l ≠ [] → ∃ p, A = some p ∧ p.block < N ∧ ∀ k (h : k < l.length), SlotAt w N (p.add (k * 6)) l[k]
section
variable {v v' : World} {N : Nat} {A : Option Addr}
theorem SlotAt.below {q : Addr} {x : SlotV} (h : SlotAt v N q x) (hb : Below N v v') (hq : q.block < N) : SlotAt v' N q x := by
  obtain ⟨h1, k0, k1, k2, k3, ⟨A, c, k4, r⟩, k5⟩ := h
  exact ⟨h1, (hb.cell hq).trans k0, (hb.cell (p := ⟨q.block, _, none⟩) hq).trans k1, (hb.cell (p := ⟨q.block, _, none⟩) hq).trans k2, (hb.cell (p := ⟨q.block, _, none⟩) hq).trans k3, ⟨A, c, (hb.cell (p := ⟨q.block, _, none⟩) hq).trans k4, r.below hb (Nat.le_refl _)⟩, (hb.cell (p := ⟨q.block, _, none⟩) hq).trans k5⟩
theorem SlotsV.below {l : List SlotV} (h : SlotsV v N A l) (hb : Below N v v') : SlotsV v' N A l := fun hn => by
  obtain ⟨p, e, hp, h⟩ := h hn
  exact ⟨p, e, hp, fun k hk => (h k hk).below hb (by rw [add_block]; exact hp)⟩
end

/-! ### what the law writes -/
def inSlot (x : SlotV) : Bool := decide (1 ≤ x.ep ∧ x.ep ≤ 1099511627776 ∧ 0 ≤ x.at_ ∧ x.at_ < 100 ∧ 0 ≤ x.page)
def secV (x : SlotV) : List Nat :=
  if x.raw then x.bytes.take 64 ++ List.replicate (64 - x.bytes.length) 0
  else if inSlot x then sector 64 (x.ep.toNat * 2097152 + x.at_.toNat + 1) (leb x.page.toNat 8 ++ [if decide (x.last % 2 = 1) then 1 else 0] ++ List.replicate 19 x.last) else List.replicate 64 0
theorem secV_length (x : SlotV) : (secV x).length = 64 := by
  unfold secV
  split
  · simp; omega
  · split
    · exact sector_length (by simp)
    · simp

/-- A disk on which these sectors have been written, from its second sector on. -/
structure Wr (D : Dsk) (ss : List (List Nat)) : Prop where
  sec : D.sectors = 12
  size : D.size = 64
  down : D.down = false
  armed : D.armed = 0
  loose : D.loose.length = ss.length
  len : ∀ k (h : k < ss.length), ss[k].length = 64
  tells : ∀ k (h : k < ss.length), D.tells ((1 : Nat) + (k : Int)) = ss[k]
theorem Wr.start : Wr (Dsk.new 12 64) [] := ⟨rfl, rfl, rfl, rfl, rfl, fun k h => absurd h (by simp), fun k h => absurd h (by simp)⟩
theorem tells_push (D : Dsk) (a0 a : Int) (l : List Nat) : ({ D with loose := D.loose ++ [(a0, l)] } : Dsk).tells a = if a0 = a then l else D.tells a := by
  unfold Dsk.tells
  show (last a (D.loose ++ [(a0, l)])).getD (D.fast a) = _
  rw [last_append]
  show ((if a0 = a then some l else none).or _).getD _ = _
  split <;> rfl
theorem Wr.push {D : Dsk} {ss : List (List Nat)} (h : Wr D ss) (hn : ss.length ≤ 10) {s : List Nat} (hs : s.length = 64) : D.putErr (1 + (ss.length : Int)) s = 0 ∧ Wr (D.put (1 + (ss.length : Int)) s) (ss ++ [s]) := by
  obtain ⟨e1, e2⟩ := put_up h.down h.armed (1 + (ss.length : Int)) s (by omega) (by rw [h.sec]; omega) (by rw [h.size]; exact hs)
  refine ⟨e2, ?_⟩
  rw [e1]
  refine ⟨h.sec, h.size, h.down, h.armed, by simp [h.loose], fun k hk => ?_, fun k hk => ?_⟩
  · by_cases hlt : k < ss.length
    · rw [List.getElem_append_left hlt]; exact h.len k hlt
    · rw [List.getElem_append_right (by omega)]; simpa using hs
  · rw [tells_push]
    by_cases hlt : k < ss.length
    · rw [if_neg (by omega), List.getElem_append_left hlt]; exact h.tells k hlt
    · have : k = ss.length := by simp at hk; omega
      subst this
      rw [if_pos (by omega)]; simp
theorem Wr.ready {D : Dsk} {ss : List (List Nat)} (h : Wr D ss) (hn : ss.length ≤ 10) (k : Nat) (hk : k < ss.length) : D.ready (1 + (k : Int)) = 0 := by
  unfold Dsk.ready; rw [h.down, h.sec, if_neg (by simp), if_neg (by omega)]
theorem Wr.at_ok {D : Dsk} {ss : List (List Nat)} (h : Wr D ss) (hn : ss.length ≤ 10) (h0 : 0 < ss.length) : okAt D (1 : Nat) ss.length = true := by
  unfold okAt
  exact decide_eq_true (by rw [h.sec]; omega)
theorem Wr.secL {D : Dsk} {ss : List (List Nat)} (h : Wr D ss) : slL D 1 ss.length 0 = secL (fun i => ss[i]?.getD []) ss.length 0 := by
  rw [slL_secL]
  refine secL_congr _ _ (fun k _ hk => ?_)
  have hk' : k < ss.length := by omega
  rw [List.getElem?_eq_getElem hk']
  exact h.tells k hk'
theorem Wr.lat {D : Dsk} {ss : List (List Nat)} (h : Wr D ss) : ∀ k, k ≤ ss.length → latV D 1 k = latS ss k
  | 0, _ => rfl
  | k + 1, hk => by
    show max (latV D 1 k) (slotEp (D.tells ((1 : Nat) + (k : Int))) k) = max (latS ss k) (slotEp (ss[k]?.getD []) k)
    rw [h.lat k (by omega), h.tells k (by omega), List.getElem?_eq_getElem (by omega : k < ss.length)]
    rfl
theorem mem_tornL (D : Dsk) (f : Nat) : ∀ n k, k ∈ tornL D f n ↔ k < n ∧ isTorn (D.tells ((f : Int) + k)) k = true
  | 0, k => by simp [tornL]
  | n + 1, k => by
    have ih := mem_tornL D f n k
    unfold tornL
    split
    · rename_i h
      rw [List.mem_append, ih]
      constructor
      · rintro (⟨h1, h2⟩ | h1)
        · exact ⟨by omega, h2⟩
        · simp at h1; subst h1; exact ⟨by omega, h⟩
      · rintro ⟨h1, h2⟩
        by_cases e : k = n
        · right; simp [e]
        · left; exact ⟨by omega, h2⟩
    · rename_i h
      rw [ih]
      constructor
      · rintro ⟨h1, h2⟩; exact ⟨by omega, h2⟩
      · rintro ⟨h1, h2⟩
        refine ⟨?_, h2⟩
        by_cases e : k = n
        · subst e; exact absurd h2 h
        · omega
theorem last_zeros (a : Int) (z : List Nat) (f : Nat) : ∀ ts : List Nat, last a (ts.map (fun i : Nat => ((f : Int) + i, z))) = if ∃ i ∈ ts, (f : Int) + i = a then some z else none
  | [] => by simp [last]
  | i :: ts => by
    rw [List.map_cons, last_cons, last_zeros a z f ts]
    show (Option.or _ (if (f : Int) + i = a then some z else none)) = _
    by_cases h2 : (f : Int) + i = a
    · rw [if_pos h2, if_pos (⟨i, by simp, h2⟩ : ∃ j ∈ i :: ts, (f : Int) + j = a)]
      split <;> rfl
    · rw [if_neg h2]
      by_cases h : ∃ i ∈ ts, (f : Int) + i = a
      · obtain ⟨j, hj, e⟩ := id h
        rw [if_pos h, if_pos (⟨j, by simp [hj], e⟩ : ∃ j ∈ i :: ts, (f : Int) + j = a)]; rfl
      · have hno : ¬ ∃ j ∈ i :: ts, (f : Int) + j = a := by
          rintro ⟨j, hj, e⟩
          rcases List.mem_cons.1 hj with e2 | hj
          · rw [e2] at e; exact h2 e
          · exact h ⟨j, hj, e⟩
        rw [if_neg h, if_neg hno]; rfl
theorem zeros_of {l : List Nat} (h : nzB l = false) : l = List.replicate l.length 0 := by
  refine List.eq_replicate_iff.2 ⟨rfl, fun b hb => ?_⟩
  have := List.any_eq_false.1 h b hb
  simpa using this
/-- What a sector is when it is no slot. -/
def wantOf (s : List Nat) (k : Nat) : List Nat := if slotEp s k = 0 then List.replicate 64 0 else s
/-- The disk behind Clean. -/
structure Cl (D : Dsk) (ss : List (List Nat)) : Prop where
  sec : D.sectors = 12
  size : D.size = 64
  down : D.down = false
  loose : D.loose = []
  tells : ∀ k (h : k < ss.length), D.tells (1 + (k : Int)) = wantOf ss[k] k
theorem slotOk_of {s : List Nat} {k : Nat} (h : slotEp s k = 0) : slotOk s k = false := by
  cases hk : slotOk s k with
  | false => rfl
  | true =>
    have h1 : slotEp s k = slotE s k := by unfold slotEp; rw [if_pos hk]
    unfold slotOk at hk
    simp only [Bool.and_eq_true] at hk
    have := of_decide_eq_true hk.1.2
    omega
theorem Wr.cleaned {D : Dsk} {ss : List (List Nat)} (h : Wr D ss) (hn : ss.length ≤ 10) : Cl (wiped D 1 (tornL D 1 ss.length)).flush ss := by
  have hw := wiped_is (f := 1) (tornL D 1 ss.length) D h.down h.armed (fun i hi => by have := tornL_lt D 1 _ i hi; rw [h.sec]; omega)
  rw [hw]
  obtain ⟨D2, hD2⟩ : ∃ D2 : Dsk, D2 = { D with loose := D.loose ++ (tornL D 1 ss.length).map (fun i : Nat => (((1 : Nat) : Int) + i, List.replicate D.size 0)) } := ⟨_, rfl⟩
  rw [← hD2]
  have hact : D2.act = D2 := by unfold Dsk.act; rw [if_neg (by rw [hD2]; show ¬ 0 < D.armed; rw [h.armed]; omega)]
  have hdn : D2.down = false := by rw [hD2]; exact h.down
  have hfl : D2.flush = { D2 with fast := settle D2.fast D2.loose, loose := [] } := by unfold Dsk.flush; rw [hact, if_neg (by simp [hdn]), if_neg (by simp [hdn])]
  rw [hfl]
  refine ⟨by rw [hD2]; exact h.sec, by rw [hD2]; exact h.size, hdn, rfl, fun k hk => ?_⟩
  have ht := tells_settled (settle D2.fast D2.loose) D ((tornL D 1 ss.length).map (fun i : Nat => (((1 : Nat) : Int) + i, List.replicate D.size 0))) (1 + (k : Int)) (by rw [hD2]) (E := { D2 with fast := settle D2.fast D2.loose, loose := [] }) rfl rfl
  rw [ht, last_zeros, h.size]
  have hdt : D.tells (1 + (k : Int)) = ss[k] := h.tells k hk
  rw [hdt]
  have hm := mem_tornL D 1 ss.length k
  have hdt2 : D.tells (((1 : Nat) : Int) + (k : Int)) = ss[k] := h.tells k hk
  rw [hdt2] at hm
  unfold wantOf
  by_cases h0 : slotEp ss[k] k = 0
  · rw [if_pos h0]
    by_cases ht : isTorn ss[k] k = true
    · rw [if_pos ⟨k, hm.2 ⟨hk, ht⟩, by omega⟩]; rfl
    · rw [if_neg (by
        rintro ⟨i, hi, e⟩
        obtain rfl : i = k := by omega
        exact ht (hm.1 hi).2)]
      show ss[k] = _
      have hem : slotEmpty ss[k] k = true := by
        unfold isTorn at ht
        rw [h0] at ht
        simpa using ht
      unfold slotEmpty at hem
      rw [slotOk_of h0] at hem
      have := zeros_of (l := ss[k]) (by simpa using hem)
      rw [h.len k hk] at this
      exact this
  · rw [if_neg h0, if_neg (by
      rintro ⟨i, hi, e⟩
      obtain rfl : i = k := by omega
      have := (hm.1 hi).2
      unfold isTorn at this
      simp at this
      exact h0 this.1)]
    rfl
end Go.Proofs.Ytpomfokpmbblkaa
