/- Plain law: what the program's Read asks of bytes is what the document asks. -/
import Derived.Test.YtipijjlajhofkaaW16
namespace Go.Proofs.Ytipijjlajhofkaa
open Go.RowKit

theorem leb_cons (x k : Nat) : leb x (k + 1) = x % 256 :: leb (x / 256) k := by
  unfold leb
  rw [List.range_succ_eq_map, List.map_cons, List.map_map]
  congr 1
  · simp
  · apply List.map_congr_left
    intro i _
    show x / 2 ^ (8 * (i + 1)) % 256 = x / 256 / 2 ^ (8 * i) % 256
    rw [Nat.div_div_eq_div_mul, Nat.mul_add, Nat.pow_add, Nat.mul_comm (2 ^ (8 * i))]
theorem num_leb : ∀ (k x : Nat), x < 2 ^ (8 * k) → num (leb x k) = x
  | 0, x, h => by
    have : x = 0 := by simpa using h
    subst this; rfl
  | k + 1, x, h => by
    have e : 2 ^ (8 * (k + 1)) = 256 * 2 ^ (8 * k) := by
      rw [Nat.mul_add, Nat.pow_add, Nat.mul_comm _ (2 ^ (8 * 1))]
    rw [leb_cons, num, num_leb k (x / 256) (by rw [Nat.div_lt_iff_lt_mul (by omega)]; omega)]
    omega
theorem leb_num : ∀ (l : List Nat), (∀ b ∈ l, b < 256) → leb (num l) l.length = l
  | [], _ => rfl
  | b :: l, h => by
    have hb := h b (by simp)
    have ih := leb_num l fun x hx => h x (by simp [hx])
    rw [List.length_cons, leb_cons, num]
    have e1 : (b + 256 * num l) % 256 = b := by omega
    have e2 : (b + 256 * num l) / 256 = num l := by omega
    rw [e1, e2, ih]
theorem num_inj {a b : List Nat} (hl : a.length = b.length) (ha : ∀ x ∈ a, x < 256) (hb : ∀ x ∈ b, x < 256) (h : num a = num b) : a = b := by
  rw [← leb_num a ha, ← leb_num b hb, h, hl]
theorem num_not : ∀ (l : List Nat), (∀ b ∈ l, b < 256) → num (l.map (255 - ·)) + num l + 1 = 2 ^ (8 * l.length)
  | [], _ => rfl
  | b :: l, h => by
    have hb := h b (by simp)
    have ih := num_not l fun x hx => h x (by simp [hx])
    have e : 2 ^ (8 * (l.length + 1)) = 256 * 2 ^ (8 * l.length) := by
      rw [Nat.mul_add, Nat.pow_add, Nat.mul_comm _ (2 ^ (8 * 1))]
    simp only [List.map_cons, num, List.length_cons, e]
    omega
theorem leb_lt (x k : Nat) : ∀ b ∈ leb x k, b < 256 := by
  intro b hb
  obtain ⟨i, _, rfl⟩ := List.mem_map.1 hb
  omega
theorem head_lt (x : Nat) : ∀ b ∈ head x, b < 256 := by
  intro b hb
  rcases List.mem_append.1 hb with h | h
  · exact leb_lt _ _ b h
  · obtain ⟨c, _, rfl⟩ := List.mem_map.1 h
    omega

theorem w64_eq (x y : Nat) (hx : x < 2 ^ 64) (hy : y < 2 ^ 64) : -1 - w64 x = w64 y ↔ y + x + 1 = 2 ^ 64 := by
  unfold w64
  rw [IntKind.wrap_i64, IntKind.wrap_i64]
  omega

theorem mem_take {l : List Nat} (h : ∀ b ∈ l, b < 256) (k : Nat) : ∀ b ∈ l.take k, b < 256 := fun b hb => h b (List.mem_of_mem_take hb)
theorem mem_drop {l : List Nat} (h : ∀ b ∈ l, b < 256) (k : Nat) : ∀ b ∈ l.drop k, b < 256 := fun b hb => h b (List.mem_of_mem_drop hb)

/-- A mark of bytes is one that stands there twice, straight and turned. -/
theorem markOf_eq (a : List Nat) (h : ∀ b ∈ a, b < 256) (hl : 16 ≤ a.length) :
    markOf a = if 1 ≤ num (a.take 8) ∧ num (a.take 8) ≤ 4611686018427387904 ∧ a.take 16 = head (num (a.take 8)) then (num (a.take 8) : Int) else 0 := by
  have l8 : (a.take 8).length = 8 := by simp; omega
  have l8' : ((a.drop 8).take 8).length = 8 := by simp; omega
  have hx : num (a.take 8) < 2 ^ 64 := by have := num_lt _ (mem_take h 8); rwa [l8] at this
  have hy : num ((a.drop 8).take 8) < 2 ^ 64 := by have := num_lt _ (mem_take (mem_drop h 8) 8); rwa [l8'] at this
  have hs : a.take 16 = a.take 8 ++ (a.drop 8).take 8 := by
    rw [show 16 = 8 + 8 from rfl, List.take_add]
  have hh : a.take 16 = head (num (a.take 8)) ↔ -1 - w64 (num (a.take 8)) = w64 (num ((a.drop 8).take 8)) := by
    rw [w64_eq _ _ hx hy, hs]
    have e := leb_num _ (mem_take h 8)
    rw [l8] at e
    unfold head
    rw [e, List.append_right_inj]
    have hn := num_not _ (mem_take h 8)
    rw [l8] at hn
    constructor
    · intro q
      rw [q]
      omega
    · intro q
      refine num_inj (by rw [l8', List.length_map, l8]) (mem_take (mem_drop h 8) 8) ?_ (by omega)
      intro b hb
      obtain ⟨c, _, rfl⟩ := List.mem_map.1 hb
      omega
  have hw : num (a.take 8) ≤ 4611686018427387904 → w64 (num (a.take 8)) = num (a.take 8) := fun q => by
    unfold w64
    rw [IntKind.wrap_i64]
    omega
  have hw2 : ¬ num (a.take 8) ≤ 4611686018427387904 → w64 (num (a.take 8)) < 1 ∨ 4611686018427387904 < w64 (num (a.take 8)) := fun q => by
    unfold w64
    rw [IntKind.wrap_i64]
    omega
  unfold markOf
  simp only [hh]
  by_cases q : num (a.take 8) ≤ 4611686018427387904
  · rw [hw q]
    split <;> rename_i c1 <;> split <;> rename_i c2 <;> omega
  · have c := hw2 q
    split <;> rename_i c1 <;> split <;> rename_i c2 <;> omega

/-- What the document asks. -/
def refOk (l : List Nat) : Bool := decide (1 ≤ num (l.take 8) ∧ num (l.take 8) ≤ 4611686018427387904 ∧ l = sector l.length (num (l.take 8)) ((l.take (l.length - 20)).drop 16))

theorem sector_parts (l : List Nat) (h1 : 64 ≤ l.length) (m : Nat) : l = sector l.length m ((l.take (l.length - 20)).drop 16) ↔
    (l.take (l.length - 20)).take 16 = head m ∧ (l.drop (l.length - 20)).take 4 = leb (M.crc (l.take (l.length - 20))) 4 ∧ (l.drop (l.length - 20)).drop 4 = head m := by
  have e0 : l.length - 36 - ((l.take (l.length - 20)).drop 16).length = 0 := by simp; omega
  have la : (l.take (l.length - 20)).length = l.length - 20 := by simp
  have e1 : body l.length m ((l.take (l.length - 20)).drop 16) = head m ++ (l.take (l.length - 20)).drop 16 := by
    unfold body; rw [e0]; simp
  unfold sector
  rw [e1]
  constructor
  · intro e
    have h20 : l.take (l.length - 20) = head m ++ (l.take (l.length - 20)).drop 16 := by
      conv => lhs; rw [e]
      rw [List.append_assoc]
      exact List.take_left' (by simp; omega)
    have ht : l.drop (l.length - 20) = leb (M.crc (head m ++ (l.take (l.length - 20)).drop 16)) 4 ++ head m := by
      conv => lhs; rw [e]
      rw [List.append_assoc]
      exact List.drop_left' (by simp; omega)
    refine ⟨?_, ?_, ?_⟩
    · conv => lhs; rw [h20]
      exact List.take_left' (by simp)
    · rw [ht, ← h20]
      exact List.take_left' (by simp)
    · rw [ht]
      exact List.drop_left' (by simp)
  · rintro ⟨q1, q2, q3⟩
    have h20 : head m ++ (l.take (l.length - 20)).drop 16 = l.take (l.length - 20) := by
      rw [← q1, List.take_append_drop]
    rw [h20, ← q2, ← q3, List.append_assoc, List.take_append_drop, List.take_append_drop]

theorem num_head (m : Nat) (h : m < 2 ^ 64) : num ((head m).take 8) = m := by
  unfold head
  rw [List.take_left' (by simp)]
  exact num_leb 8 m h

theorem readOk_eq (l : List Nat) (hb : ∀ b ∈ l, b < 256) (h1 : 64 ≤ l.length) : readOk l = refOk l ∧ (readOk l = true → readMark l = num (l.take 8)) := by
  have hN : l.length - 16 - 4 = l.length - 20 := by omega
  have ha := markOf_eq (l.take (l.length - 20)) (mem_take hb _) (by simp; omega)
  have ht := markOf_eq ((l.drop (l.length - 20)).drop 4) (mem_drop (mem_drop hb _) _) (by simp; omega)
  have e8 : (l.take (l.length - 20)).take 8 = l.take 8 := by rw [List.take_take, Nat.min_eq_left (by omega)]
  rw [e8] at ha
  have e16 : ((l.drop (l.length - 20)).drop 4).take 16 = (l.drop (l.length - 20)).drop 4 := List.take_of_length_le (by simp; omega)
  rw [e16] at ht
  have hs := sector_parts l h1 (num (l.take 8))
  have hc := M.crc_lt (l.take (l.length - 20))
  have hc4 : num ((l.drop (l.length - 20)).take 4) = M.crc (l.take (l.length - 20)) ↔ (l.drop (l.length - 20)).take 4 = leb (M.crc (l.take (l.length - 20))) 4 := by
    constructor
    · intro q
      rw [← q]
      have := leb_num _ (mem_take (mem_drop hb (l.length - 20)) 4)
      rw [show ((l.drop (l.length - 20)).take 4).length = 4 by simp; omega] at this
      exact this.symm
    · intro q
      rw [q]
      exact num_leb 4 _ (by omega)
  unfold readMark readOk refOk road
  rw [hN]
  generalize hx : num (l.take 8) = x at *
  generalize M.crc (l.take (l.length - 20)) = cr at *
  generalize hd : (l.drop (l.length - 20)).drop 4 = d at *
  generalize hz : markOf (l.take (l.length - 20)) = z at *
  generalize hg : (l.take (l.length - 20)).take 16 = g at *
  have key : (z ≠ 0 ∧ z = markOf d) ↔ (1 ≤ x ∧ x ≤ 4611686018427387904 ∧ g = head x ∧ d = head x) := by
    rw [ha, ht]
    constructor
    · rintro ⟨q1, q2⟩
      split at q1
      · rename_i c
        rw [if_pos c] at q2
        split at q2
        · rename_i c2
          have : x = num (d.take 8) := by omega
          refine ⟨c.1, c.2.1, c.2.2, ?_⟩
          rw [this]; exact c2.2.2
        · omega
      · exact absurd rfl q1
    · rintro ⟨q1, q2, q3, q4⟩
      have hd8 : num (d.take 8) = x := by rw [q4]; exact num_head x (by omega)
      rw [if_pos ⟨q1, q2, q3⟩, hd8, if_pos ⟨q1, q2, q4⟩]
      exact ⟨by omega, rfl⟩
  constructor
  · rw [decide_eq_decide, hs, hc4, ← and_assoc, key]
    constructor
    · rintro ⟨⟨q1, q2, q3, q4⟩, q5⟩; exact ⟨q1, q2, q3, q5, q4⟩
    · rintro ⟨q1, q2, q3, q5, q4⟩; exact ⟨⟨q1, q2, q3, q4⟩, q5⟩
  · intro q
    rw [if_pos q]
    have q' := of_decide_eq_true q
    have := key.1 ⟨q'.1, q'.2.1⟩
    rw [ha, if_pos ⟨this.1, this.2.1, this.2.2.1⟩]

end Go.Proofs.Ytipijjlajhofkaa
