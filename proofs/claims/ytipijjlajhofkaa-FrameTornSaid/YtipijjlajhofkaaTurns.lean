/- Plain law: a sector with one byte that is another one is no sector. -/
import Derived.Test.YtipijjlajhofkaaW18
namespace Go.Proofs.Ytipijjlajhofkaa
open Go.RowKit

theorem xor_cancel {a b c : Nat} (h : a ^^^ c = b ^^^ c) : a = b := by
  have := congrArg (· ^^^ c) h
  simpa [Nat.xor_assoc] using this
theorem bit_inj {s t : Nat} (hs : s < 4294967296) (ht : t < 4294967296) (h : M.bit s = M.bit t) : s = t := by
  have hp : M.poly.testBit 31 = true := by decide
  have k : ∀ x, x < 4294967296 → (M.bit x).testBit 31 = decide (x % 2 = 1) := fun x hx => by
    have h31 : (x / 2).testBit 31 = false := Nat.testBit_lt_two_pow (by omega)
    rw [M.bit_ref]
    by_cases e : x % 2 = 1
    · rw [if_pos e, Nat.testBit_xor, h31, hp, decide_eq_true e]; rfl
    · rw [if_neg e, h31, decide_eq_false e]
  have hpar : (s % 2 = 1 ↔ t % 2 = 1) := by
    rw [← decide_eq_decide, ← k s hs, ← k t ht, h]
  rw [M.bit_ref, M.bit_ref] at h
  by_cases e : s % 2 = 1
  · rw [if_pos e, if_pos (hpar.1 e)] at h
    have := xor_cancel h
    have := hpar.1 e
    omega
  · have e' : ¬ t % 2 = 1 := fun q => e (hpar.2 q)
    rw [if_neg e, if_neg e'] at h
    omega
theorem bits_inj {s t : Nat} (hs : s < 4294967296) (ht : t < 4294967296) : ∀ n, M.bits n s = M.bits n t → s = t
  | 0, h => h
  | n + 1, h => bits_inj hs ht n (bit_inj (M.bits_lt hs n) (M.bits_lt ht n) h)
theorem byte_inj {s t b c : Nat} (hs : s < 4294967296) (ht : t < 4294967296) (hb : b < 256) (hc : c < 256) (h : M.byte s b = M.byte t c) : s ^^^ b = t ^^^ c :=
  bits_inj (M.xor_lt32 hs (by omega)) (M.xor_lt32 ht (by omega)) 8 h
theorem roll_inj : ∀ (l : List Nat) {s t : Nat}, s < 4294967296 → t < 4294967296 → (∀ b ∈ l, b < 256) → M.roll s l = M.roll t l → s = t
  | [], _, _, _, _, _, h => h
  | b :: l, s, t, hs, ht, hl, h => by
    have hb := hl b (by simp)
    have := roll_inj l (M.byte_lt hs hb) (M.byte_lt ht hb) (fun c hc => hl c (by simp [hc])) h
    exact xor_cancel (byte_inj hs ht hb hb this)
theorem roll_append (s : Nat) (a b : List Nat) : M.roll s (a ++ b) = M.roll (M.roll s a) b := by
  unfold M.roll; rw [List.foldl_append]
/-- One byte that is another one makes another sum. -/
theorem crc_one {a b : List Nat} {x y : Nat} (ha : ∀ c ∈ a, c < 256) (hb : ∀ c ∈ b, c < 256) (hx : x < 256) (hy : y < 256) (h : M.crc (a ++ x :: b) = M.crc (a ++ y :: b)) : x = y := by
  have hr := M.roll_lt a (s := 4294967295) (by omega) ha
  have l1 : M.roll 4294967295 (a ++ x :: b) < 4294967296 := M.roll_lt _ (by omega) (by intro c hc; simp at hc; rcases hc with h | rfl | h; exact ha c h; exact hx; exact hb c h)
  have l2 : M.roll 4294967295 (a ++ y :: b) < 4294967296 := M.roll_lt _ (by omega) (by intro c hc; simp at hc; rcases hc with h | rfl | h; exact ha c h; exact hy; exact hb c h)
  have h' : M.roll 4294967295 (a ++ x :: b) = M.roll 4294967295 (a ++ y :: b) := by
    unfold M.crc at h; omega
  rw [roll_append, roll_append] at h'
  have := roll_inj b (M.byte_lt hr hx) (M.byte_lt hr hy) hb h'
  have := byte_inj hr hr hx hy this
  rw [Nat.xor_comm _ x, Nat.xor_comm _ y] at this
  exact xor_cancel this

theorem set_take {l : List Nat} {k v j : Nat} (h : j ≤ k) : (l.set k v).take j = l.take j := by
  rw [List.take_set, List.set_eq_of_length_le (by simp; omega)]
theorem set_drop {l : List Nat} {k v j : Nat} (h : k < j) : (l.set k v).drop j = l.drop j := by
  rw [List.drop_set, if_pos h]
theorem set_lt {l : List Nat} {k v : Nat} (h : ∀ b ∈ l, b < 256) (hv : v < 256) : ∀ b ∈ l.set k v, b < 256 := by
  intro b hb
  rcases List.mem_or_eq_of_mem_set hb with h' | rfl
  · exact h b h'
  · exact hv

theorem head_inj {a b : Nat} (ha : a < 2 ^ 64) (hb : b < 2 ^ 64) (h : head a = head b) : a = b := by
  rw [← num_head a ha, ← num_head b hb, h]

theorem turned_no (n m : Nat) (l : List Nat) (k v : Nat) (h1 : 64 ≤ n) (hm1 : 1 ≤ m) (hm2 : m ≤ 4611686018427387904) (hl : l.length + 36 ≤ n) (hb : ∀ b ∈ l, b < 256)
    (hk : k < (sector n m l).length) (hv : v < 256) (hne : (sector n m l)[k] ≠ v) : readOk ((sector n m l).set k v) = false := by
  have hlen : (sector n m l).length = n := sector_length hl
  have hrd := sector_reads n m l h1 hm1 hm2 hl hb
  have hsl := sector_lt (n := n) (m := m) hb
  have hq := readOk_eq _ hsl (by omega)
  have hok := hq.1.symm.trans hrd.1
  have hm : num ((sector n m l).take 8) = m := by
    have := hq.2 hrd.1
    rw [hrd.2.1] at this
    omega
  generalize sector n m l = s at *
  have hlen' : (s.set k v).length = n := by rw [List.length_set, hlen]
  rw [(readOk_eq _ (set_lt hsl hv) (by omega)).1]
  cases hc : refOk (s.set k v)
  · rfl
  exfalso
  have hc' := of_decide_eq_true hc
  have ho' := of_decide_eq_true hok
  rw [hm, hlen] at ho'
  rw [hlen'] at hc'
  generalize hm' : num ((s.set k v).take 8) = m' at *
  obtain ⟨c1, c2, c3⟩ := hc'
  obtain ⟨o1, o2, o3⟩ := ho'
  have p := (sector_parts (s.set k v) (by omega) m').1 (by rw [hlen']; exact c3)
  have q := (sector_parts s (by omega) m).1 (by rw [hlen]; exact o3)
  rw [hlen'] at p
  rw [hlen] at q
  obtain ⟨p1, p2, p3⟩ := p
  obtain ⟨q1, q2, q3⟩ := q
  have hmm : m' = m := by
    by_cases hk16 : k < 16
    · rw [List.drop_drop, set_drop (by omega), ← List.drop_drop, q3] at p3
      exact (head_inj (by omega) (by omega) p3).symm
    · rw [List.take_take, set_take (by omega), ← List.take_take, q1] at p1
      exact (head_inj (by omega) (by omega) p1).symm
  subst hmm
  by_cases hmid : 16 ≤ k ∧ k < n - 20
  · have e4 : (s.set k v).drop (n - 20) = s.drop (n - 20) := set_drop hmid.2
    rw [e4, q2] at p2
    have hcr : M.crc (s.take (n - 20)) = M.crc ((s.set k v).take (n - 20)) := by
      have := congrArg num p2
      rwa [num_leb 4 _ (M.crc_lt _), num_leb 4 _ (M.crc_lt _)] at this
    rw [List.take_set] at hcr
    have hka : k < (s.take (n - 20)).length := by simp; omega
    rw [List.set_eq_take_append_cons_drop, if_pos hka] at hcr
    have hself : s.take (n - 20) = (s.take (n - 20)).take k ++ (s.take (n - 20))[k] :: (s.take (n - 20)).drop (k + 1) := by
      rw [← List.drop_eq_getElem_cons hka, List.take_append_drop]
    have hmt := mem_take hsl (n - 20)
    have hg : (s.take (n - 20))[k] = s[k] := List.getElem_take
    have hx : (s.take (n - 20))[k] < 256 := hmt _ (List.getElem_mem _)
    rw [hg] at hself hx
    rw [hself] at hcr
    have e2 : ∀ (a b : List Nat) (x : Nat), a.length = k → (a ++ x :: b).take k = a ∧ (a ++ x :: b).drop (k + 1) = b := fun a b x h => by
      subst h
      exact ⟨List.take_left' rfl, by simp⟩
    have e3 := e2 ((s.take (n - 20)).take k) ((s.take (n - 20)).drop (k + 1)) s[k] (by simp; omega)
    rw [e3.1, e3.2] at hcr
    exact hne (crc_one (mem_take hmt k) (mem_drop hmt (k + 1)) hx hv hcr)
  · have e5 : ((s.set k v).take (n - 20)).drop 16 = (s.take (n - 20)).drop 16 := by
      by_cases hk16 : k < 16
      · rw [List.drop_take, List.drop_take, set_drop hk16]
      · rw [set_take (by omega)]
    rw [e5, ← o3] at c3
    have := List.getElem_set_self (l := s) (i := k) (a := v) (by rw [List.length_set]; exact hk)
    have h3 : (s.set k v)[k]'(by rw [List.length_set]; exact hk) = s[k] := by simp only [c3]
    exact hne (h3.symm.trans this)

end Go.Proofs.Ytipijjlajhofkaa
