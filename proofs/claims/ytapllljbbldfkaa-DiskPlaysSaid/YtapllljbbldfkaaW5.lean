/- Walks: the fates' closure. -/
import Derived.Test.YtapllljbbldfkaaW4
namespace Go.Proofs.Ytapllljbbldfkaa
open Go.RowKit Go.Maps

/-- From A on the world holds these numbers. -/
def IRd (w : World) (A : Option Addr) (l : List Int) : Prop :=
  (∀ x ∈ l, -9223372036854775808 ≤ x ∧ x ≤ 9223372036854775807) ∧ (l ≠ [] → ∃ p, A = some p ∧ p.block < w.heap.size ∧ ∀ k (h : k < l.length), w.cell? (p.add k) = some (.int .i64 l[k]))

theorem IRd.nil (w : World) (A : Option Addr) : IRd w A [] := ⟨by simp, fun h => absurd rfl h⟩
theorem IRd.turn {T : List Nat} {w w' : World} {A : Option Addr} {l : List Int} (h : IRd w A l) (k : Turn T w w') (hT : l ≠ [] → ∀ p, A = some p → p.block ∉ T) : IRd w' A l :=
  ⟨h.1, fun hn => by
    obtain ⟨p, e, hp, hc⟩ := h.2 hn
    refine ⟨p, e, Nat.lt_of_lt_of_le hp k.size, fun j hj => ?_⟩
    rw [← hc j hj]
    exact World.cell?_of_block (by rw [add_block]; exact k.block _ hp (hT hn p e))⟩
theorem IRd.grew {w w' : World} {A : Option Addr} {l : List Int} (h : IRd w A l) (k : Below w.heap.size w w') : IRd w' A l := h.turn (Turn.of_below k []) (by simp)
theorem IRd.drop_ {w : World} {A : Option Addr} {l : List Int} (h : IRd w A l) (k : Nat) : IRd w (A.map (·.add k)) (l.drop k) := by
  refine ⟨fun x hx => h.1 x (List.mem_of_mem_drop hx), fun hn => ?_⟩
  obtain ⟨p, e, hp, hc⟩ := h.2 (by intro e; rw [e] at hn; simp at hn)
  subst e
  refine ⟨_, rfl, by rw [add_block]; exact hp, fun j hj => ?_⟩
  have hj' : k + j < l.length := by simp at hj; omega
  have e : (p.add k).add j = p.add (k + j) := by
    unfold Addr.add
    by_cases hi : k = 0 <;> by_cases hj : j = 0 <;> simp [hi, hj, Nat.add_assoc]
  rw [e, hc (k + j) hj', List.getElem_drop]
/-- Of what is not read the place may be any. -/
theorem IRd.any {w : World} {A B : Option Addr} {l : List Int} (h : IRd w A l) (hB : l ≠ [] → B = A) : IRd w B l := ⟨h.1, fun hn => by rw [hB hn]; exact h.2 hn⟩

theorem zero_len {l : List Int} (h : l.length + 1 ≤ 1) : l = [] := List.eq_nil_of_length_eq_zero (by omega)

theorem rem_mod (x : Int) (n : Nat) (hn : 0 < n) : (x.tmod n + n).tmod n = ((x % (n : Int)).toNat : Int) := by
  have h0 : 0 ≤ x.tmod n + n := by have := Int.lt_tmod_of_pos x (show (0 : Int) < n by omega); omega
  rw [Int.tmod_eq_emod_of_nonneg h0]
  have h1 := Int.emod_nonneg x (show (n : Int) ≠ 0 by omega)
  rw [Int.toNat_of_nonneg h1, Int.add_emod_right]
  rw [Int.tmod_eq_emod]
  split
  · simp
  · have := Int.sub_emod_right
    simp

/-- The fates that are left, in block F. -/
def Fat (w : World) (F : Nat) (T : List Nat) (fs : List Int) : Prop :=
  ∃ A c, Blk w F #[.slice A fs.length c] 23 ∧ fs.length ≤ c ∧ IRd w A fs ∧ (fs ≠ [] → ∀ p, A = some p → p.block ∉ T ∧ p.block ≠ F)

set_option maxHeartbeats 2000000 in
theorem choice_any (F : Nat) (T : List Nat) (fs : List Int) (n : Nat) (w : World) (h1 : (1 : Int) ≤ n) (h2 : (n : Int) ≤ 5000) (h : Fat w F T fs) :
    Calls Try.prog 34 #[.int .i64 n, .pointer (some ⟨F, 0, none⟩)] w fun e w' => e = .returned (.int .i64 (pick fs n)) ∧ Fat w' F T fs.tail ∧ Turn [F] w w' := by
  obtain ⟨A, c, hB, hc, hr, ha⟩ := h
  have c0 : w.cell? ⟨F, 0, none⟩ = some (.slice A fs.length c) := hB.cell 0
  have f0 : w.frozen? ⟨F, 0, none⟩ = false := hB.free 0
  cases fs with
  | nil =>
    have H := Lib.hid (show Fat w F T [] from ⟨A, c, hB, hc, hr, ha⟩)
    clear hB hc hr ha f0
    go_enter Try.func34, Try.ntmps34
    go_wp2
    go_ret
    exact ⟨rfl, H.out, Turn.refl _ _⟩
  | cons x fs =>
    obtain ⟨p, rfl, hp, hcell⟩ := hr.2 (by simp)
    have hx := hr.1 x (by simp)
    have hx0 := hcell 0 (by simp)
    have hz0 : p.add 0 = p := by simp [Addr.add]
    rw [hz0] at hx0
    simp at hx0
    have hpos : (0 : Int) < n := by omega
    have t1 := Int.tmod_lt_of_pos x hpos
    have t2 := Int.lt_tmod_of_pos x hpos
    have e := rem_mod x n (by omega)
    have e' : pick (x :: fs) n = (x % (n : Int)).toNat := rfl
    rw [← e'] at e
    have hk : ∀ S, S = (Value.slice (if c = 1 then some p else some (p.add 1)) fs.length (c - 1)) → Fat (w.setCell ⟨F, 0, none⟩ S) F T fs ∧ Turn [F] w (w.setCell ⟨F, 0, none⟩ S) := by
      rintro S rfl
      have ht := (Turn.refl [F] w).set (a := ⟨F, 0, none⟩) (.inl (by simp)) (Value.slice (if c = 1 then some p else some (p.add 1)) fs.length (c - 1))
      refine ⟨⟨if c = 1 then some p else some (p.add 1), c - 1, ?_, by simp at hc; omega, ?_, ?_⟩, ht⟩
      · have := hB.set 0 (Value.slice (if c = 1 then some p else some (p.add 1)) fs.length (c - 1))
        simpa using this
      · have hd := (hr.turn ht (fun _ q hq => by simp; exact (ha (by simp) q hq).2)).drop_ 1
        refine IRd.any (A := (some p).map (·.add 1)) (by simpa using hd) (fun hn => ?_)
        have : c ≠ 1 := by intro e; subst e; simp only [List.length_cons] at hc; exact hn (zero_len hc)
        simp [this]
      · intro _ q hq
        split at hq
        · cases hq; exact ha (by simp) p rfl
        · cases hq; rw [add_block]; exact ha (by simp) p rfl
    have HK := Lib.hid hk
    clear hk hB hr ha hp hcell hz0 e'
    generalize pick (x :: fs) n = r at *
    go_enter Try.func34, Try.ntmps34
    go_wp2
    · go_ret
      refine ⟨?_, HK.out _ (by simp [h])⟩
      rfl
    · go_ret
      refine ⟨?_, HK.out _ (by simp [h, Addr.add])⟩
      rfl
end Go.Proofs.Ytapllljbbldfkaa
