/- Walks: bytes.Clone; a row of one byte (full); the disk's small methods. -/
import Derived.Test.YtapllljbbldfkaaLoose
import Derived.WalkLawsBesides
namespace Go.Proofs.Ytapllljbbldfkaa
open Go.RowKit Go.Maps

set_option maxHeartbeats 1000000 in
theorem Clone_any (p : Addr) (l : List Nat) (n c : Nat) (w : World) (hn : l.length = n) (hr : Rd w w.heap.size (some p) l) (hl : n ≤ 900000) :
    Calls Try.prog 32 #[.slice (some p) n c] w fun e w' => ∃ v', e = .returned v' ∧ Own w' w.heap.size v' l ∧ Below w.heap.size w w' := by
  subst hn
  obtain ⟨v1, w1, hrun, ho, hb⟩ := run_copy c hr hl
  have RUN := Lib.hid hrun
  have HO := Lib.hid ho
  have HB := Lib.hid hb
  clear hrun ho hb hr
  have kn : ∀ w : World, (binOp .eql 35 (.slice (some p) l.length c) (.slice none 0 0)).run Try.prog w = .ok (.bool false) w := fun w => by
    have := run_equal_slice_nil (P := Try.prog) (w := w) 35 5 (some p) l.length c Try.underlying35
    simp only [binOp, Sem.run_bind, this]; rfl
  go_enter Try.func32, Try.ntmps32
  go_wp2_with (at_builtin; refine Lib.wpList_append_run _ rfl (.tmp 5) (.tmp 6) 35 35 rfl _ _ rfl rfl _ w1 RUN.out ?_)
  go_ret
  exact ⟨_, rfl, HO.out, HB.out⟩

theorem rep_set (c n k : Nat) (h : k < n) : (List.replicate k c ++ List.replicate (n - k) 0).set k c = List.replicate (k + 1) c ++ List.replicate (n - (k + 1)) 0 := by
  rw [List.set_append, if_neg (by simp), List.length_replicate, Nat.sub_self]
  obtain ⟨r, hr⟩ : ∃ r, n - k = r + 1 := ⟨n - k - 1, by omega⟩
  rw [hr, List.replicate_succ, List.set_cons_zero, show n - (k + 1) = r by omega, List.replicate_succ', List.append_assoc]
  rfl

theorem Own.base_ {w : World} {b b' : Nat} {e : TypeId} {s : Nat} {v : Value} {n : Nat} {xs : List Value} (hb : b ≤ b') (h : w.ownsRow b' e s v n xs) : w.ownsRow b e s v n xs :=
  ⟨h.1, h.2.imp id fun ⟨g, cap, cur, e, hg, r⟩ => ⟨g, cap, cur, e, by omega, r⟩⟩
theorem addr_add (g k : Nat) : (⟨g, 0, none⟩ : Addr).add k = ⟨g, k, none⟩ := by
  unfold Addr.add
  by_cases hk : k = 0 <;> simp [hk]

/-- A byte of a row of the call's own is there; it is written. -/
theorem Own.storeAt {w : World} {base g n c : Nat} {l : List Nat} (h : Own w base (.slice (some ⟨g, 0, none⟩) n c) l) (k b : Nat) (hb : b < 256) (hk : k < l.length) :
    Own (w.setCell ⟨g, k, none⟩ (.int .u8 (b : Int))) base (.slice (some ⟨g, 0, none⟩) n c) (l.set k b) ∧ Below base w (w.setCell ⟨g, k, none⟩ (.int .u8 (b : Int))) ∧ w.frozen? ⟨g, k, none⟩ = false ∧ ∃ u, w.cell? ⟨g, k, none⟩ = some u := by
  have hst := h.store k b hb
  rw [addr_add] at hst
  refine ⟨hst.1, hst.2.1, hst.2.2, ?_⟩
  obtain ⟨A2, c2, e2, r2⟩ := h.form
  injection e2 with e3 e4 e5
  subst e3
  obtain ⟨q, e, _, hc, _⟩ := r2.get (k := k) hk
  cases e
  rw [addr_add] at hc
  exact ⟨_, hc⟩

set_option maxHeartbeats 2000000 in
theorem full_any (c n : Nat) (w : World) (hc : c < 256) (hn : n ≤ 1000000) :
    Calls Try.prog 28 #[.int .u8 c, .int .i64 n] w fun e w' => ∃ g, e = .returned (.slice (some ⟨g, 0, none⟩) n n) ∧ Own w' w.heap.size (.slice (some ⟨g, 0, none⟩) n n) (List.replicate n c) ∧ Below w.heap.size w w' ∧ w.heap.size ≤ g := by
  obtain ⟨w1, hmk, ho, hg⟩ := run_makeN (w := w) w.heap.size n (Nat.le_refl _) hn
  have HO := Lib.hid ho
  have HB := Lib.hid ((Below.refl w.heap.size w).grown hg (Nat.le_refl _) (by simp))
  clear ho hg
  obtain ⟨G, hG⟩ : ∃ G, G = w.heap.size := ⟨_, rfl⟩
  have hGl : w.heap.size ≤ G := by omega
  rw [← hG] at hmk
  rw [← hG] at HO
  clear hG
  go_enter Try.func28, Try.ntmps28
  go_wp2
  go_loopw [6] (fun i wr => ∃ k : Nat, k ≤ n ∧ i = .int .i64 k ∧ Hid (Own wr G (.slice (some ⟨G, 0, none⟩) n n) (List.replicate k c ++ List.replicate (n - k) 0)) ∧ Hid (Below w.heap.size w wr)) (fun i _ => n - (intOf i).toNat)
  case atStart => exact ⟨0, Nat.zero_le _, rfl, by simpa using HO, HB⟩
  case round =>
    obtain ⟨k, hk, rfl, KO, KB⟩ := hrel
    by_cases hlt : k < n
    · obtain ⟨hO3, hB3, hfr, u, hu⟩ := KO.out.storeAt k c hc (by simp; omega)
      rw [rep_set c n k hlt] at hO3
      have H3 := Lib.hid hO3
      have B3 := Lib.hid (KB.out.trans (hB3.mono hGl))
      clear hO3 hB3
      go_wp2
      go_round
      case rel => exact ⟨k + 1, by omega, by simp, H3, B3⟩
      case measure => simp [intOf]; omega
    · have hkn : k = n := by omega
      subst hkn
      go_wp2
      go_ret
      have HE := KO.out
      rw [Nat.sub_self, List.replicate_zero, List.append_nil] at HE
      exact ⟨G, rfl, ⟨HE.1, Own.base_ hGl HE.2⟩, KB.out, hGl⟩

end Go.Proofs.Ytapllljbbldfkaa
