/- Walks: a slot's change. -/
import Derived.Test.YtpomfokpmbblkaaL9
namespace Go.Proofs.Ytpomfokpmbblkaa
open Go.RowKit Go.Maps
set_option maxRecDepth 8000
variable {ι : Type} [Bar ι]

/-- What a slot's load says: a page, its load, whether it is the last of a group. -/
def chOf (ld : List Nat) : Option ((Int × List Nat) × Bool) := if 2147483647 < num (ld.take 8) ∨ 1 < ld[8]?.getD 0 then none else some (((num (ld.take 8) : Int), ld.drop 9), ld[8]?.getD 0 == 1)

theorem byt_drop9 {w : World} {A : Addr} {n c : Nat} {l : List Nat} (h : Byt w (.slice (some A) n c) l) (hn : 28 ≤ n) : Byt w (.slice (some ⟨A.block, A.off + 9, none⟩) (n - 9) (c - 9)) (l.drop 9) := by
  have hl := h.len_val
  have hc := h.cap_val
  obtain ⟨h1, p, c', e, _, hk, hv⟩ := h
  injection e with e1 e2 e3
  injection e1 with e1
  subst e1
  refine ⟨fun b hb => h1 b (List.mem_of_mem_drop hb), ⟨A.block, A.off + 9, none⟩, c - 9, by rw [List.length_drop, hl], by rw [List.length_drop]; omega, hk, fun k hk => ?_⟩
  have hk' : 9 + k < l.length := by simp at hk; omega
  have := hv (9 + k) hk'
  rw [List.getElem_drop, ← this]
  congr 1
  unfold Addr.add
  by_cases h0 : k = 0
  · subst h0; simp
  · simp [h0]; omega
theorem change_set {w w1 : World} {Z : Nat} {c0 : Array Value} (hZ : Blk w1 Z c0 44) (hb : Below w.heap.size w w1) (hc : c0 = #[.int .i64 0, .slice none 0 0]) (hlt : w.heap.size ≤ Z) (p : Int) (v : Value) :
    Below w.heap.size w ((w1.setCell ⟨Z, 0, none⟩ (.int .i64 p)).setCell ⟨Z, 1, none⟩ v) ∧ Blk ((w1.setCell ⟨Z, 0, none⟩ (.int .i64 p)).setCell ⟨Z, 1, none⟩ v) Z #[.int .i64 p, v] 44 ∧ Turn [Z] w1 ((w1.setCell ⟨Z, 0, none⟩ (.int .i64 p)).setCell ⟨Z, 1, none⟩ v) := by
  subst hc
  refine ⟨(hb.setCell (p := ⟨Z, 0, none⟩) hlt _).setCell (p := ⟨Z, 1, none⟩) hlt _, ?_, ((Turn.refl [Z] w1).set (.inl (by simp)) _).set (.inl (by simp)) _⟩
  have := (hZ.set 0 (.int .i64 p)).set 1 v
  simpa using this
set_option maxHeartbeats 4000000 in
theorem change_any (ep : Int) (em : Bool) (A : Addr) (n c : Nat) (ld : List Nat) (w : World) (hu : Byt w (.slice (some A) n c) ld) (hn : (28 : Int) ≤ n) :
    Calls Try.prog 37 #[.agg #[.int .i64 ep, .slice (some A) n c, .bool em]] w fun e w' => Below w.heap.size w w' ∧ ((chOf ld = none ∧ e = .returned (.tuple #[.agg #[.int .i64 0, .slice none 0 0], .bool false, .bool false])) ∨
      ∃ p l last v, chOf ld = some ((p, l), last) ∧ e = .returned (.tuple #[.agg #[.int .i64 p, v], .bool last, .bool true]) ∧ Byt w' v l) := by
  have hlen := hu.len_val
  have hl8 : 8 < ld.length := by omega
  obtain ⟨w1, hw1⟩ : ∃ w1, w1 = (w.alloc (.cells #[.int .i64 ep, .slice (some A) n c, .bool em] 92)).alloc (.cells #[.int .i64 0, .slice none 0 0] 44) := ⟨_, rfl⟩
  have hb : Below w.heap.size w w1 := by subst hw1; exact grow_alloc (grow_alloc (Below.refl _ _) _) _
  have hX : Blk w1 w.heap.size #[.int .i64 ep, .slice (some A) n c, .bool em] 92 := by subst hw1; exact (Blk.new w _ _).alloc _
  have hZ : Blk w1 (w.heap.size + 1) #[.int .i64 0, .slice none 0 0] 44 := by subst hw1; exact Blk.new' _ _ _ (by simp)
  have hu1 := hu.grew hb
  have HN := Lib.hid (number64_any A ld n c w1 hlen hu1.rdv (by omega))
  obtain ⟨q, eq, _, hc8, hb8⟩ := hu1.rdv.get hl8
  cases eq
  have e8 : A.add 8 = ⟨A.block, A.off + 8, none⟩ := by simp [Addr.add]
  rw [e8] at hc8
  clear e8
  have x1 := hX.cell 1
  have z0 := hZ.free 0
  have z1 := hZ.free 1
  have zc0 : w1.cell? ⟨w.heap.size + 1, 0, none⟩ = some (.int .i64 0) := hZ.cell 0
  have zc1 : w1.cell? ⟨w.heap.size + 1, 1, none⟩ = some (.slice none 0 0) := hZ.cell 1
  obtain ⟨N, hNe⟩ : ∃ N, N = num (ld.take 8) := ⟨_, rfl⟩
  obtain ⟨F, hFe⟩ : ∃ F, F = ld[8] := ⟨_, rfl⟩
  have hch : chOf ld = if 2147483647 < N ∨ 1 < F then none else some (((N : Int), ld.drop 9), F == 1) := by
    unfold chOf
    rw [List.getElem?_eq_getElem hl8, Option.getD_some, ← hNe, ← hFe]
  rw [← hNe] at HN
  rw [← hFe] at hc8 hb8
  have HCH := Lib.hid hch
  have HU1 := Lib.hid hu1
  have HB := Lib.hid hb
  have HZ := Lib.hid hZ
  clear hu hu1 hX hZ hch hNe hFe hl8 hb hlen
  by_cases h1 : 2147483647 < N
  · have h1' : (2147483647 : Int) < N := by omega
    go_enter Try.func37, Try.ntmps37
    go_wp2_with fail
    rw [← hw1]
    clear hw1
    refine HN.out.mono ?_
    rintro e w2 ⟨rfl, hw2⟩
    subst hw2
    have HS := Lib.hid (change_set HZ.out HB.out rfl (by omega) 0 (.slice none 0 0))
    go_wp2
    refine bodyPost_ret (v := .tuple #[.agg #[.int .i64 0, .slice none 0 0], .bool false, .bool false]) ?_ rfl ⟨HS.out.1, Or.inl ⟨by rw [HCH.out, if_pos (Or.inl h1)], rfl⟩⟩
    have kk := HS.out.2.1.two
    simp [results, Try.results37, go_sem, kk]
  · have h1' : ¬ (2147483647 : Int) < N := by omega
    by_cases h2 : 1 < F
    · have h2' : (1 : Int) < F := by omega
      go_enter Try.func37, Try.ntmps37
      go_wp2_with fail
      rw [← hw1]
      clear hw1
      refine HN.out.mono ?_
      rintro e w2 ⟨rfl, hw2⟩
      subst hw2
      have HS := Lib.hid (change_set HZ.out HB.out rfl (by omega) 0 (.slice none 0 0))
      go_wp2
      refine bodyPost_ret (v := .tuple #[.agg #[.int .i64 0, .slice none 0 0], .bool false, .bool false]) ?_ rfl ⟨HS.out.1, Or.inl ⟨by rw [HCH.out, if_pos (Or.inr h2)], rfl⟩⟩
      have kk := HS.out.2.1.two
      simp [results, Try.results37, go_sem, kk]
    · have h2' : ¬ (1 : Int) < F := by omega
      obtain ⟨K, hK⟩ : ∃ K, K = (F == 1) := ⟨_, rfl⟩
      have HCH2 : Hid (chOf ld = some (((N : Int), ld.drop 9), K)) := Lib.hid (by rw [HCH.out, if_neg (by omega), hK])
      have hKi : ((F : Int) == 1) = K := by rw [hK, Bool.eq_iff_iff]; simp; omega
      have hcap := HU1.out.cap_val
      have hc9 : ¬ c = 9 := by omega
      have HBY := Lib.hid (byt_drop9 HU1.out (by omega))
      have HS := Lib.hid (change_set HZ.out HB.out rfl (by omega) N (.slice (some ⟨A.block, A.off + 9, none⟩) (n - 9) (c - 9)))
      clear hK HCH
      go_enter Try.func37, Try.ntmps37
      go_wp2_with fail
      rw [← hw1]
      clear hw1
      refine HN.out.mono ?_
      rintro e w2 ⟨rfl, hw2⟩
      subst hw2
      go_wp2
      refine bodyPost_ret (v := .tuple #[.agg #[.int .i64 N, .slice (some ⟨A.block, A.off + 9, none⟩) (n - 9) (c - 9)], .bool K, .bool true]) ?_ rfl ⟨HS.out.1, Or.inr ⟨N, _, K, _, HCH2.out, rfl, ?_⟩⟩
      · have kk := HS.out.2.1.two
        simp [results, Try.results37, go_sem, kk]
      · refine HBY.out.turn HS.out.2.2 ?_
        intro j hj cs fz e
        simp at hj; subst hj
        have := HZ.out; unfold Blk at this; rw [this] at e; cases e
end Go.Proofs.Ytpomfokpmbblkaa
