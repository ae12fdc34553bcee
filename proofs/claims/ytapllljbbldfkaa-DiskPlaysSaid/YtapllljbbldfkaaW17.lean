/- Walks: the document's disk: Read. -/
import Derived.Test.YtapllljbbldfkaaW16
namespace Go.Proofs.Ytapllljbbldfkaa
open Go.RowKit Go.Maps

theorem last_take (a : Int) (L : List (Int × List Nat)) (k : Nat) (h : k < L.length) : last a (L.take (k + 1)) = if L[k].1 = a then some L[k].2 else last a (L.take k) := by
  rw [List.take_add_one, List.getElem?_eq_getElem h, last_append]
  show ((none : Option (List Nat)).or _).or _ = _
  simp only [Option.none_or]
  split <;> simp
theorem WRow.at_ {w : World} {v : Value} {L : List (Int × List Nat)} (h : WRow w v L) {k : Nat} (hk : k < L.length) :
    ∃ g c, v = .slice (some ⟨g, 0, none⟩) L.length c ∧ L.length ≤ c ∧ w.cell? ⟨g, k * 2, none⟩ = some (.int .i64 L[k].1) ∧ w.cell? ⟨g, k * 2 + 1, none⟩ = some (.string (str L[k].2)) ∧ g < w.heap.size := by
  obtain ⟨g, c, rfl, hc, hg⟩ := row_some h (by omega)
  have := wstrs_get hk
  have h1 := World.ownsRow.cells h (g := g) rfl _ _ this.1
  have h2 := World.ownsRow.cells h (g := g) rfl _ _ this.2
  rw [addr_add] at h1 h2
  exact ⟨g, c, rfl, hc, h1, h2, hg⟩
theorem SRow.at_ {w : World} {v : Value} {s : Nat} {f : Int → List Nat} (h : SRow w v s f) {k : Nat} (hk : k < s) :
    ∃ g c, v = .slice (some ⟨g, 0, none⟩) s c ∧ s ≤ c ∧ w.cell? ⟨g, k, none⟩ = some (.string (str (f (k : Nat)))) ∧ g < w.heap.size := by
  obtain ⟨g, c, rfl, hc, hg⟩ := row_some h (by omega)
  have h1 := World.ownsRow.cells h (g := g) rfl _ _ (fasts_get f hk)
  rw [addr_add] at h1
  exact ⟨g, c, rfl, hc, h1, hg⟩

set_option maxHeartbeats 4000000 in
theorem Read_ref (D : Dsk) (FA LA : Option Addr) (fc lc : Nat) (a : Int) (w : World) (hr : Rows w D (.slice FA D.sectors fc) (.slice LA D.loose.length lc)) (hL : D.loose.length ≤ 1000000000) :
    Calls Try.prog 20 #[RV D (.slice FA D.sectors fc) (.slice LA D.loose.length lc), .int .i64 a] w fun e w' => e = .returned (.tuple #[.string (if D.ready a = 0 then str (D.tells a) else ByteArray.mk #[]), .int .i64 (D.ready a)]) ∧ Below w.heap.size w w' := by
  obtain ⟨dn, hdn⟩ : ∃ dn, dn = D.down := ⟨_, rfl⟩
  unfold RV
  rw [← hdn]
  obtain ⟨w1, hw1⟩ : ∃ w1, w1 = w.alloc (.cells #[.int .i64 D.sectors, .int .i64 D.size, .slice FA D.sectors fc, .slice LA D.loose.length lc, .int .i64 D.armed, .bool dn] 45) := ⟨_, rfl⟩
  obtain ⟨B, hB⟩ : ∃ B, B = w.heap.size := ⟨_, rfl⟩
  have hg : Below w.heap.size w w1 := by subst hw1; exact (Below.refl _ w).alloc (Nat.le_refl _) _
  have hR := hr.grew hg
  have hBl : Blk w1 B #[.int .i64 D.sectors, .int .i64 D.size, .slice FA D.sectors fc, .slice LA D.loose.length lc, .int .i64 D.armed, .bool dn] 45 := by subst hw1; exact Blk.new' _ _ _ hB
  have HW := Lib.hid hw1
  have HB := Lib.hid hB
  have HG := Lib.hid hg
  have HR := Lib.hid hR
  have HL := Lib.hid hL
  have c0 : w1.cell? ⟨B, 0, none⟩ = some (.int .i64 D.sectors) := hBl.cell 0
  have c2 : w1.cell? ⟨B, 2, none⟩ = some (.slice FA D.sectors fc) := hBl.cell 2
  have c3 : w1.cell? ⟨B, 3, none⟩ = some (.slice LA D.loose.length lc) := hBl.cell 3
  have c5 : w1.cell? ⟨B, 5, none⟩ = some (.bool dn) := hBl.cell 5
  obtain ⟨E, hE⟩ : ∃ E, E = D.ready a := ⟨_, rfl⟩
  rw [← hE]
  have HE := Lib.hid hE
  unfold Dsk.ready at hE
  rw [← hdn] at hE
  clear hw1 hB hg hR hr hBl hL hdn
  cases dn with
  | true =>
    simp only [if_true] at hE
    subst hE
    rw [if_neg (by decide)]
    clear HR HE c0 c2 c3 c5
    go_enter Try.func20, Try.ntmps20
    go_wp2
    refine bodyPost_ret (results_tmp2 rfl _ _ _) rfl ?_
    exact ⟨rfl, by rw [← HW.out]; exact HG.out⟩
  | false =>
    simp only [Bool.false_eq_true, if_false] at hE
    by_cases h0 : a < 0
    · rw [if_pos (.inl h0)] at hE
      subst hE
      rw [if_neg (by decide)]
      clear HR HE c0 c2 c3 c5
      go_enter Try.func20, Try.ntmps20
      go_wp2
      refine bodyPost_ret (results_tmp2 rfl _ _ _) rfl ?_
      exact ⟨rfl, by rw [← HW.out]; exact HG.out⟩
    · by_cases h1 : (D.sectors : Int) ≤ a
      · rw [if_pos (.inr h1)] at hE
        subst hE
        rw [if_neg (by decide)]
        clear HR HE c0 c2 c3 c5
        go_enter Try.func20, Try.ntmps20
        go_wp2
        refine bodyPost_ret (results_tmp2 rfl _ _ _) rfl ?_
        exact ⟨rfl, by rw [← HW.out]; exact HG.out⟩
      · rw [if_neg (by omega)] at hE
        subst hE
        rw [if_pos rfl]
        obtain ⟨j, rfl⟩ := Int.eq_ofNat_of_zero_le (show 0 ≤ a by omega)
        have hj : j < D.sectors := by omega
        obtain ⟨g, cc, e, hc, hcell, _⟩ := HR.out.f.at_ hj
        injection e with e1 _ e2
        subst e1 e2
        obtain ⟨X, hX⟩ : ∃ X, X = str (D.tells (j : Nat)) := ⟨_, rfl⟩
        rw [← hX]
        have HX := Lib.hid hX
        have hLb : (D.loose.length : Int) ≤ 1000000000 := by have := HL.out; omega
        rw [HW.out] at hcell
        clear hX HE
        go_enter Try.func20, Try.ntmps20
        go_wp2
        rw [← HW.out, ← HB.out]
        clear hcell
        go_loopw [6, 7] (fun o i wr => ∃ k : Nat, k ≤ D.loose.length ∧ i = .int .i64 k ∧ wr = w1 ∧ o = .string (str ((last j (D.loose.take k)).getD (D.fast j)))) (fun _ i _ => D.loose.length - (intOf i).toNat)
        case atStart => exact ⟨0, by omega, rfl, rfl, rfl⟩
        case round =>
          obtain ⟨k, hk, rfl, rfl, rfl⟩ := hrel
          by_cases hlt : k < D.loose.length
          · obtain ⟨g2, c2', e, _, hc0, hc1, _⟩ := HR.out.l.at_ hlt
            injection e with e1 _ e2
            subst e1 e2
            have hlk := last_take (j : Int) D.loose k hlt
            obtain ⟨⟨x, l⟩, hxl⟩ : ∃ q, q = D.loose[k] := ⟨_, rfl⟩
            rw [← hxl] at hc0 hc1 hlk
            simp only at hc0 hc1
            have HLK := Lib.hid hlk
            clear hlk hxl
            by_cases hxj : x = (j : Int)
            · subst hxj
              go_wp2
              go_round
              case rel => exact ⟨k + 1, by omega, val_int (by simp), trivial, by rw [HLK.out, if_pos rfl]; rfl⟩
              case measure => simp only [intOf]; omega
            · have hne : (x == (j : Int)) = false := by simpa using hxj
              go_wp2
              go_round
              case rel => exact ⟨k + 1, by omega, val_int (by simp), trivial, by rw [HLK.out, if_neg hxj]⟩
              case measure => simp only [intOf]; omega
          · have hke : k = D.loose.length := by omega
            have HKE := Lib.hid hke
            clear hke
            go_wp2
            refine bodyPost_ret (results_tmp2 rfl _ _ _) rfl ?_
            refine ⟨?_, HG.out⟩
            have : str ((last (j : Int) (D.loose.take k)).getD (D.fast j)) = X := by rw [HX.out, HKE.out, List.take_length]; rfl
            rw [← this]; rfl
end Go.Proofs.Ytapllljbbldfkaa
