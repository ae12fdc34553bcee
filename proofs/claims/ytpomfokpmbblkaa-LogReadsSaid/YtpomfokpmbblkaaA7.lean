/- Walks: Same. Printed by mk_a7.py. -/
import Derived.Test.YtpomfokpmbblkaaA6
namespace Go.Proofs.Ytpomfokpmbblkaa
open Go.RowKit Go.Maps
set_option maxRecDepth 8000

/-- Are the bytes of rows bytes? -/
def BytesIn (gs : List (List (Int × List Nat))) : Prop := ∀ g ∈ gs, ∀ c ∈ g, ∀ b ∈ c.2, b < 256
theorem take_next {α : Type} {a b : List α} {k : Nat} (h : a.take k = b.take k) (ha : k < a.length) (hb : k < b.length) (e : a[k] = b[k]) : a.take (k + 1) = b.take (k + 1) := by
  rw [List.take_add_one, List.take_add_one, h, List.getElem?_eq_getElem ha, List.getElem?_eq_getElem hb, e]
theorem take_all {α : Type} {a b : List α} {n : Nat} (h : a.take n = b.take n) (ha : a.length = n) (hb : b.length = n) : a = b := by
  rwa [List.take_of_length_le (by omega), List.take_of_length_le (by omega)] at h
theorem RCg.le {w : World} {base : Nat} {v : Value} {L : List (Int × List Nat)} (h : RCg w base v L) : (L.length : Int) ≤ 9223372036854775807 := by
  have hm : maxLen = 9223372036854775807 := by decide
  rcases h.2 with ⟨_, h0⟩ | ⟨g, cap, cur, _, _, _, h1, h2, _⟩
  · rw [h0]; decide
  · omega
set_option maxHeartbeats 8000000 in
theorem Same_any {a b : Value} {gs hs : List (List (Int × List Nat))} {ba bb Ba Bb : Nat} {w : World} (h1 : RGs w ba a gs Ba) (h2 : RGs w bb b hs Bb) (hg : BytesIn gs) (hh : BytesIn hs) (hng : gs.length ≤ 1000000000) :
    Calls Try.prog 48 #[a, b] w fun e w' => e = .returned (.bool (decide (gs = hs))) ∧ Below w.heap.size w w' := by
  obtain ⟨A, c, rfl⟩ := h1.form
  obtain ⟨A', c', rfl⟩ := h2.form
  obtain ⟨n, hn⟩ : ∃ n, n = gs.length := ⟨_, rfl⟩
  obtain ⟨n', hn'⟩ : ∃ n', n' = hs.length := ⟨_, rfl⟩
  rw [← hn, ← hn']
  have HN := Lib.hid (And.intro hn hn')
  have H1 := Lib.hid h1
  have H2 := Lib.hid h2
  have HBY := Lib.hid (And.intro hg hh)
  clear h1 h2 hg hh
  by_cases hl : n = n'
  · subst hl
    clear hn hn'
    go_enter Try.func48, Try.ntmps48
    go_wp2_with fail
    go_loopw [5] (fun iv wr => ∃ i : Nat, i ≤ n ∧ iv = .int .i64 i ∧ Hid (Below w.heap.size w wr) ∧ Hid (gs.take i = hs.take i)) (fun iv _ => n - (intOf iv).toNat)
    case atStart => exact ⟨0, by omega, rfl, Lib.hid (Below.refl _ _), Lib.hid rfl⟩
    case round =>
      obtain ⟨i, hi, rfl, HB, HT⟩ := hrel
      by_cases hlt : i < n
      · have hig : i < gs.length := by rw [← HN.out.1]; exact hlt
        have hih : i < hs.length := by rw [← HN.out.2]; exact hlt
        obtain ⟨ga, _, u, e, c1, hu⟩ := (H1.out.grew HB.out).at_ i hig
        injection e with e _ _
        subst e
        obtain ⟨gb, _, u', e, c2, hu'⟩ := (H2.out.grew HB.out).at_ i hih
        injection e with e _ _
        subst e
        obtain ⟨Ai, ca, rfl⟩ := hu.form
        obtain ⟨Bi, cb, rfl⟩ := hu'.form
        obtain ⟨na, hna⟩ : ∃ na, na = gs[i].length := ⟨_, rfl⟩
        obtain ⟨nb, hnb⟩ : ∃ nb, nb = hs[i].length := ⟨_, rfl⟩
        rw [← hna] at hu c1
        rw [← hnb] at hu' c2
        have HNA := Lib.hid (And.intro hna hnb)
        have HC := Lib.hid (And.intro c1 c2)
        have HU := Lib.hid (And.intro hu hu')
        have HI := Lib.hid (And.intro hig hih)
        clear hna hnb c1 c2 hu hu'
        by_cases hl2 : na = nb
        · subst hl2
          have hcab : Hid (Below wr.heap.size wr wr.drew) := Lib.hid (Below.refl _ _).drew
          go_wp2_with fail
          refine wp_region_H (fun v => v.cell? ⟨ga, i, none⟩ = some (.slice Ai na ca) ∧ v.cell? ⟨gb, i, none⟩ = some (.slice Bi na cb)) (by kernel_rfl) (fun u0 hu0 => ?_)
          have hSa0 : (fun v => v.cell? ⟨ga, i, none⟩ = some (.slice Ai na ca) ∧ v.cell? ⟨gb, i, none⟩ = some (.slice Bi na cb)) u0 := by subst hu0; exact ⟨HC.out.1, HC.out.2⟩
          have hb0 : Below w.heap.size w u0 := by subst hu0; exact HB.out.drew
          clear hu0
          refine wpH_take (i := 0) (v := ?_) rfl rfl (by kernel_rfl) (by kernel_rfl) (by kernel_rfl) (fun _ _ _ h => h) (Or.inl ⟨by rfl, ?_⟩) hSa0 ?_
          rotate_left
          · (intro w_ hw_; go_simp; try with_reducible rfl)
          simp only [List.setIfInBounds_toArray, List.set_cons_zero, List.set_cons_succ]
          refine wpH_take (i := 1) (v := ?_) rfl rfl (by kernel_rfl) (by kernel_rfl) (by kernel_rfl) (fun _ _ _ h => h) (Or.inl ⟨by rfl, ?_⟩) hSa0 ?_
          rotate_left
          · (intro w_ hw_; go_simp; try with_reducible rfl)
          simp only [List.setIfInBounds_toArray, List.set_cons_zero, List.set_cons_succ]
          refine wpH_take (i := 2) (v := ?_) rfl rfl (by kernel_rfl) (by kernel_rfl) (by kernel_rfl) (fun _ _ _ h => h) (Or.inl ⟨by rfl, ?_⟩) hSa0 ?_
          rotate_left
          · (intro w_ hw_; go_simp; try with_reducible rfl)
          simp only [List.setIfInBounds_toArray, List.set_cons_zero, List.set_cons_succ]
          refine wpH_take (i := 3) (v := ?_) rfl rfl (by kernel_rfl) (by kernel_rfl) (by kernel_rfl) (fun _ _ _ h => h) (Or.inl ⟨by rfl, ?_⟩) hSa0 ?_
          rotate_left
          · (intro w_ hw_; (have q1 := hw_.1; have q2 := hw_.2; clear hw_); go_simp; try with_reducible rfl)
          simp only [List.setIfInBounds_toArray, List.set_cons_zero, List.set_cons_succ]
          refine wpH_take (i := 4) (v := ?_) rfl rfl (by kernel_rfl) (by kernel_rfl) (by kernel_rfl) (fun _ _ _ h => h) (Or.inl ⟨by rfl, ?_⟩) hSa0 ?_
          rotate_left
          · (intro w_ hw_; (have q1 := hw_.1; have q2 := hw_.2; clear hw_); go_simp; try with_reducible rfl)
          simp only [List.setIfInBounds_toArray, List.set_cons_zero, List.set_cons_succ]
          refine wpH_take (i := 5) (v := ?_) rfl rfl (by kernel_rfl) (by kernel_rfl) (by kernel_rfl) (fun _ _ _ h => h) (Or.inl ⟨by rfl, ?_⟩) hSa0 ?_
          rotate_left
          · (intro w_ hw_; go_simp; try with_reducible rfl)
          simp only [List.setIfInBounds_toArray, List.set_cons_zero, List.set_cons_succ]
          refine wpH_take (i := 6) (v := ?_) rfl rfl (by kernel_rfl) (by kernel_rfl) (by kernel_rfl) (fun _ _ _ h => h) (Or.inl ⟨by rfl, ?_⟩) hSa0 ?_
          rotate_left
          · (intro w_ hw_; go_simp; try with_reducible rfl)
          simp only [List.setIfInBounds_toArray, List.set_cons_zero, List.set_cons_succ]
          refine wpH_take (i := 7) (v := ?_) rfl rfl (by kernel_rfl) (by kernel_rfl) (by kernel_rfl) (fun _ _ _ h => h) (Or.inl ⟨by rfl, ?_⟩) hSa0 ?_
          rotate_left
          · (intro w_ hw_; go_simp; try with_reducible rfl)
          simp only [List.setIfInBounds_toArray, List.set_cons_zero, List.set_cons_succ]
          refine wpH_take (i := 8) (v := ?_) rfl rfl (by kernel_rfl) (by kernel_rfl) (by kernel_rfl) (fun _ _ _ h => h) (Or.inl ⟨by rfl, ?_⟩) hSa0 ?_
          rotate_left
          · (intro w_ hw_; (have q1 := hw_.1; have q2 := hw_.2; clear hw_); go_simp; try with_reducible rfl)
          simp only [List.setIfInBounds_toArray, List.set_cons_zero, List.set_cons_succ]
          refine wpH_take (i := 9) (v := ?_) rfl rfl (by kernel_rfl) (by kernel_rfl) (by kernel_rfl) (fun _ _ _ h => h) (Or.inl ⟨by rfl, ?_⟩) hSa0 ?_
          rotate_left
          · (intro w_ hw_; (have q1 := hw_.1; have q2 := hw_.2; clear hw_); go_simp; try with_reducible rfl)
          simp only [List.setIfInBounds_toArray, List.set_cons_zero, List.set_cons_succ]
          refine wpH_take (i := 10) (v := ?_) rfl rfl (by kernel_rfl) (by kernel_rfl) (by kernel_rfl) (fun _ _ _ h => h) (Or.inl ⟨by rfl, ?_⟩) hSa0 ?_
          rotate_left
          · (intro w_ hw_; go_simp; try with_reducible rfl)
          simp only [List.setIfInBounds_toArray, List.set_cons_zero, List.set_cons_succ]
          have HB := Lib.hid hb0
          clear hb0
          clear hSa0
          refine wpAnyH_done (by kernel_rfl) ?_ _

          clear hcab
          go_wp2_with fail
          go_loopw [6] (fun kv wk => ∃ k : Nat, k ≤ na ∧ kv = .int .i64 k ∧ Hid (Below w.heap.size w wk) ∧ Hid (gs[i].take k = hs[i].take k)) (fun kv _ => na - (intOf kv).toNat)
          case atStart => exact ⟨0, by omega, rfl, HB, Lib.hid rfl⟩
          case round =>
            clear HB HU HC
            obtain ⟨k, hk, rfl, HB2, HT2⟩ := hrel
            obtain ⟨_, _, u1, e1, d1, hu1⟩ := (H1.out.grew HB2.out).at_ i hig
            obtain ⟨_, _, u2, e2, d2, hu2⟩ := (H2.out.grew HB2.out).at_ i hih
            injection e1 with e1 _ _
            injection e1 with e1
            injection e1 with e1
            injection e2 with e2 _ _
            injection e2 with e2
            injection e2 with e2
            subst e1
            subst e2
            by_cases hk2 : k < na
            · have hka : k < gs[i].length := by rw [← HNA.out.1]; exact hk2
              have hkb : k < hs[i].length := by rw [← HNA.out.2]; exact hk2
              obtain ⟨ha, ca, rfl, f1, f2⟩ := hu1.at_ k hka
              obtain ⟨hb, cb, rfl, f3, f4⟩ := hu2.at_ k hkb
              rw [← HNA.out.1] at d1
              rw [← HNA.out.2] at d2
              have heq : gs[i][k] = hs[i][k] ↔ gs[i][k].1 = hs[i][k].1 ∧ str gs[i][k].2 = str hs[i][k].2 := by
                constructor
                · intro e; rw [e]; exact ⟨rfl, rfl⟩
                · rintro ⟨e1, e2⟩
                  exact Prod.ext e1 (str_inj (HBY.out.1 _ (List.getElem_mem hig) _ (List.getElem_mem hka)) (HBY.out.2 _ (List.getElem_mem hih) _ (List.getElem_mem hkb)) e2)
              have hnl : (na : Int) ≤ 9223372036854775807 := by have := hu1.le; rw [← HNA.out.1] at this; exact this
              have HEQ := Lib.hid heq
              clear heq hu1 hu2
              obtain ⟨xa, hxa⟩ : ∃ xa, xa = gs[i][k].1 := ⟨_, rfl⟩
              obtain ⟨xb, hxb⟩ : ∃ xb, xb = hs[i][k].1 := ⟨_, rfl⟩
              obtain ⟨sa, hsa⟩ : ∃ sa, sa = str gs[i][k].2 := ⟨_, rfl⟩
              obtain ⟨sb, hsb⟩ : ∃ sb, sb = str hs[i][k].2 := ⟨_, rfl⟩
              rw [← hxa] at f1
              rw [← hxb] at f3
              rw [← hsa] at f2
              rw [← hsb] at f4
              have HX := Lib.hid (And.intro (And.intro hxa hxb) (And.intro hsa hsb))
              have HC2 := Lib.hid (And.intro d1 (And.intro d2 (And.intro (And.intro f1 f2) (And.intro f3 f4))))
              clear hxa hxb hsa hsb f1 f2 f3 f4
              by_cases he1 : xa = xb
              · by_cases he2 : sa = sb
                · have HE : Hid (gs[i].take (k + 1) = hs[i].take (k + 1)) := Lib.hid (take_next HT2.out hka hkb (HEQ.out.2 ⟨by rw [← HX.out.1.1, ← HX.out.1.2, he1], by rw [← HX.out.2.1, ← HX.out.2.2, he2]⟩))
                  clear HX HEQ
                  subst he1
                  subst he2
                  go_wp2_with fail
                  refine wp_region_H (fun v => v.cell? ⟨ga, i, none⟩ = some (.slice (some ⟨ha, 0, none⟩) na ca) ∧ v.cell? ⟨gb, i, none⟩ = some (.slice (some ⟨hb, 0, none⟩) na cb) ∧ (v.cell? ⟨ha, k * 2, none⟩ = some (.int .i64 xa) ∧ v.cell? ⟨ha, k * 2 + 1, none⟩ = some (.string sa)) ∧ v.cell? ⟨hb, k * 2, none⟩ = some (.int .i64 xa) ∧ v.cell? ⟨hb, k * 2 + 1, none⟩ = some (.string sa)) (by kernel_rfl) (fun u0 hu0 => ?_)
                  have hSb0 : (fun v => v.cell? ⟨ga, i, none⟩ = some (.slice (some ⟨ha, 0, none⟩) na ca) ∧ v.cell? ⟨gb, i, none⟩ = some (.slice (some ⟨hb, 0, none⟩) na cb) ∧ (v.cell? ⟨ha, k * 2, none⟩ = some (.int .i64 xa) ∧ v.cell? ⟨ha, k * 2 + 1, none⟩ = some (.string sa)) ∧ v.cell? ⟨hb, k * 2, none⟩ = some (.int .i64 xa) ∧ v.cell? ⟨hb, k * 2 + 1, none⟩ = some (.string sa)) u0 := by subst hu0; exact HC2.out
                  have hb0 : Below w.heap.size w u0 := by subst hu0; exact HB2.out.drew
                  clear hu0
                  refine wpH_take (i := 0) (v := ?_) rfl rfl (by kernel_rfl) (by kernel_rfl) (by kernel_rfl) (fun _ _ _ h => h) (Or.inl ⟨by rfl, ?_⟩) hSb0 ?_
                  rotate_left
                  · (intro w_ hw_; go_simp; try with_reducible rfl)
                  simp only [List.setIfInBounds_toArray, List.set_cons_zero, List.set_cons_succ]
                  refine wpH_take (i := 1) (v := ?_) rfl rfl (by kernel_rfl) (by kernel_rfl) (by kernel_rfl) (fun _ _ _ h => h) (Or.inl ⟨by rfl, ?_⟩) hSb0 ?_
                  rotate_left
                  · (intro w_ hw_; go_simp; try with_reducible rfl)
                  simp only [List.setIfInBounds_toArray, List.set_cons_zero, List.set_cons_succ]
                  refine wpH_take (i := 2) (v := ?_) rfl rfl (by kernel_rfl) (by kernel_rfl) (by kernel_rfl) (fun _ _ _ h => h) (Or.inl ⟨by rfl, ?_⟩) hSb0 ?_
                  rotate_left
                  · (intro w_ hw_; go_simp; try with_reducible rfl)
                  simp only [List.setIfInBounds_toArray, List.set_cons_zero, List.set_cons_succ]
                  refine wpH_take (i := 3) (v := ?_) rfl rfl (by kernel_rfl) (by kernel_rfl) (by kernel_rfl) (fun _ _ _ h => h) (Or.inl ⟨by rfl, ?_⟩) hSb0 ?_
                  rotate_left
                  · (intro w_ hw_; (have q1 := hw_.1; have q2 := hw_.2.1; have q3 := hw_.2.2.1.1; have q4 := hw_.2.2.1.2; have q5 := hw_.2.2.2.1; have q6 := hw_.2.2.2.2; clear hw_); go_simp; try with_reducible rfl)
                  simp only [List.setIfInBounds_toArray, List.set_cons_zero, List.set_cons_succ]
                  refine wpH_take (i := 4) (v := ?_) rfl rfl (by kernel_rfl) (by kernel_rfl) (by kernel_rfl) (fun _ _ _ h => h) (Or.inl ⟨by rfl, ?_⟩) hSb0 ?_
                  rotate_left
                  · (intro w_ hw_; go_simp; try with_reducible rfl)
                  simp only [List.setIfInBounds_toArray, List.set_cons_zero, List.set_cons_succ]
                  refine wpH_take (i := 5) (v := ?_) rfl rfl (by kernel_rfl) (by kernel_rfl) (by kernel_rfl) (fun _ _ _ h => h) (Or.inl ⟨by rfl, ?_⟩) hSb0 ?_
                  rotate_left
                  · (intro w_ hw_; go_simp; try with_reducible rfl)
                  simp only [List.setIfInBounds_toArray, List.set_cons_zero, List.set_cons_succ]
                  refine wpH_take (i := 6) (v := ?_) rfl rfl (by kernel_rfl) (by kernel_rfl) (by kernel_rfl) (fun _ _ _ h => h) (Or.inl ⟨by rfl, ?_⟩) hSb0 ?_
                  rotate_left
                  · (intro w_ hw_; (have q1 := hw_.1; have q2 := hw_.2.1; have q3 := hw_.2.2.1.1; have q4 := hw_.2.2.1.2; have q5 := hw_.2.2.2.1; have q6 := hw_.2.2.2.2; clear hw_); go_simp; try with_reducible rfl)
                  simp only [List.setIfInBounds_toArray, List.set_cons_zero, List.set_cons_succ]
                  refine wpH_take (i := 7) (v := ?_) rfl rfl (by kernel_rfl) (by kernel_rfl) (by kernel_rfl) (fun _ _ _ h => h) (Or.inl ⟨by rfl, ?_⟩) hSb0 ?_
                  rotate_left
                  · (intro w_ hw_; go_simp; try with_reducible rfl)
                  simp only [List.setIfInBounds_toArray, List.set_cons_zero, List.set_cons_succ]
                  refine wpH_take (i := 8) (v := ?_) rfl rfl (by kernel_rfl) (by kernel_rfl) (by kernel_rfl) (fun _ _ _ h => h) (Or.inl ⟨by rfl, ?_⟩) hSb0 ?_
                  rotate_left
                  · (intro w_ hw_; go_simp; try with_reducible rfl)
                  simp only [List.setIfInBounds_toArray, List.set_cons_zero, List.set_cons_succ]
                  refine wpH_take (i := 9) (v := ?_) rfl rfl (by kernel_rfl) (by kernel_rfl) (by kernel_rfl) (fun _ _ _ h => h) (Or.inl ⟨by rfl, ?_⟩) hSb0 ?_
                  rotate_left
                  · (intro w_ hw_; go_simp; try with_reducible rfl)
                  simp only [List.setIfInBounds_toArray, List.set_cons_zero, List.set_cons_succ]
                  refine wpH_take (i := 10) (v := ?_) rfl rfl (by kernel_rfl) (by kernel_rfl) (by kernel_rfl) (fun _ _ _ h => h) (Or.inl ⟨by rfl, ?_⟩) hSb0 ?_
                  rotate_left
                  · (intro w_ hw_; (have q1 := hw_.1; have q2 := hw_.2.1; have q3 := hw_.2.2.1.1; have q4 := hw_.2.2.1.2; have q5 := hw_.2.2.2.1; have q6 := hw_.2.2.2.2; clear hw_); go_simp; try with_reducible rfl)
                  simp only [List.setIfInBounds_toArray, List.set_cons_zero, List.set_cons_succ]
                  refine wpH_take (i := 11) (v := ?_) rfl rfl (by kernel_rfl) (by kernel_rfl) (by kernel_rfl) (fun _ _ _ h => h) (Or.inl ⟨by rfl, ?_⟩) hSb0 ?_
                  rotate_left
                  · (intro w_ hw_; go_simp; try with_reducible rfl)
                  simp only [List.setIfInBounds_toArray, List.set_cons_zero, List.set_cons_succ]
                  refine wpH_take (i := 12) (v := ?_) rfl rfl (by kernel_rfl) (by kernel_rfl) (by kernel_rfl) (fun _ _ _ h => h) (Or.inl ⟨by rfl, ?_⟩) hSb0 ?_
                  rotate_left
                  · (intro w_ hw_; go_simp; try with_reducible rfl)
                  simp only [List.setIfInBounds_toArray, List.set_cons_zero, List.set_cons_succ]
                  refine wpH_take (i := 13) (v := ?_) rfl rfl (by kernel_rfl) (by kernel_rfl) (by kernel_rfl) (fun _ _ _ h => h) (Or.inl ⟨by rfl, ?_⟩) hSb0 ?_
                  rotate_left
                  · (intro w_ hw_; (have q1 := hw_.1; have q2 := hw_.2.1; have q3 := hw_.2.2.1.1; have q4 := hw_.2.2.1.2; have q5 := hw_.2.2.2.1; have q6 := hw_.2.2.2.2; clear hw_); go_simp; try with_reducible rfl)
                  simp only [List.setIfInBounds_toArray, List.set_cons_zero, List.set_cons_succ]
                  refine wpH_take (i := 14) (v := ?_) rfl rfl (by kernel_rfl) (by kernel_rfl) (by kernel_rfl) (fun _ _ _ h => h) (Or.inl ⟨by rfl, ?_⟩) hSb0 ?_
                  rotate_left
                  · (intro w_ hw_; go_simp; try with_reducible rfl)
                  simp only [List.setIfInBounds_toArray, List.set_cons_zero, List.set_cons_succ]
                  have HB := Lib.hid hb0
                  clear hb0
                  clear hSb0
                  refine wpAnyH_done (by kernel_rfl) ?_ _

                  go_wp2
                  go_round
                  case rel => exact ⟨k + 1, by omega, by go_num, HB, HE⟩
                  case measure => simp only [intOf]; omega
                · have he3 : ¬ sa.toList = sb.toList := fun e => by
                    have := str_ne he2
                    rw [e] at this
                    simp at this
                  have HE : Hid (decide (gs = hs) = false) := Lib.hid (decide_eq_false (fun e => by
                    subst e
                    exact he2 (by rw [HX.out.2.1, HX.out.2.2])))
                  clear HX HEQ he2
                  subst he1
                  go_wp2_with fail
                  refine wp_region_H (fun v => v.cell? ⟨ga, i, none⟩ = some (.slice (some ⟨ha, 0, none⟩) na ca) ∧ v.cell? ⟨gb, i, none⟩ = some (.slice (some ⟨hb, 0, none⟩) na cb) ∧ (v.cell? ⟨ha, k * 2, none⟩ = some (.int .i64 xa) ∧ v.cell? ⟨ha, k * 2 + 1, none⟩ = some (.string sa)) ∧ v.cell? ⟨hb, k * 2, none⟩ = some (.int .i64 xa) ∧ v.cell? ⟨hb, k * 2 + 1, none⟩ = some (.string sb)) (by kernel_rfl) (fun u0 hu0 => ?_)
                  have hSb0 : (fun v => v.cell? ⟨ga, i, none⟩ = some (.slice (some ⟨ha, 0, none⟩) na ca) ∧ v.cell? ⟨gb, i, none⟩ = some (.slice (some ⟨hb, 0, none⟩) na cb) ∧ (v.cell? ⟨ha, k * 2, none⟩ = some (.int .i64 xa) ∧ v.cell? ⟨ha, k * 2 + 1, none⟩ = some (.string sa)) ∧ v.cell? ⟨hb, k * 2, none⟩ = some (.int .i64 xa) ∧ v.cell? ⟨hb, k * 2 + 1, none⟩ = some (.string sb)) u0 := by subst hu0; exact HC2.out
                  have hb0 : Below w.heap.size w u0 := by subst hu0; exact HB2.out.drew
                  clear hu0
                  refine wpH_take (i := 0) (v := ?_) rfl rfl (by kernel_rfl) (by kernel_rfl) (by kernel_rfl) (fun _ _ _ h => h) (Or.inl ⟨by rfl, ?_⟩) hSb0 ?_
                  rotate_left
                  · (intro w_ hw_; go_simp; try with_reducible rfl)
                  simp only [List.setIfInBounds_toArray, List.set_cons_zero, List.set_cons_succ]
                  refine wpH_take (i := 1) (v := ?_) rfl rfl (by kernel_rfl) (by kernel_rfl) (by kernel_rfl) (fun _ _ _ h => h) (Or.inl ⟨by rfl, ?_⟩) hSb0 ?_
                  rotate_left
                  · (intro w_ hw_; go_simp; try with_reducible rfl)
                  simp only [List.setIfInBounds_toArray, List.set_cons_zero, List.set_cons_succ]
                  refine wpH_take (i := 2) (v := ?_) rfl rfl (by kernel_rfl) (by kernel_rfl) (by kernel_rfl) (fun _ _ _ h => h) (Or.inl ⟨by rfl, ?_⟩) hSb0 ?_
                  rotate_left
                  · (intro w_ hw_; go_simp; try with_reducible rfl)
                  simp only [List.setIfInBounds_toArray, List.set_cons_zero, List.set_cons_succ]
                  refine wpH_take (i := 3) (v := ?_) rfl rfl (by kernel_rfl) (by kernel_rfl) (by kernel_rfl) (fun _ _ _ h => h) (Or.inl ⟨by rfl, ?_⟩) hSb0 ?_
                  rotate_left
                  · (intro w_ hw_; (have q1 := hw_.1; have q2 := hw_.2.1; have q3 := hw_.2.2.1.1; have q4 := hw_.2.2.1.2; have q5 := hw_.2.2.2.1; have q6 := hw_.2.2.2.2; clear hw_); go_simp; try with_reducible rfl)
                  simp only [List.setIfInBounds_toArray, List.set_cons_zero, List.set_cons_succ]
                  refine wpH_take (i := 4) (v := ?_) rfl rfl (by kernel_rfl) (by kernel_rfl) (by kernel_rfl) (fun _ _ _ h => h) (Or.inl ⟨by rfl, ?_⟩) hSb0 ?_
                  rotate_left
                  · (intro w_ hw_; go_simp; try with_reducible rfl)
                  simp only [List.setIfInBounds_toArray, List.set_cons_zero, List.set_cons_succ]
                  refine wpH_take (i := 5) (v := ?_) rfl rfl (by kernel_rfl) (by kernel_rfl) (by kernel_rfl) (fun _ _ _ h => h) (Or.inl ⟨by rfl, ?_⟩) hSb0 ?_
                  rotate_left
                  · (intro w_ hw_; go_simp; try with_reducible rfl)
                  simp only [List.setIfInBounds_toArray, List.set_cons_zero, List.set_cons_succ]
                  refine wpH_take (i := 6) (v := ?_) rfl rfl (by kernel_rfl) (by kernel_rfl) (by kernel_rfl) (fun _ _ _ h => h) (Or.inl ⟨by rfl, ?_⟩) hSb0 ?_
                  rotate_left
                  · (intro w_ hw_; (have q1 := hw_.1; have q2 := hw_.2.1; have q3 := hw_.2.2.1.1; have q4 := hw_.2.2.1.2; have q5 := hw_.2.2.2.1; have q6 := hw_.2.2.2.2; clear hw_); go_simp; try with_reducible rfl)
                  simp only [List.setIfInBounds_toArray, List.set_cons_zero, List.set_cons_succ]
                  refine wpH_take (i := 7) (v := ?_) rfl rfl (by kernel_rfl) (by kernel_rfl) (by kernel_rfl) (fun _ _ _ h => h) (Or.inl ⟨by rfl, ?_⟩) hSb0 ?_
                  rotate_left
                  · (intro w_ hw_; go_simp; try with_reducible rfl)
                  simp only [List.setIfInBounds_toArray, List.set_cons_zero, List.set_cons_succ]
                  refine wpH_take (i := 8) (v := ?_) rfl rfl (by kernel_rfl) (by kernel_rfl) (by kernel_rfl) (fun _ _ _ h => h) (Or.inl ⟨by rfl, ?_⟩) hSb0 ?_
                  rotate_left
                  · (intro w_ hw_; go_simp; try with_reducible rfl)
                  simp only [List.setIfInBounds_toArray, List.set_cons_zero, List.set_cons_succ]
                  refine wpH_take (i := 9) (v := ?_) rfl rfl (by kernel_rfl) (by kernel_rfl) (by kernel_rfl) (fun _ _ _ h => h) (Or.inl ⟨by rfl, ?_⟩) hSb0 ?_
                  rotate_left
                  · (intro w_ hw_; go_simp; try with_reducible rfl)
                  simp only [List.setIfInBounds_toArray, List.set_cons_zero, List.set_cons_succ]
                  refine wpH_take (i := 10) (v := ?_) rfl rfl (by kernel_rfl) (by kernel_rfl) (by kernel_rfl) (fun _ _ _ h => h) (Or.inl ⟨by rfl, ?_⟩) hSb0 ?_
                  rotate_left
                  · (intro w_ hw_; (have q1 := hw_.1; have q2 := hw_.2.1; have q3 := hw_.2.2.1.1; have q4 := hw_.2.2.1.2; have q5 := hw_.2.2.2.1; have q6 := hw_.2.2.2.2; clear hw_); go_simp; try with_reducible rfl)
                  simp only [List.setIfInBounds_toArray, List.set_cons_zero, List.set_cons_succ]
                  refine wpH_take (i := 11) (v := ?_) rfl rfl (by kernel_rfl) (by kernel_rfl) (by kernel_rfl) (fun _ _ _ h => h) (Or.inl ⟨by rfl, ?_⟩) hSb0 ?_
                  rotate_left
                  · (intro w_ hw_; go_simp; try with_reducible rfl)
                  simp only [List.setIfInBounds_toArray, List.set_cons_zero, List.set_cons_succ]
                  refine wpH_take (i := 12) (v := ?_) rfl rfl (by kernel_rfl) (by kernel_rfl) (by kernel_rfl) (fun _ _ _ h => h) (Or.inl ⟨by rfl, ?_⟩) hSb0 ?_
                  rotate_left
                  · (intro w_ hw_; go_simp; try with_reducible rfl)
                  simp only [List.setIfInBounds_toArray, List.set_cons_zero, List.set_cons_succ]
                  refine wpH_take (i := 13) (v := ?_) rfl rfl (by kernel_rfl) (by kernel_rfl) (by kernel_rfl) (fun _ _ _ h => h) (Or.inl ⟨by rfl, ?_⟩) hSb0 ?_
                  rotate_left
                  · (intro w_ hw_; (have q1 := hw_.1; have q2 := hw_.2.1; have q3 := hw_.2.2.1.1; have q4 := hw_.2.2.1.2; have q5 := hw_.2.2.2.1; have q6 := hw_.2.2.2.2; clear hw_); go_simp; try with_reducible rfl)
                  simp only [List.setIfInBounds_toArray, List.set_cons_zero, List.set_cons_succ]
                  refine wpH_take (i := 14) (v := ?_) rfl rfl (by kernel_rfl) (by kernel_rfl) (by kernel_rfl) (fun _ _ _ h => h) (Or.inl ⟨by rfl, ?_⟩) hSb0 ?_
                  rotate_left
                  · (intro w_ hw_; go_simp; try with_reducible rfl)
                  simp only [List.setIfInBounds_toArray, List.set_cons_zero, List.set_cons_succ]
                  have HB := Lib.hid hb0
                  clear hb0
                  clear hSb0
                  refine wpAnyH_done (by kernel_rfl) ?_ _

                  go_wp2
                  go_ret
                  exact ⟨ret_bool HE.out.symm, HB.out⟩
              · have HE : Hid (decide (gs = hs) = false) := Lib.hid (decide_eq_false (fun e => by
                  subst e
                  exact he1 (by rw [HX.out.1.1, HX.out.1.2])))
                clear HX HEQ
                go_wp2_with fail
                refine wp_region_H (fun v => v.cell? ⟨ga, i, none⟩ = some (.slice (some ⟨ha, 0, none⟩) na ca) ∧ v.cell? ⟨gb, i, none⟩ = some (.slice (some ⟨hb, 0, none⟩) na cb) ∧ (v.cell? ⟨ha, k * 2, none⟩ = some (.int .i64 xa) ∧ v.cell? ⟨ha, k * 2 + 1, none⟩ = some (.string sa)) ∧ v.cell? ⟨hb, k * 2, none⟩ = some (.int .i64 xb) ∧ v.cell? ⟨hb, k * 2 + 1, none⟩ = some (.string sb)) (by kernel_rfl) (fun u0 hu0 => ?_)
                have hSb0 : (fun v => v.cell? ⟨ga, i, none⟩ = some (.slice (some ⟨ha, 0, none⟩) na ca) ∧ v.cell? ⟨gb, i, none⟩ = some (.slice (some ⟨hb, 0, none⟩) na cb) ∧ (v.cell? ⟨ha, k * 2, none⟩ = some (.int .i64 xa) ∧ v.cell? ⟨ha, k * 2 + 1, none⟩ = some (.string sa)) ∧ v.cell? ⟨hb, k * 2, none⟩ = some (.int .i64 xb) ∧ v.cell? ⟨hb, k * 2 + 1, none⟩ = some (.string sb)) u0 := by subst hu0; exact HC2.out
                have hb0 : Below w.heap.size w u0 := by subst hu0; exact HB2.out.drew
                clear hu0
                refine wpH_take (i := 0) (v := ?_) rfl rfl (by kernel_rfl) (by kernel_rfl) (by kernel_rfl) (fun _ _ _ h => h) (Or.inl ⟨by rfl, ?_⟩) hSb0 ?_
                rotate_left
                · (intro w_ hw_; go_simp; try with_reducible rfl)
                simp only [List.setIfInBounds_toArray, List.set_cons_zero, List.set_cons_succ]
                refine wpH_take (i := 1) (v := ?_) rfl rfl (by kernel_rfl) (by kernel_rfl) (by kernel_rfl) (fun _ _ _ h => h) (Or.inl ⟨by rfl, ?_⟩) hSb0 ?_
                rotate_left
                · (intro w_ hw_; go_simp; try with_reducible rfl)
                simp only [List.setIfInBounds_toArray, List.set_cons_zero, List.set_cons_succ]
                refine wpH_take (i := 2) (v := ?_) rfl rfl (by kernel_rfl) (by kernel_rfl) (by kernel_rfl) (fun _ _ _ h => h) (Or.inl ⟨by rfl, ?_⟩) hSb0 ?_
                rotate_left
                · (intro w_ hw_; go_simp; try with_reducible rfl)
                simp only [List.setIfInBounds_toArray, List.set_cons_zero, List.set_cons_succ]
                refine wpH_take (i := 3) (v := ?_) rfl rfl (by kernel_rfl) (by kernel_rfl) (by kernel_rfl) (fun _ _ _ h => h) (Or.inl ⟨by rfl, ?_⟩) hSb0 ?_
                rotate_left
                · (intro w_ hw_; (have q1 := hw_.1; have q2 := hw_.2.1; have q3 := hw_.2.2.1.1; have q4 := hw_.2.2.1.2; have q5 := hw_.2.2.2.1; have q6 := hw_.2.2.2.2; clear hw_); go_simp; try with_reducible rfl)
                simp only [List.setIfInBounds_toArray, List.set_cons_zero, List.set_cons_succ]
                refine wpH_take (i := 4) (v := ?_) rfl rfl (by kernel_rfl) (by kernel_rfl) (by kernel_rfl) (fun _ _ _ h => h) (Or.inl ⟨by rfl, ?_⟩) hSb0 ?_
                rotate_left
                · (intro w_ hw_; go_simp; try with_reducible rfl)
                simp only [List.setIfInBounds_toArray, List.set_cons_zero, List.set_cons_succ]
                refine wpH_take (i := 5) (v := ?_) rfl rfl (by kernel_rfl) (by kernel_rfl) (by kernel_rfl) (fun _ _ _ h => h) (Or.inl ⟨by rfl, ?_⟩) hSb0 ?_
                rotate_left
                · (intro w_ hw_; go_simp; try with_reducible rfl)
                simp only [List.setIfInBounds_toArray, List.set_cons_zero, List.set_cons_succ]
                refine wpH_take (i := 6) (v := ?_) rfl rfl (by kernel_rfl) (by kernel_rfl) (by kernel_rfl) (fun _ _ _ h => h) (Or.inl ⟨by rfl, ?_⟩) hSb0 ?_
                rotate_left
                · (intro w_ hw_; (have q1 := hw_.1; have q2 := hw_.2.1; have q3 := hw_.2.2.1.1; have q4 := hw_.2.2.1.2; have q5 := hw_.2.2.2.1; have q6 := hw_.2.2.2.2; clear hw_); go_simp; try with_reducible rfl)
                simp only [List.setIfInBounds_toArray, List.set_cons_zero, List.set_cons_succ]
                refine wpH_take (i := 7) (v := ?_) rfl rfl (by kernel_rfl) (by kernel_rfl) (by kernel_rfl) (fun _ _ _ h => h) (Or.inl ⟨by rfl, ?_⟩) hSb0 ?_
                rotate_left
                · (intro w_ hw_; go_simp; try with_reducible rfl)
                simp only [List.setIfInBounds_toArray, List.set_cons_zero, List.set_cons_succ]
                refine wpH_take (i := 8) (v := ?_) rfl rfl (by kernel_rfl) (by kernel_rfl) (by kernel_rfl) (fun _ _ _ h => h) (Or.inl ⟨by rfl, ?_⟩) hSb0 ?_
                rotate_left
                · (intro w_ hw_; go_simp; try with_reducible rfl)
                simp only [List.setIfInBounds_toArray, List.set_cons_zero, List.set_cons_succ]
                refine wpH_take (i := 9) (v := ?_) rfl rfl (by kernel_rfl) (by kernel_rfl) (by kernel_rfl) (fun _ _ _ h => h) (Or.inl ⟨by rfl, ?_⟩) hSb0 ?_
                rotate_left
                · (intro w_ hw_; go_simp; try with_reducible rfl)
                simp only [List.setIfInBounds_toArray, List.set_cons_zero, List.set_cons_succ]
                refine wpH_take (i := 10) (v := ?_) rfl rfl (by kernel_rfl) (by kernel_rfl) (by kernel_rfl) (fun _ _ _ h => h) (Or.inl ⟨by rfl, ?_⟩) hSb0 ?_
                rotate_left
                · (intro w_ hw_; (have q1 := hw_.1; have q2 := hw_.2.1; have q3 := hw_.2.2.1.1; have q4 := hw_.2.2.1.2; have q5 := hw_.2.2.2.1; have q6 := hw_.2.2.2.2; clear hw_); go_simp; try with_reducible rfl)
                simp only [List.setIfInBounds_toArray, List.set_cons_zero, List.set_cons_succ]
                refine wpH_take (i := 11) (v := ?_) rfl rfl (by kernel_rfl) (by kernel_rfl) (by kernel_rfl) (fun _ _ _ h => h) (Or.inl ⟨by rfl, ?_⟩) hSb0 ?_
                rotate_left
                · (intro w_ hw_; go_simp; try with_reducible rfl)
                simp only [List.setIfInBounds_toArray, List.set_cons_zero, List.set_cons_succ]
                refine wpH_take (i := 12) (v := ?_) rfl rfl (by kernel_rfl) (by kernel_rfl) (by kernel_rfl) (fun _ _ _ h => h) (Or.inl ⟨by rfl, ?_⟩) hSb0 ?_
                rotate_left
                · (intro w_ hw_; go_simp; try with_reducible rfl)
                simp only [List.setIfInBounds_toArray, List.set_cons_zero, List.set_cons_succ]
                refine wpH_take (i := 13) (v := ?_) rfl rfl (by kernel_rfl) (by kernel_rfl) (by kernel_rfl) (fun _ _ _ h => h) (Or.inl ⟨by rfl, ?_⟩) hSb0 ?_
                rotate_left
                · (intro w_ hw_; (have q1 := hw_.1; have q2 := hw_.2.1; have q3 := hw_.2.2.1.1; have q4 := hw_.2.2.1.2; have q5 := hw_.2.2.2.1; have q6 := hw_.2.2.2.2; clear hw_); go_simp; try with_reducible rfl)
                simp only [List.setIfInBounds_toArray, List.set_cons_zero, List.set_cons_succ]
                refine wpH_take (i := 14) (v := ?_) rfl rfl (by kernel_rfl) (by kernel_rfl) (by kernel_rfl) (fun _ _ _ h => h) (Or.inl ⟨by rfl, ?_⟩) hSb0 ?_
                rotate_left
                · (intro w_ hw_; go_simp; try with_reducible rfl)
                simp only [List.setIfInBounds_toArray, List.set_cons_zero, List.set_cons_succ]
                have HB := Lib.hid hb0
                clear hb0
                clear hSb0
                refine wpAnyH_done (by kernel_rfl) ?_ _

                go_wp2
                go_ret
                exact ⟨ret_bool HE.out.symm, HB.out⟩
            · obtain rfl : k = na := by omega
              obtain ⟨Ax, cx, rfl⟩ := hu1.form
              rw [← HNA.out.1] at d1
              have hk3 : ¬ (k : Int) < k := by omega
              have HE : Hid (gs.take (i + 1) = hs.take (i + 1)) := Lib.hid (take_next HT.out hig hih (take_all HT2.out HNA.out.1.symm HNA.out.2.symm))
              clear hu1 hu2 d2
              go_wp2
              exact ⟨⟨i + 1, by omega, by omega, HE⟩, by simp only [intOf]; omega⟩
        · have HE : Hid (decide (gs = hs) = false) := Lib.hid (decide_eq_false (fun e => by
            subst e
            exact hl2 (by rw [HNA.out.1, HNA.out.2])))
          have hl3 : ¬ (na : Int) = nb := by omega
          go_wp2_with fail
          refine wp_region_H (fun v => v.cell? ⟨ga, i, none⟩ = some (.slice Ai na ca) ∧ v.cell? ⟨gb, i, none⟩ = some (.slice Bi nb cb)) (by kernel_rfl) (fun u0 hu0 => ?_)
          have hSa0 : (fun v => v.cell? ⟨ga, i, none⟩ = some (.slice Ai na ca) ∧ v.cell? ⟨gb, i, none⟩ = some (.slice Bi nb cb)) u0 := by subst hu0; exact ⟨HC.out.1, HC.out.2⟩
          have hb0 : Below w.heap.size w u0 := by subst hu0; exact HB.out.drew
          clear hu0
          refine wpH_take (i := 0) (v := ?_) rfl rfl (by kernel_rfl) (by kernel_rfl) (by kernel_rfl) (fun _ _ _ h => h) (Or.inl ⟨by rfl, ?_⟩) hSa0 ?_
          rotate_left
          · (intro w_ hw_; go_simp; try with_reducible rfl)
          simp only [List.setIfInBounds_toArray, List.set_cons_zero, List.set_cons_succ]
          refine wpH_take (i := 1) (v := ?_) rfl rfl (by kernel_rfl) (by kernel_rfl) (by kernel_rfl) (fun _ _ _ h => h) (Or.inl ⟨by rfl, ?_⟩) hSa0 ?_
          rotate_left
          · (intro w_ hw_; go_simp; try with_reducible rfl)
          simp only [List.setIfInBounds_toArray, List.set_cons_zero, List.set_cons_succ]
          refine wpH_take (i := 2) (v := ?_) rfl rfl (by kernel_rfl) (by kernel_rfl) (by kernel_rfl) (fun _ _ _ h => h) (Or.inl ⟨by rfl, ?_⟩) hSa0 ?_
          rotate_left
          · (intro w_ hw_; go_simp; try with_reducible rfl)
          simp only [List.setIfInBounds_toArray, List.set_cons_zero, List.set_cons_succ]
          refine wpH_take (i := 3) (v := ?_) rfl rfl (by kernel_rfl) (by kernel_rfl) (by kernel_rfl) (fun _ _ _ h => h) (Or.inl ⟨by rfl, ?_⟩) hSa0 ?_
          rotate_left
          · (intro w_ hw_; (have q1 := hw_.1; have q2 := hw_.2; clear hw_); go_simp; try with_reducible rfl)
          simp only [List.setIfInBounds_toArray, List.set_cons_zero, List.set_cons_succ]
          refine wpH_take (i := 4) (v := ?_) rfl rfl (by kernel_rfl) (by kernel_rfl) (by kernel_rfl) (fun _ _ _ h => h) (Or.inl ⟨by rfl, ?_⟩) hSa0 ?_
          rotate_left
          · (intro w_ hw_; (have q1 := hw_.1; have q2 := hw_.2; clear hw_); go_simp; try with_reducible rfl)
          simp only [List.setIfInBounds_toArray, List.set_cons_zero, List.set_cons_succ]
          refine wpH_take (i := 5) (v := ?_) rfl rfl (by kernel_rfl) (by kernel_rfl) (by kernel_rfl) (fun _ _ _ h => h) (Or.inl ⟨by rfl, ?_⟩) hSa0 ?_
          rotate_left
          · (intro w_ hw_; go_simp; try with_reducible rfl)
          simp only [List.setIfInBounds_toArray, List.set_cons_zero, List.set_cons_succ]
          refine wpH_take (i := 6) (v := ?_) rfl rfl (by kernel_rfl) (by kernel_rfl) (by kernel_rfl) (fun _ _ _ h => h) (Or.inl ⟨by rfl, ?_⟩) hSa0 ?_
          rotate_left
          · (intro w_ hw_; go_simp; try with_reducible rfl)
          simp only [List.setIfInBounds_toArray, List.set_cons_zero, List.set_cons_succ]
          refine wpH_take (i := 7) (v := ?_) rfl rfl (by kernel_rfl) (by kernel_rfl) (by kernel_rfl) (fun _ _ _ h => h) (Or.inl ⟨by rfl, ?_⟩) hSa0 ?_
          rotate_left
          · (intro w_ hw_; go_simp; try with_reducible rfl)
          simp only [List.setIfInBounds_toArray, List.set_cons_zero, List.set_cons_succ]
          refine wpH_take (i := 8) (v := ?_) rfl rfl (by kernel_rfl) (by kernel_rfl) (by kernel_rfl) (fun _ _ _ h => h) (Or.inl ⟨by rfl, ?_⟩) hSa0 ?_
          rotate_left
          · (intro w_ hw_; (have q1 := hw_.1; have q2 := hw_.2; clear hw_); go_simp; try with_reducible rfl)
          simp only [List.setIfInBounds_toArray, List.set_cons_zero, List.set_cons_succ]
          refine wpH_take (i := 9) (v := ?_) rfl rfl (by kernel_rfl) (by kernel_rfl) (by kernel_rfl) (fun _ _ _ h => h) (Or.inl ⟨by rfl, ?_⟩) hSa0 ?_
          rotate_left
          · (intro w_ hw_; (have q1 := hw_.1; have q2 := hw_.2; clear hw_); go_simp; try with_reducible rfl)
          simp only [List.setIfInBounds_toArray, List.set_cons_zero, List.set_cons_succ]
          refine wpH_take (i := 10) (v := ?_) rfl rfl (by kernel_rfl) (by kernel_rfl) (by kernel_rfl) (fun _ _ _ h => h) (Or.inl ⟨by rfl, ?_⟩) hSa0 ?_
          rotate_left
          · (intro w_ hw_; go_simp; try with_reducible rfl)
          simp only [List.setIfInBounds_toArray, List.set_cons_zero, List.set_cons_succ]
          have HB := Lib.hid hb0
          clear hb0
          clear hSa0
          refine wpAnyH_done (by kernel_rfl) ?_ _

          go_wp2
          go_ret
          exact ⟨ret_bool HE.out.symm, HB.out⟩
      · obtain rfl : i = n := by omega
        have hk3 : ¬ (i : Int) < i := by omega
        have HE : Hid (decide (gs = hs) = true) := Lib.hid (decide_eq_true (take_all HT.out HN.out.1.symm HN.out.2.symm))
        go_wp2
        go_ret
        exact ⟨ret_bool HE.out.symm, HB.out⟩
  · have HE : Hid (decide (gs = hs) = false) := Lib.hid (decide_eq_false (fun e => by
      subst e
      exact hl (by rw [HN.out.1, HN.out.2])))
    have hl3 : ¬ (n : Int) = n' := by omega
    go_enter Try.func48, Try.ntmps48
    go_wp2
    go_ret
    exact ⟨ret_bool HE.out.symm, Below.refl _ _⟩
end Go.Proofs.Ytpomfokpmbblkaa
