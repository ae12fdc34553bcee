/- log.Clean on any disk that is up. Printed by mk_p26.py out of A20's text. Walks: Checkpoint. Walks: lay. -/
import Derived.Test.YtfmdmfiljplkoaaGreatP25
import Derived.Test.YtfmdmfiljplkoaaGreatA20
namespace Go.Proofs.YtfmdmfiljplkoaaGreat
open Go.RowKit Go.Maps Go.Shelf
attribute [local go_sem] Oper.semAt_some
set_option maxRecDepth 8000
variable {ι : Type} [Bar ι]
/-- Clean, from the torn slots on. -/
def goWipe (f : Nat) (D : Dsk) : List Nat → Int × Dsk
  | [] => (D.flushErr, D.flush)
  | i :: r => if D.putErr ((f : Int) + i) (List.replicate D.size 0) ≠ 0 then (D.putErr ((f : Int) + i) (List.replicate D.size 0), D.put ((f : Int) + i) (List.replicate D.size 0))
    else goWipe f (D.put ((f : Int) + i) (List.replicate D.size 0)) r
set_option maxHeartbeats 8000000 in
theorem CleanG_any {w : World} {b m : Nat} {vl : Value} {D : Dsk} (h : DiskAt w b m vl D) (f c : Nat) (hk : okAt D f c = true) (hlo : D.loose.length ≤ 100000) (hdn : D.down = false) (R : Int × Dsk) (hR : R = goWipe f D (tornL D f c)) :
    Calls Tryz.prog 57 #[.pointer (some ⟨b, 0, none⟩), .int .i64 f, .int .i64 c] w fun e w' => e = .returned (.int .i64 R.1) ∧ ∃ vl', DiskAt w' b m vl' R.2 ∧ Turn (own b m vl) w w' ∧ ∀ g, vl'.ownBlock = some g → vl.ownBlock = some g ∨ w.heap.size ≤ g := by
  refine (callsIn_wide (n := 5)).1 ?_
  have HAT := Lib.hid (at_ok h f c hk)
  unfold okAt at hk
  have hk2 := of_decide_eq_true hk
  have hs2 := h.ok.s2
  have HUP : Hid (∀ k : Nat, k < c → D.ready ((f : Int) + k) = 0) := Lib.hid (fun k hkc => by unfold Dsk.ready; rw [hdn, if_neg (by simp), if_neg (by omega)])
  have HD := Lib.hid h
  have HLO := Lib.hid hlo
  have HRW := Lib.hid hR.symm
  have HFC := Lib.hid (show f + c ≤ D.sectors by omega)
  have hcb : (c : Int) ≤ 1048576 := by omega
  have hfb : (f : Int) ≤ 1048576 := by omega
  clear h hk hk2 hs2 hlo hdn hR
  refine callsIn_of_wp_marks Tryz.func57 rfl trivial ?_
  simp only [Tryz.ntmps57, List.size_toArray, List.length_cons, List.length_nil, Nat.reduceAdd, Nat.reduceSub, Array.replicate_succ, Array.replicate_zero, List.push_toArray, List.append_toArray, List.nil_append, List.cons_append]
  gi_wp2_with fail
  refine ⟨trivial, callsIn_wide.2 (HAT.out.mono ?_)⟩
  rintro e w1 ⟨rfl, hb1⟩
  have H1 : Hid (∀ v, v = (((w1.alloc (.cells #[.pointer (some ⟨b, 0, none⟩), .int .i64 f, .int .i64 c] 172)).alloc (.cells #[.int .i64 0] 30)).alloc (.cells #[.slice none 0 0] 118)) → Below w.heap.size w v ∧ DiskAt v b m vl D ∧ Blk v (w1.heap.size + 1) #[.int .i64 0] 30 ∧ Blk v (w1.heap.size + 1 + 1) #[.slice none 0 0] 118 ∧ w.heap.size ≤ w1.heap.size + 1 + 1) := Lib.hid (by
    rintro v rfl
    have g0 : Below w1.heap.size w1 (((w1.alloc (.cells #[.pointer (some ⟨b, 0, none⟩), .int .i64 f, .int .i64 c] 172)).alloc (.cells #[.int .i64 0] 30)).alloc (.cells #[.slice none 0 0] 118)) := grow_alloc (grow_alloc (grow_alloc (Below.refl _ _) _) _) _
    exact ⟨grow hb1 g0, (HD.out.grew hb1).grew g0, (Blk.new' _ _ _ (by simp)).alloc _, Blk.new' _ _ _ (by simp), by have := hb1.size; omega⟩)
  clear hb1 HAT
  gi_wp2_with fail
  have h2 := H1.out _ rfl
  refine ⟨trivial, callsIn_wide.2 ((slots_any _ _ _ _ _).mono ?_)⟩
  rintro e w4 ⟨X, rfl, hX, _, _, hb4⟩
  have H4 := Lib.hid (And.intro (grow h2.1 hb4) (And.intro (h2.2.1.grew hb4) (And.intro (h2.2.2.1.grew hb4) (And.intro (h2.2.2.2.1.grew hb4) (And.intro h2.2.2.2.2 hX)))))
  clear h2 hX hb4 H1
  generalize w1.heap.size + 1 + 1 = TB at *
  generalize w1.heap.size + 1 = EB at *
  gi_wp2_with fail
  refine wpIn_range rfl (by decide) (gf := 163) (lb := #[.pointer (some ⟨X, 0, none⟩), .pointer (some ⟨X + 1, 0, none⟩)]) rfl trivial (enters_of Tryz.func163 (by kernel_rfl) rfl) ?_
  intro fn hfn W1 hb1 hz1 hD hL
  generalize hrec : recOf fn _ _ _ _ _ = rec at hL ⊢
  have HR := Lib.hid hrec
  clear hrec
  have R1 : ClS w W1 b m vl D f c X EB TB w4.heap.size (w4.heap.size + 1) nilv (tornL D f 0) (rec .ready none) :=
    ⟨H4.out.2.1.grew hb1, H4.out.2.2.2.2.2.grew hb1, H4.out.2.2.1.grew hb1, H4.out.2.2.2.1.grew hb1, World.ownsRow_nil _ _ _ _, hD, hL, grow H4.out.1 hb1, ⟨H4.out.2.2.2.2.1, Nat.le_trans H4.out.1.size (by omega), H4.out.1.size⟩⟩
  have RR := Lib.hid R1
  clear H4 hD hL hb1 R1 hz1
  generalize w4.heap.size = d at *
  refine (iter_any (fun k W => ∃ tv, ClS w W b m vl D f c X EB TB d (d + 1) tv (tornL D f k) (rec .ready none)) (fun _ => False) f c hcb hfb (fun k W h => by obtain ⟨tv, h⟩ := h; exact ⟨h.kX, h.disk⟩) (fun k W W' h hb => by obtain ⟨tv, h⟩ := h; exact ⟨tv, h.grew hb⟩) (by have := HLO.out; omega) HUP.out ?_ ⟨nilv, RR.out⟩).mono ?_
  · intro k W v R9 hkc hJ ho hR hRx
    obtain ⟨B, ho⟩ := ho
    obtain ⟨A, c9, rfl, _⟩ := ho.form
    obtain ⟨tv, hJ⟩ := hJ
    have hlk : tornL D f (k + 1) = if isTorn (D.tells ((f : Int) + k)) k then tornL D f k ++ [k] else tornL D f k := rfl
    have hit : isTorn (D.tells ((f : Int) + k)) k = ((slotEp (D.tells ((f : Int) + k)) k == 0) && !slotEmpty (D.tells ((f : Int) + k)) k) := rfl
    rw [hit] at hlk
    have hll := tornL_len D f k
    have HJ := Lib.hid hJ
    have dL := hJ.kl
    rw [← HR.out] at dL
    refine yield_of trivial dL rfl ?_
    have HRR := Lib.hid hR
    generalize slotLoad (D.tells ((f : Int) + k)) k = ld at *
    generalize slotEmpty (D.tells ((f : Int) + k)) k = em at *
    generalize slotEp (D.tells ((f : Int) + k)) k = ep at *
    have HLK := Lib.hid hlk
    have HLL := Lib.hid hll
    clear hR hRx hJ ho hlk dL RR HUP hll hit
    obtain ⟨n9, hn9⟩ : ∃ n9, n9 = ld.length := ⟨_, rfl⟩
    rw [← hn9]
    clear hn9
    have H2 : Hid (∀ W2, W2 = W.alloc (.cells #[.int .i64 ep, .slice A n9 c9, .bool em] 179) → ClS w W2 b m vl D f c X EB TB d (d + 1) tv (tornL D f k) (rec .ready none) ∧ Blk W2 W.heap.size #[.int .i64 ep, .slice A n9 c9, .bool em] 179) := Lib.hid (by
      rintro W2 rfl
      exact ⟨HJ.out.grew (grow_alloc (Below.refl _ _) _), Blk.new _ _ _⟩)
    gi_wp2_with fail
    obtain ⟨W2, hW2⟩ : ∃ W2, W2 = W.alloc (.cells #[.int .i64 ep, .slice A n9 c9, .bool em] 179) := ⟨_, rfl⟩
    rw [← hW2]
    have h2 := H2.out W2 hW2
    obtain ⟨Y, hY⟩ : ∃ Y, Y = W.heap.size := ⟨_, rfl⟩
    rw [← hY] at h2 ⊢
    have dL := h2.1.kl
    refine ⟨by rw [HR.out]; exact dL, ?_⟩
    intro W3 hT
    rw [HR.out] at hT
    have h3 := h2.1.turned hT
    have b3 := h2.2.turned dL hT
    have c0 := b3.cell 0
    have c2 := b3.cell 2
    have cT := h3.kT.cell 0
    have H3 := Lib.hid h3
    clear H2 HJ hW2 hY h2 dL hT b3
    by_cases hep : ep = 0
    · cases em with
      | false =>
        have HS : Hid (tornL D f (k + 1) = tornL D f k ++ [k]) := Lib.hid (by rw [HLK.out, hep]; rfl)
        obtain ⟨tv', v3, hrun, q0, q1, h4⟩ := h3.push k (by have := HLL.out; omega)
        obtain ⟨A4, n4, c4, e4⟩ : ∃ A n c, tv' = .slice A n c := by
          rcases h4.row.2 with ⟨rfl, _⟩ | ⟨g, cap, cur, rfl, _⟩
          · exact ⟨none, 0, 0, rfl⟩
          · exact ⟨_, _, _, rfl⟩
        subst e4
        have HRUN := Lib.hid hrun
        have H4 := Lib.hid h4
        clear h3 hrun h4 H3 HLK
        gi_wp2_with (gi_at_builtin; refine wpListIn_append_run _ rfl (.tmp 37) (.tmp 39) 118 118 rfl _ _ rfl rfl _ v3 HRUN.out ?_)
        refine ⟨by rw [HR.out]; exact H4.out.kl, ?_⟩
        intro W5 hT5
        rw [HR.out] at hT5
        exact HRR.out W5 ⟨_, by rw [HS.out]; exact H4.out.turned hT5⟩
      | true =>
        have HS : Hid (tornL D f (k + 1) = tornL D f k) := Lib.hid (by rw [HLK.out, hep]; rfl)
        clear h3 HLK
        gi_wp2
        refine ⟨by rw [HR.out]; exact H3.out.kl, ?_⟩
        intro W5 hT5
        rw [HR.out] at hT5
        exact HRR.out W5 ⟨_, by rw [HS.out]; exact H3.out.turned hT5⟩
    · have HS : Hid (tornL D f (k + 1) = tornL D f k) := Lib.hid (by rw [HLK.out, beq_eq_false_iff_ne.2 hep]; rfl)
      clear h3 HLK
      gi_wp2
      refine ⟨by rw [HR.out]; exact H3.out.kl, ?_⟩
      intro W5 hT5
      rw [HR.out] at hT5
      exact HRR.out W5 ⟨_, by rw [HS.out]; exact H3.out.turned hT5⟩
  · rintro e W2 ⟨⟨v, rfl⟩, hj | hj⟩
    · obtain ⟨tv, hj⟩ := hj
      refine ⟨⟨_, rfl⟩, Or.inl ⟨hj.kl, ?_⟩⟩
      intro W3 hT
      have h3 := hj.turned hT
      have c0 := h3.kE.cell 0
      have c1 := h3.kT.cell 0
      obtain ⟨ts, hts⟩ : ∃ ts, ts = tornL D f c := ⟨_, rfl⟩
      rw [← hts] at h3
      have HTSE := Lib.hid hts
      have HTS : Hid ((∀ i ∈ ts, f + i < D.sectors) ∧ (ts.length : Int) ≤ 1048576) := Lib.hid ⟨fun i hi => by
        have := tornL_lt D f c i (by rw [← hts]; exact hi)
        have := HFC.out
        omega, by have := tornL_len D f c; rw [← hts] at this; omega⟩
      have HRW0 : Hid (goWipe f D (ts.drop 0) = R) := Lib.hid (by rw [hts]; exact HRW.out)
      have HW0 : Hid (WpS w W3 b m vl D d tv ts) := Lib.hid ⟨h3.disk, h3.row, h3.kd, h3.lo.2.2, h3.low.size⟩
      have HLOW := Lib.hid h3.low
      obtain ⟨At, nt, ct, et⟩ : ∃ A n c, tv = .slice A n c ∧ n = ts.length := by
        rcases h3.row.2 with ⟨rfl, h0⟩ | ⟨g, cap, cur, rfl, _⟩
        · exact ⟨none, 0, 0, rfl, h0.symm⟩
        · exact ⟨_, _, _, rfl, rfl⟩
      obtain ⟨rfl, hnt⟩ := et
      have HNT := Lib.hid hnt
      clear h3 hj hT RR HUP hts hnt
      have HT0 : Hid (Turn (own b m vl) w W3 ∧ ∀ g, vl.ownBlock = some g → vl.ownBlock = some g ∨ w.heap.size ≤ g) := Lib.hid ⟨Turn.of_below HLOW.out _, fun g h => .inl h⟩
      have hnt : (nt : Int) ≤ 1048576 := by have := HTS.out.2; have := HNT.out; omega
      gi_wp2_with fail
      gi_loopw [46] (fun iv wr => ∃ (k : Nat) (vk : Value) (Dk : Dsk), k ≤ nt ∧ iv = .int .i64 k ∧ Hid (WpS w wr b m vk Dk d (.slice At nt ct) ts) ∧ Hid (Turn (own b m vl) w wr ∧ ∀ g, vk.ownBlock = some g → vl.ownBlock = some g ∨ w.heap.size ≤ g) ∧ Hid (Dk.size = D.size ∧ Dk.sectors = D.sectors ∧ Dk.loose.length ≤ D.loose.length + k) ∧ Hid (goWipe f Dk (ts.drop k) = R)) (fun iv _ => nt - (intOf iv).toNat)
      case atStart => exact ⟨0, vl, D, by omega, rfl, HW0, HT0, Lib.hid ⟨rfl, rfl, Nat.le_refl _⟩, HRW0⟩
      case round =>
        clear HW0 HT0 HLOW c0 c1 HRW0 HRW
        obtain ⟨k, vk, Dk, hk, rfl, HS, HT, HQ, HRES⟩ := hrel
        have HUP : Hid (Dk.loose.length ≤ 100000 + 1048576) := Lib.hid (by
          have h1 := HLO.out
          have h2 := HQ.out.2.2
          have h3 : (k : Int) ≤ 1048576 := by omega
          omega)
        by_cases hlt : k < nt
        · have hkt : k < ts.length := by rw [← HNT.out]; exact hlt
          have hcell : ∃ g, At = some ⟨g, 0, none⟩ ∧ wr.cell? ⟨g, k, none⟩ = some (.int .i64 ((ts[k] : Nat) : Int)) := by
            rcases id HS.out.row.2 with ⟨e, h0⟩ | ⟨g, cap, cur, e, _⟩
            · omega
            · injection e with e1 e2 e3
              refine ⟨g, e1, ?_⟩
              have q0 := World.ownsRow.cells HS.out.row (g := g) (by rw [e1]; rfl) _ _ (icells_get ts k hkt)
              rw [addr_add] at q0
              try rw [Nat.zero_add] at q0
              exact q0
          obtain ⟨g, rfl, hc⟩ := hcell
          have hsec := HTS.out.1 ts[k] (List.getElem_mem hkt)
          have hres := HRES.out
          rw [List.drop_eq_getElem_cons hkt] at hres
          unfold goWipe at hres
          obtain ⟨x, hx⟩ : ∃ x, x = ts[k] := ⟨_, rfl⟩
          rw [← hx] at hc hsec hres
          clear HRES
          have HRES := Lib.hid hres
          clear hres
          have hxb : (x : Int) ≤ 1048576 := by have := HD.out.ok.s2; omega
          have hz1 := HS.out.disk.ok.z1
          have hz2 := HS.out.disk.ok.z2
          obtain ⟨z, hz⟩ : ∃ z, z = Dk.size := ⟨_, rfl⟩
          obtain ⟨w5, hmk, ho5, hg5⟩ := run_makeN (w := wr) wr.heap.size z (Nat.le_refl _) (by omega)
          have hb5 : Below wr.heap.size wr w5 := (Below.refl wr.heap.size wr).grown hg5 (Nat.le_refl _) (by simp)
          have HSZ := Lib.hid (Size_any HS.out.disk)
          rw [← hz] at HSZ HRES
          have HS5 := Lib.hid (HS.out.grew hb5)
          have HT5 := Lib.hid (And.intro (HT.out.1.tail hb5) HT.out.2)
          have HWR := Lib.hid (Write_any ((f : Int) + x) ⟨wr.heap.size, 0, none⟩ z z (List.replicate z 0) b m vk Dk w5 HS5.out.disk (Byt.of_own' ho5) (by simp) (by have := HUP.out; omega))
          clear hsec hx hz1 hz2 ho5 hg5 hb5 HS hz
          gi_wp2_with fail
          refine ⟨trivial, callsIn_wide.2 (HSZ.out.mono ?_)⟩
          rintro e w6 ⟨rfl, hw6⟩
          subst hw6
          gi_wp2_with fail
          refine ⟨trivial, callsIn_wide.2 (HWR.out.mono ?_)⟩
          rintro e w7 ⟨rfl, vl7, hd7, ht7, hg7⟩
          have HS7 := Lib.hid (HS5.out.stepped hd7 ht7)
          have HT7 : Hid (Turn (own b m vl) w w7 ∧ ∀ g, vl7.ownBlock = some g → vl.ownBlock = some g ∨ w.heap.size ≤ g) := Lib.hid ⟨HT5.out.1.trans ht7 (fun j hj hlt => by
            rcases mem_own.1 hj with e | e | e
            · exact mem_own.2 (.inl e)
            · exact mem_own.2 (.inr (.inl e))
            · rcases HT5.out.2 j e with e | e
              · exact mem_own.2 (.inr (.inr e))
              · omega), fun g hg => by
            rcases hg7 g hg with e | e
            · exact HT5.out.2 g e
            · exact .inr (Nat.le_trans HS5.out.size e)⟩
          have hs3 := Dsk.put_sectors (d := Dk) ((f : Int) + x) (List.replicate z 0)
          have hl3 := Dsk.put_loose (d := Dk) ((f : Int) + x) (List.replicate z 0)
          obtain ⟨pe, hpe⟩ : ∃ pe, pe = Dk.putErr ((f : Int) + x) (List.replicate z 0) := ⟨_, rfl⟩
          obtain ⟨D3, hD3⟩ : ∃ D3, D3 = Dk.put ((f : Int) + x) (List.replicate z 0) := ⟨_, rfl⟩
          rw [← hpe, ← hD3] at HRES
          rw [← hpe]
          rw [← hD3] at hs3 hl3 HS7
          have HQ3 : Hid (D3.size = D.size ∧ D3.sectors = D.sectors ∧ D3.loose.length ≤ D.loose.length + (k + 1)) := Lib.hid ⟨hs3.2.trans HQ.out.1, hs3.1.trans HQ.out.2.1, by have := HQ.out.2.2; omega⟩
          clear hd7 ht7 hg7 HS5 HT5 HWR hc hmk hs3 hl3 hpe hD3
          by_cases hp0 : pe = 0
          · subst hp0
            have hr := HRES.out
            rw [if_neg (by simp)] at hr
            have HR3 := Lib.hid hr
            clear hr
            gi_wp2
            go_roundw
            case rel => exact ⟨k + 1, vl7, D3, by omega, by go_num, HS7, HT7, HQ3, HR3⟩
            case measure => simp [intOf]; omega
          · have hne : (pe == 0) = false := by simpa using hp0
            have hr := HRES.out
            rw [if_pos hp0] at hr
            have HEQ := Lib.hid hr
            clear hr HRES HT
            gi_wp2
            have hT := Turned.put (.deferred none) HS7.out.kd
            refine ⟨by simp, .inl ⟨_, _, rfl, run_takeDeferred HS7.out.kd, ?_⟩⟩
            refine ⟨_, results_tmp rfl _ _ _, by rw [← HEQ.out]; rfl, vl7, ?_, HT7.out.1.trans hT.turn (fun j hj hlt => ?_), HT7.out.2⟩
            · rw [← HEQ.out]
              refine HS7.out.disk.turn hT.turn (fun j hj cs fz hx => ?_) (fun j hj hm => ?_)
              · simp at hj; subst hj; rw [HS7.out.kd] at hx; cases hx
              · simp at hm; subst hm
                exact (disk_kinds HS7.out.disk _ hj).2.2.2.2 _ HS7.out.kd
            · simp at hj
              have := HS7.out.lod
              omega
        · obtain rfl : nt = k := by omega
          have hk3 : ¬ (nt : Int) < nt := by omega
          have hfl := Flush_any b m vk Dk wr HS.out.disk (by have := HUP.out; omega)
          have hr := HRES.out
          rw [List.drop_eq_nil_of_le (by rw [← HNT.out]; exact Nat.le_refl _)] at hr
          unfold goWipe at hr
          obtain ⟨fe, hfe⟩ : ∃ fe, fe = Dk.flushErr := ⟨_, rfl⟩
          obtain ⟨D3, hD3⟩ : ∃ D3, D3 = Dk.flush := ⟨_, rfl⟩
          rw [← hfe, ← hD3] at hr hfl
          have HFL := Lib.hid hfl
          have HEQ := Lib.hid hr
          clear hr hD3
          clear hfl hfe
          gi_wp2_with fail
          refine ⟨trivial, callsIn_wide.2 (HFL.out.mono ?_)⟩
          rintro e w7 ⟨rfl, vl7, hd7, ht7, hg7⟩
          have HS7 := Lib.hid (HS.out.stepped hd7 ht7)
          have HT7 : Hid (Turn (own b m vl) w w7 ∧ ∀ g, vl7.ownBlock = some g → vl.ownBlock = some g ∨ w.heap.size ≤ g) := Lib.hid ⟨HT.out.1.trans ht7 (fun j hj hlt => by
            rcases mem_own.1 hj with e | e | e
            · exact mem_own.2 (.inl e)
            · exact mem_own.2 (.inr (.inl e))
            · rcases HT.out.2 j e with e | e
              · exact mem_own.2 (.inr (.inr e))
              · omega), fun g hg => HT.out.2 g (hg7 g hg)⟩
          clear hd7 ht7 hg7 HS HT HFL
          gi_wp2
          have hT := Turned.put (.deferred none) HS7.out.kd
          refine ⟨by simp, .inl ⟨_, _, rfl, run_takeDeferred HS7.out.kd, ?_⟩⟩
          refine ⟨_, results_tmp rfl _ _ _, by rw [← HEQ.out]; rfl, vl7, ?_, HT7.out.1.trans hT.turn (fun j hj hlt => ?_), HT7.out.2⟩
          · rw [← HEQ.out]
            refine HS7.out.disk.turn hT.turn (fun j hj cs fz hx => ?_) (fun j hj hm => ?_)
            · simp at hj; subst hj; rw [HS7.out.kd] at hx; cases hx
            · simp at hm; subst hm
              exact (disk_kinds HS7.out.disk _ hj).2.2.2.2 _ HS7.out.kd
          · simp at hj
            have := HS7.out.lod
            omega
    · exact hj.elim
end Go.Proofs.YtfmdmfiljplkoaaGreat
namespace Go.Proofs.YtfmdmfiljplkoaaGreat
open Go.RowKit Go.Maps
set_option maxRecDepth 8000
variable {ι : Type} [Bar ι]
def checkpoint (S : Pl) (D : Dsk) : Int × Pl × Dsk :=
  if S.dead then (21, S, D) else if 0 < (S.pend.keys D.sectors).length ∨ S.moved = true then (21, S, D) else point S D
section
variable {w w' : World} {M M2 : Mem} {S : Pl} {D D' : Dsk}
end
end Go.Proofs.YtfmdmfiljplkoaaGreat
namespace Go.Proofs.YtfmdmfiljplkoaaGreat
open Go.RowKit Go.Maps
set_option maxRecDepth 8000
variable {ι : Type} [Bar ι]
/-- A pool that was laid upon a disk. -/
def Pl.laid (D : Dsk) (ep : Nat) : Pl := ⟨⟨1, [], R8.zero⟩, ⟨1, [], R8.zero⟩, ep, (D.sectors - 2) / 4, 2 + (D.sectors - 2) / 4, Pgs.none_, Pgs.none_, Pgs.none_, false, false, none⟩
section
variable {w w' : World} {M M2 : Mem} {S : Pl} {D D' : Dsk} {b m : Nat} {vl : Value}
set_option maxHeartbeats 4000000 in
theorem lay_ok (h : DiskAt w b m vl D) (ep : Nat) (hs : 24 ≤ D.sectors) (hz : 512 ≤ D.size) : Calls Tryz.prog 54 #[.pointer (some ⟨b, 0, none⟩), .int .i64 ep] w fun e w' => ∃ M : Mem, e = .returned (.tuple #[.pointer (some ⟨M.p, 0, none⟩), .int .i64 0]) ∧ PoolAt w' M (Pl.laid D ep) D ∧ M.b = b ∧ M.m = m ∧ M.vl = vl ∧ (∀ j ∈ M.own, j ∈ own b m vl ∨ w.heap.size ≤ j) ∧ Below w.heap.size w w' := by
  have HSE := Lib.hid (fun w' (k : Below w.heap.size w w') => Sectors_any (h.grew k))
  have HSI := Lib.hid (fun w' (k : Below w.heap.size w w') => Size_any (h.grew k))
  have h1' : ¬ (D.sectors : Int) < 24 := by omega
  have h2' : ¬ (D.size : Int) < 512 := by omega
  have hs2 := h.ok.s2
  obtain ⟨sl, hsl⟩ : ∃ sl, sl = (D.sectors - 2) / 4 := ⟨_, rfl⟩
  have e1 : IntKind.i64.wrap ((D.sectors : Int) - 2) = ((D.sectors - 2 : Nat) : Int) := by rw [IntKind.wrap_i64]; omega
  have e2 : IntKind.i64.wrap (((D.sectors - 2 : Nat) : Int) / 4) = (sl : Int) := by rw [IntKind.wrap_i64]; omega
  have e3 : IntKind.i64.wrap (2 + (sl : Int)) = 2 + (sl : Int) := by rw [IntKind.wrap_i64]; omega
  have HSL := Lib.hid hsl
  have H := Lib.hid h
  have HCL := Lib.hid (fun (w1 : World) => clone_any (w := w1) (v := .slice none 0 0) (s := ⟨1, [], R8.zero⟩) (World.ownsRow_nil _ _ _ _) (by simp))
  unfold Sta.val R8.zero at HCL
  dsimp only at HCL
  clear h hs hz hsl hs2
  go_enter Tryz.func54, Tryz.ntmps54
  go_wp2_with fail
  refine (HSE.out _ (Below.refl _ _)).mono ?_
  rintro r w ⟨rfl, rfl⟩
  go_wp2_with fail
  refine (HSI.out _ (Below.refl _ _)).mono ?_
  rintro r w ⟨rfl, rfl⟩
  go_wp2_with fail
  refine (HSE.out _ (Below.refl _ _)).mono ?_
  rintro r w ⟨rfl, rfl⟩
  go_wp2_with fail
  refine (HCL.out _).mono ?_
  rintro r w1 ⟨v1, rfl, hr1, hf1, hb1⟩
  obtain ⟨C, hC⟩ : ∃ C, C = #[Value.int .i64 1, .slice none 0 0, .int .i64 0, .int .i64 0, .int .i64 0, .int .i64 0, .int .i64 0, .int .i64 0, .int .i64 0, .int .i64 0, .int .i64 0, .slice none 0 0, .int .i64 0, .int .i64 0, .int .i64 0, .int .i64 0, .int .i64 0, .int .i64 0, .int .i64 0, .int .i64 0, .pointer (some ⟨b, 0, none⟩), .pointer none, .int .i64 ep, .int .i64 sl, .int .i64 (2 + (sl : Int)), .map none, .map none, .map none, .bool false, .bool false] := ⟨_, rfl⟩
  rw [← hC] at hf1 hb1
  have hB := (Blk.new w C 124).grew hb1
  rw [hC] at hB
  have b10 : w1.cell? ⟨w.heap.size, 10, none⟩ = _ := hB.cell 10
  have f10 : w1.frozen? ⟨w.heap.size, 10, none⟩ = false := hB.free 10
  have b11 : w1.cell? ⟨w.heap.size, 11, none⟩ = _ := hB.cell 11
  have f11 : w1.frozen? ⟨w.heap.size, 11, none⟩ = false := hB.free 11
  have b12 : w1.cell? ⟨w.heap.size, 12, none⟩ = _ := hB.cell 12
  have f12 : w1.frozen? ⟨w.heap.size, 12, none⟩ = false := hB.free 12
  have b13 : w1.cell? ⟨w.heap.size, 13, none⟩ = _ := hB.cell 13
  have f13 : w1.frozen? ⟨w.heap.size, 13, none⟩ = false := hB.free 13
  have b14 : w1.cell? ⟨w.heap.size, 14, none⟩ = _ := hB.cell 14
  have f14 : w1.frozen? ⟨w.heap.size, 14, none⟩ = false := hB.free 14
  have b15 : w1.cell? ⟨w.heap.size, 15, none⟩ = _ := hB.cell 15
  have f15 : w1.frozen? ⟨w.heap.size, 15, none⟩ = false := hB.free 15
  have b16 : w1.cell? ⟨w.heap.size, 16, none⟩ = _ := hB.cell 16
  have f16 : w1.frozen? ⟨w.heap.size, 16, none⟩ = false := hB.free 16
  have b17 : w1.cell? ⟨w.heap.size, 17, none⟩ = _ := hB.cell 17
  have f17 : w1.frozen? ⟨w.heap.size, 17, none⟩ = false := hB.free 17
  have b18 : w1.cell? ⟨w.heap.size, 18, none⟩ = _ := hB.cell 18
  have f18 : w1.frozen? ⟨w.heap.size, 18, none⟩ = false := hB.free 18
  have b19 : w1.cell? ⟨w.heap.size, 19, none⟩ = _ := hB.cell 19
  have f19 : w1.frozen? ⟨w.heap.size, 19, none⟩ = false := hB.free 19
  simp only [List.getElem?_toArray, List.getElem?_cons_succ, List.getElem?_cons_zero] at b10 b11 b12 b13 b14 b15 b16 b17 b18 b19
  obtain ⟨X1, c1, e9, _⟩ := hr1.form
  subst e9
  have hlt := hb1.size
  have hlt2 : w.heap.size < w1.heap.size := by simp at hlt; omega
  obtain ⟨p, hp⟩ : ∃ p, p = w.heap.size := ⟨_, rfl⟩
  have HPE := Lib.hid hp
  have hB2 := ((((((((((hB.set 10 (.int .i64 1)).set 11 (.slice X1 0 c1)).set 12 (.int .i64 0)).set 13 (.int .i64 0)).set 14 (.int .i64 0)).set 15 (.int .i64 0)).set 16 (.int .i64 0)).set 17 (.int .i64 0)).set 18 (.int .i64 0)).set 19 (.int .i64 0))
  rw [← hp] at hB2 hlt2 hB
  simp only [List.setIfInBounds_toArray, List.set_cons_zero, List.set_cons_succ] at hB2
  have ht2 : Turn [p] w1 ((((((((((w1.setCell ⟨p, 10, none⟩ (.int .i64 1)).setCell ⟨p, 11, none⟩ (.slice X1 0 c1)).setCell ⟨p, 12, none⟩ (.int .i64 0)).setCell ⟨p, 13, none⟩ (.int .i64 0)).setCell ⟨p, 14, none⟩ (.int .i64 0)).setCell ⟨p, 15, none⟩ (.int .i64 0)).setCell ⟨p, 16, none⟩ (.int .i64 0)).setCell ⟨p, 17, none⟩ (.int .i64 0)).setCell ⟨p, 18, none⟩ (.int .i64 0)).setCell ⟨p, 19, none⟩ (.int .i64 0)) := by
    repeat (refine Turn.set ?_ (.inl (by simp)) _)
    exact Turn.refl _ _
  obtain ⟨w2, hw2⟩ : ∃ w2, w2 = ((((((((((w1.setCell ⟨p, 10, none⟩ (.int .i64 1)).setCell ⟨p, 11, none⟩ (.slice X1 0 c1)).setCell ⟨p, 12, none⟩ (.int .i64 0)).setCell ⟨p, 13, none⟩ (.int .i64 0)).setCell ⟨p, 14, none⟩ (.int .i64 0)).setCell ⟨p, 15, none⟩ (.int .i64 0)).setCell ⟨p, 16, none⟩ (.int .i64 0)).setCell ⟨p, 17, none⟩ (.int .i64 0)).setCell ⟨p, 18, none⟩ (.int .i64 0)).setCell ⟨p, 19, none⟩ (.int .i64 0)) := ⟨_, rfl⟩
  rw [← hw2] at hB2 ht2
  have b25 : w2.cell? ⟨p, 25, none⟩ = _ := hB2.cell 25
  have f25 : w2.frozen? ⟨p, 25, none⟩ = false := hB2.free 25
  have b26 : w2.cell? ⟨p, 26, none⟩ = _ := hB2.cell 26
  have f26 : w2.frozen? ⟨p, 26, none⟩ = false := hB2.free 26
  have b27 : w2.cell? ⟨p, 27, none⟩ = _ := hB2.cell 27
  have f27 : w2.frozen? ⟨p, 27, none⟩ = false := hB2.free 27
  simp only [List.getElem?_toArray, List.getElem?_cons_succ, List.getElem?_cons_zero] at b25 b26 b27
  have hlt3 : p < w2.heap.size := hB2.lt
  have HH := Lib.hid (And.intro hr1 (And.intro hf1 (And.intro hb1 (And.intro ht2 hB2))))
  rw [← hp] at b10 b11 b12 b13 b14 b15 b16 b17 b18 b19 f10 f11 f12 f13 f14 f15 f16 f17 f18 f19
  rw [← hp]
  have HC := Lib.hid hC
  clear hr1 hf1 hb1 hB hB2 ht2 hC hlt hp HCL HSE HSI
  have HW2 := Lib.hid hw2
  clear hw2
  go_wp2_with fail
  rw [← HW2.out]
  have hk3 := HH.out.2.2.2.2.alloc (.map #[] 0)
  obtain ⟨m1, hm1⟩ : ∃ m1, m1 = w2.heap.size := ⟨_, rfl⟩
  obtain ⟨w3, hw3⟩ : ∃ w3, w3 = w2.alloc (.map #[] 0) := ⟨_, rfl⟩
  have r3 : (Instr.makeMap 111 none).run Tryz.prog w2 = .ok (.map (some m1)) w3 := by rw [hm1, hw3]; exact run_makeMap _ _
  rw [← hw3] at hk3
  have hk4 := hk3.alloc (.map #[] 0)
  obtain ⟨m2, hm2⟩ : ∃ m2, m2 = w3.heap.size := ⟨_, rfl⟩
  obtain ⟨w4, hw4⟩ : ∃ w4, w4 = w3.alloc (.map #[] 0) := ⟨_, rfl⟩
  have r4 : (Instr.makeMap 111 none).run Tryz.prog w3 = .ok (.map (some m2)) w4 := by rw [hm2, hw4]; exact run_makeMap _ _
  rw [← hw4] at hk4
  have hk5 := hk4.alloc (.map #[] 0)
  obtain ⟨m3, hm3⟩ : ∃ m3, m3 = w4.heap.size := ⟨_, rfl⟩
  obtain ⟨w5, hw5⟩ : ∃ w5, w5 = w4.alloc (.map #[] 0) := ⟨_, rfl⟩
  have r5 : (Instr.makeMap 111 none).run Tryz.prog w4 = .ok (.map (some m3)) w5 := by rw [hm3, hw5]; exact run_makeMap _ _
  rw [← hw5] at hk5
  have c25 : w5.cell? ⟨p, 25, none⟩ = some (.map none) := hk5.cell 25
  have d25 : w5.frozen? ⟨p, 25, none⟩ = false := hk5.free 25
  have hk6 := hk5.set 25 (.map (some m1))
  simp only [List.setIfInBounds_toArray, List.set_cons_zero, List.set_cons_succ] at hk6
  obtain ⟨w6, hw6⟩ : ∃ w6, w5.setCell ⟨p, 25, none⟩ (.map (some m1)) = w6 := ⟨_, rfl⟩
  rw [hw6] at hk6
  have c26 : w6.cell? ⟨p, 26, none⟩ = some (.map none) := hk6.cell 26
  have d26 : w6.frozen? ⟨p, 26, none⟩ = false := hk6.free 26
  have hk7 := hk6.set 26 (.map (some m2))
  simp only [List.setIfInBounds_toArray, List.set_cons_zero, List.set_cons_succ] at hk7
  obtain ⟨w7, hw7⟩ : ∃ w7, w6.setCell ⟨p, 26, none⟩ (.map (some m2)) = w7 := ⟨_, rfl⟩
  rw [hw7] at hk7
  have c27 : w7.cell? ⟨p, 27, none⟩ = some (.map none) := hk7.cell 27
  have d27 : w7.frozen? ⟨p, 27, none⟩ = false := hk7.free 27
  have hk8 := hk7.set 27 (.map (some m3))
  simp only [List.setIfInBounds_toArray, List.set_cons_zero, List.set_cons_succ] at hk8
  obtain ⟨w8, hw8⟩ : ∃ w8, w7.setCell ⟨p, 27, none⟩ (.map (some m3)) = w8 := ⟨_, rfl⟩
  rw [hw8] at hk8
  have HK := Lib.hid (And.intro hk8 (And.intro (And.intro hm1 hw3) (And.intro (And.intro hm2 hw4) (And.intro (And.intro hm3 hw5) (And.intro hw6 (And.intro hw7 hw8))))))
  clear hk3 hk4 hk5 hk6 hk7 hk8 hm1 hw3 hm2 hw4 hm3 hw5
  rw [r3]
  clear b10 f10 b11 f11 b12 f12 b13 f13 b14 f14 b15 f15 b16 f16 b17 f17 b18 f18 b19 f19 e1 e2 e3 h1' h2' hlt2 b25 f25 b26 f26 b27 f27 hlt3 r3
  go_wp2_with fail
  go_ret2
  refine ⟨⟨p, b, m, vl, .slice none 0 0, .slice X1 0 c1, none, m1, m2, m3⟩, rfl, ?_, rfl, rfl, rfl, ?_⟩
  all_goals
    obtain ⟨hr1, hf1, hb1, ht2, hB2⟩ := HH.out
    obtain ⟨hB8, ⟨q1, q2⟩, ⟨q3, q4⟩, ⟨q5, q6⟩, q7, q8, q9⟩ := HK.out
    have hpE := HPE.out
    have s1 := hb1.size
    simp only [World.size_alloc] at s1 hf1
    have s2 := ht2.size
    have s3 : w3.heap.size = w2.heap.size + 1 := by rw [q2]; simp
    have s4 : w4.heap.size = w3.heap.size + 1 := by rw [q4]; simp
    have s5 : w5.heap.size = w4.heap.size + 1 := by rw [q6]; simp
    have ta : Turn [p] w5 w8 := by
      rw [← q9, ← q8, ← q7]
      repeat (refine Turn.set ?_ (.inl (by simp)) _)
      exact Turn.refl _ _
    have tb : Turn [p] w4 w8 := ((Turn.refl [p] w4).alloc (.map #[] 0)).trans (by rw [← q6]; exact ta) (fun _ hj _ => hj)
    have tc : Turn [p] w3 w8 := ((Turn.refl [p] w3).alloc (.map #[] 0)).trans (by rw [← q4]; exact tb) (fun _ hj _ => hj)
    have td : Turn [p] w2 w8 := ((Turn.refl [p] w2).alloc (.map #[] 0)).trans (by rw [← q2]; exact tc) (fun _ hj _ => hj)
    have te : Turn [p] w1 w8 := ht2.trans td (fun _ hj _ => hj)
    have hlow : Below w.heap.size w w8 := by
      refine ((Below.refl w.heap.size w).alloc (Nat.le_refl _) (.cells C 124)).trans ?_
      refine (hb1.mono (by simp)).trans ?_
      exact te.below (by omega) (fun k hk => by simp at hk; omega)
    have hdk := H.out
    have hdl := hdk.lt
    have hvw : ∀ g, (Value.slice X1 0 c1).ownBlock = some g → w.heap.size + 1 ≤ g ∧ g < w1.heap.size := fun g hg => ⟨hf1 g hg, hr1.lt hg⟩
  · have hnb : ∀ v, (∃ t, Blk v p t 124) → NoBytes v [p] := by
      rintro v ⟨t, ht⟩ k hk cs fz e
      simp at hk; subst hk
      unfold Blk at ht
      rw [ht] at e; cases e
    have n3 : NoBytes w3 [p] := hnb _ ⟨_, by rw [q2]; exact hB2.alloc _⟩
    have n4 : NoBytes w4 [p] := hnb _ ⟨_, by rw [q4, q2]; exact (hB2.alloc _).alloc _⟩
    have n5 : NoBytes w5 [p] := hnb _ ⟨_, by rw [q6, q4, q2]; exact ((hB2.alloc _).alloc _).alloc _⟩
    have hN : D.sectors ≤ 1048576 := hdk.ok.s2
    have g1 : PgMap w3 m1 D.sectors Pgs.none_ := by rw [q1, q2]; exact PgMap.new _ _ hN
    have g2 : PgMap w4 m2 D.sectors Pgs.none_ := by rw [q3, q4]; exact PgMap.new _ _ hN
    have g3 : PgMap w5 m3 D.sectors Pgs.none_ := by rw [q5, q6]; exact PgMap.new _ _ hN
    refine ⟨?_, hdk.grew hlow, trivial, World.ownsRow_nil _ _ _ _, hr1.turn te (fun g hg hm => ?_), g1.turn tc n3 (by simp; omega), g2.turn tb n4 (by simp; omega), g3.turn ta n5 (by simp; omega), ?_⟩
    · unfold plCells Pl.laid R8.zero
      have e : ((2 + (D.sectors - 2) / 4 : Nat) : Int) = 2 + (sl : Int) := by rw [HSL.out]; omega
      have e' : (((D.sectors - 2) / 4 : Nat) : Int) = (sl : Int) := by rw [HSL.out]
      dsimp only
      rw [e, e']
      exact hB8
    · simp at hm
      have := hvw g hg
      omega
    · have hk := hdk.kinds
      have hnd : (own b m vl).Nodup := by
        unfold own
        refine List.nodup_cons.2 ⟨fun hm => ?_, List.nodup_cons.2 ⟨fun hm => ?_, ?_⟩⟩
        · rcases List.mem_cons.1 hm with e | e
          · exact hk.1 e
          · exact (hk.2 b (by simpa using e)).1 rfl
        · exact (hk.2 m (by simpa using hm)).2 rfl
        · cases vl.ownBlock <;> simp
      show (p :: m1 :: m2 :: m3 :: ([] ++ [] ++ (Value.slice X1 0 c1).ownBlock.toList ++ own b m vl)).Nodup
      have hin : ∀ j, j ∈ (Value.slice X1 0 c1).ownBlock.toList ++ own b m vl → j ≠ p ∧ j < w2.heap.size := by
        intro j hj
        rcases List.mem_append.1 hj with h | h
        · have := hvw j (by simpa using h)
          omega
        · have := hdl j h
          omega
      simp only [List.nil_append]
      refine List.nodup_cons.2 ⟨fun hm => ?_, List.nodup_cons.2 ⟨fun hm => ?_, List.nodup_cons.2 ⟨fun hm => ?_, List.nodup_cons.2 ⟨fun hm => ?_, List.nodup_append.2 ⟨?_, hnd, ?_⟩⟩⟩⟩⟩
      · rcases List.mem_cons.1 hm with e | hm
        · omega
        rcases List.mem_cons.1 hm with e | hm
        · omega
        rcases List.mem_cons.1 hm with e | hm
        · omega
        exact (hin _ hm).1 rfl
      · rcases List.mem_cons.1 hm with e | hm
        · omega
        rcases List.mem_cons.1 hm with e | hm
        · omega
        have := (hin _ hm).2; omega
      · rcases List.mem_cons.1 hm with e | hm
        · omega
        have := (hin _ hm).2; omega
      · have := (hin _ hm).2; omega
      · cases (Value.slice X1 0 c1).ownBlock <;> simp
      · intro a ha c hc e
        subst e
        have h1 := hvw a (by simpa using ha)
        have h2 := hdl a hc
        omega
  · refine ⟨fun j hj => ?_, hlow⟩
    rcases mem_mem.1 hj with e | e | e | e | e | e | e | e
    · exact .inr (by rw [e]; exact Nat.le_of_eq hpE.symm)
    · exact .inr (by rw [e]; dsimp only; omega)
    · exact .inr (by rw [e]; dsimp only; omega)
    · exact .inr (by rw [e]; dsimp only; omega)
    · cases e
    · cases e
    · exact .inr (by have := hvw j e; omega)
    · exact .inl e
end
end Go.Proofs.YtfmdmfiljplkoaaGreat
