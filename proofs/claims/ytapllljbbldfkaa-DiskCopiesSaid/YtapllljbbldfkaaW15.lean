/- Walk: DiskCopies. -/
import Derived.Test.YtapllljbbldfkaaW12
import Derived.Test.YtapllljbbldfkaaW14
namespace Go.Proofs.Ytapllljbbldfkaa
open Go.RowKit Go.Maps

theorem awake_v (w : World) : Calls Try.prog 12 #[] w fun e w' => ∃ v, e = .returned v ∧ v = .bool true ∧ Below w.heap.size w w' := by
  refine (awake_any w).mono ?_
  rintro e w' ⟨rfl, h⟩
  exact ⟨_, rfl, rfl, h⟩

theorem Copy_dk {ι : Type} [Bar ι] {w0 v : World} {b m : Nat} {vl : Value} {D : Dsk} (h : Dk w0 v b m vl D) (hL : D.loose.length ≤ 1000000000) :
    Calls Try.prog 27 #[.pointer (some ⟨b, 0, none⟩)] v fun e v' => ∃ b2 m2 vl2, e = .returned (.pointer (some ⟨b2, 0, none⟩)) ∧ Dk w0 v' b2 m2 vl2 D ∧ (∀ k ∈ own b2 m2 vl2, v.heap.size ≤ k) ∧ Below v.heap.size v v' := by
  refine (Copy_any h.disk hL).mono ?_
  rintro e v' ⟨b2, m2, vl2, rfl, hd, hb, hlo⟩
  exact ⟨b2, m2, vl2, rfl, ⟨hd, grow h.low hb, fun k hk => Nat.le_trans h.low.size (hlo k hk)⟩, hlo, hb⟩
theorem apart_of {T T' : List Nat} {n : Nat} (h1 : ∀ k ∈ T, k < n) (h2 : ∀ k ∈ T', n ≤ k) : ∀ k ∈ T, k ∉ T' := fun k hk hk' => by
  have := h1 k hk
  have := h2 k hk'
  omega

theorem crash_put (D : Dsk) (fs : List Int) (s : List Nat) (hs : D.sectors = 6) (hz : D.size = 64) (hl : s.length = 64) :
    (D.crash fs).putErr 0 s = 0 ∧ ((D.crash fs).put 0 s).tells 0 = s ∧ ((D.crash fs).put 0 s).ready 0 = 0 ∧ ((D.crash fs).put 0 s).size = 64 ∧ ((D.crash fs).put 0 s).loose.length ≤ 1 := by
  have hr : (D.crash fs).ready 0 = 0 := ready_ok rfl (by omega) (by show (0 : Int) < ((D.sectors : Nat) : Int); omega)
  have hln : s.length = (D.crash fs).size := hl.trans hz.symm
  have ha : (D.crash fs).act = D.crash fs := rfl
  rw [Dsk.put_eq hr hln, ha]
  refine ⟨?_, ?_, hr, hz, by simp [Dsk.crash]⟩
  · unfold Dsk.putErr
    rw [if_neg (by simp [hr]), if_neg (by simp [hln]), ha]
    rfl
  · show (last 0 ((D.crash fs).loose ++ [(0, s)])).getD _ = s
    rw [last_append]
    rfl

/-- All blocks but one. -/
abbrev but (g : Nat) : Bar Unit := ⟨fun k => k ≠ g⟩

/-- A row that is no disk's is written. -/
theorem Dk.foreign {w0 v : World} {b m : Nat} {vl : Value} {D : Dsk} {g : Nat} (h : @Dk Unit (but g) w0 v b m vl D) {cs : Array Value} {fz : Nat × Nat} (hb : v.heap[g]? = some (.cells cs 5 fz)) (hg : w0.heap.size ≤ g) (i : Nat) (u : Value) :
    Dk w0 (v.setCell ⟨g, i, none⟩ u) b m vl D := by
  have ht : Turn [g] v (v.setCell ⟨g, i, none⟩ u) := (Turn.refl [g] v).set (.inl (by simp)) u
  obtain ⟨hd, hlow, hlo⟩ := h
  have hno := @DiskAt.nobytes Unit (but g) v b m vl D hd
  have h2 : @DiskAt Unit (but g) (v.setCell ⟨g, i, none⟩ u) b m vl D := @DiskAt.turnS Unit (but g) [g] v _ b m vl D hd ht (by
    intro k hk
    simp at hk; subst hk
    exact .inr (fun hne => hne rfl)) (by
    intro j hj hjg
    simp at hjg; subst hjg
    exact hno j hj _ _ hb)
  refine ⟨@DiskAt.rebar _ _ b m vl D Unit Unit (but g) h2 (Below.refl _ _) barAll (fun _ _ _ => trivial) (fun _ _ => trivial), hlow.trans (ht.below hlow.size (by intro j hj; simp at hj; omega)), hlo⟩

set_option maxRecDepth 10000 in
set_option maxHeartbeats 16000000 in
theorem Copies_any (A1 : Option Addr) (n1 c1 : Nat) (l1 : List ActV) (A2 : Option Addr) (n2 c2 : Nat) (l2 : List ActV) (w : World)
    (h1 : l1.length = n1) (r1 : Acts w w.heap.size A1 l1) (h2 : l2.length = n2) (r2 : Acts w w.heap.size A2 l2) :
    Calls Try.prog 5 #[.slice A1 n1 c1, .slice A2 n2 c2] w fun e w' => e = .returned (.bool true) ∧ Below w.heap.size w w' := by
  have H1 := Lib.hid h1
  have H2 := Lib.hid h2
  have R1 := Lib.hid r1
  have R2 := Lib.hid r2
  clear h1 h2 r1 r2
  go_enter Try.func5, Try.ntmps5
  go_wp2_with fail
  refine (light_any A1 l1 n1 c1 _ w H1.out R1.out).mono ?_
  rintro e w2 ⟨rfl, hw2⟩
  subst hw2
  obtain ⟨b1, hb1⟩ : ∃ b, b = lightB l1 := ⟨_, rfl⟩
  rw [← hb1]
  have HL1 := Lib.hid hb1
  clear hb1
  cases b1 with
  | false =>
    go_wp2
    go_ret
    exact ⟨rfl, Below.refl _ _⟩
  | true =>
  go_wp2_with fail
  refine (light_any A2 l2 n2 c2 _ w2 H2.out R2.out).mono ?_
  rintro e w3 ⟨rfl, hw3⟩
  subst hw3
  obtain ⟨b2, hb2⟩ : ∃ b, b = lightB l2 := ⟨_, rfl⟩
  rw [← hb2]
  have HL2 := Lib.hid hb2
  clear hb2
  cases b2 with
  | false =>
    go_wp2
    go_ret
    exact ⟨rfl, Below.refl _ _⟩
  | true =>
  have HN1 := Lib.hid (show n1 ≤ 40 by have h := of_decide_eq_true HL1.out.symm; have := H1.out; omega)
  have HN2 := Lib.hid (show n2 ≤ 40 by have h := of_decide_eq_true HL2.out.symm; have := H2.out; omega)
  obtain ⟨w, hw⟩ : ∃ w, w = w3 := ⟨_, rfl⟩
  subst hw
  go_wp2_with fail
  refine (New_dk w 6 64 (fun _ _ => trivial) (Below.refl _ _) (by decide) (by decide) (by decide) (by decide)).mono ?_
  rintro e w4 ⟨b, m, rfl, hk, -⟩
  have HK := Lib.hid (show ∃ vl, Dk w w4 b m vl (runs (Dsk.new 6 64) (l1.take 0)) from ⟨_, hk⟩)
  clear hk
  go_wp2
  go_loopw [6] (fun i wr => ∃ k : Nat, k ≤ n1 ∧ i = .int .i64 k ∧ Hid (∃ vl, Dk w wr b m vl (runs (Dsk.new 6 64) (l1.take k)))) (fun i _ => n1 - (intOf i).toNat)
  case atStart => exact ⟨0, by omega, rfl, HK⟩
  case round =>
    clear HK
    obtain ⟨k, hk, rfl, HKK⟩ := hrel
    by_cases hlt : k < n1
    · obtain ⟨vl, hk0⟩ := HKK.out
      have HK := Lib.hid hk0
      clear hk0 HKK
      have hkl : k < l1.length := by rw [H1.out]; exact hlt
      obtain ⟨p, e, _, hat, hB, FA, fc, h0, h1, h2, h3, h4, hfc, hfi, hfa⟩ := (R1.out.below HK.out.low).get hkl
      cases e
      obtain ⟨x, hx⟩ : ∃ x, x = l1[k] := ⟨_, rfl⟩
      rw [← hx] at hat hB h0 h1 h2 h3 h4 hfc hfi hfa
      have HX := Lib.hid hx
      clear hx
      have hdid := did_dk HK.out x hB hat FA fc x.fates.length rfl (by have := new_runs_loose 6 64 l1 k; have := HN1.out; omega) hfc hfi hfa
      have HDID := Lib.hid hdid
      obtain ⟨kind, xat, len, B, fates⟩ := x
      simp only at h0 h1 h2 h3 h4 HDID
      generalize fates.length = fn at h4 HDID
      clear hdid hat hB hfc hfi hfa

      go_wp2_with fail
      refine HDID.out.mono ?_
      rintro e w5 ⟨rfl, vl', hk5, -⟩
      have HK := Lib.hid (show ∃ vl, Dk w w5 b m vl (runs (Dsk.new 6 64) (l1.take (k + 1))) from ⟨vl', by rw [runs_succ _ _ _ hkl, ← HX.out]; exact hk5⟩)
      clear hk5 HX HDID h0 h1 h2 h3 h4
      have hkb : (k : Int) ≤ 40 := by have := HN1.out; omega
      go_wp2
      go_round
      case rel => exact ⟨k + 1, by omega, val_int (by simp), HK⟩
      case measure => simp only [intOf]; omega
    · have hke : k = n1 := by omega
      subst hke
      obtain ⟨vl, hk0⟩ := HKK.out
      obtain ⟨D, hD⟩ : ∃ D, D = runs (Dsk.new 6 64) (l1.take k) := ⟨_, rfl⟩
      rw [← hD] at hk0
      have HK := Lib.hid hk0
      have HS := Lib.hid (show D.sectors = 6 ∧ D.size = 64 by rw [hD]; exact runs_sectors _ _)
      have HDL := Lib.hid (show D.loose.length ≤ 40 by rw [hD]; have := new_runs_loose 6 64 l1 k; have := HN1.out; omega)
      clear hk0 HKK hk hlt hD
      go_wp2_with fail
      refine (Copy_dk HK.out (by have := HDL.out; omega)).mono ?_
      rintro e w5 ⟨bc, mc, vlc, rfl, hkc, hloc, hb5⟩
      have H5 := Lib.hid (And.intro (HK.out.grew hb5) (And.intro hkc (apart_of HK.out.disk.lt hloc)))
      clear HK hkc hloc hb5
      go_wp2_with fail
      refine (Copy_dk H5.out.1 (by have := HDL.out; omega)).mono ?_
      rintro e w6 ⟨be, me, vle, rfl, hke, hloe, hb6⟩
      have H6 := Lib.hid (show ∃ vlc, Dk w w6 bc mc vlc (runs D (l2.take 0)) ∧ (Dk w w6 b m vl D ∧ ∀ j ∈ own b m vl, j ∉ own bc mc vlc) ∧ (Dk w w6 be me vle D ∧ ∀ j ∈ own be me vle, j ∉ own bc mc vlc) from
        ⟨vlc, H5.out.2.1.grew hb6, ⟨H5.out.1.grew hb6, H5.out.2.2⟩, hke, fun j hj hj' => apart_of H5.out.2.1.disk.lt hloe j hj' hj⟩)
      have H7 := Lib.hid (apart_of H5.out.1.disk.lt hloe)
      clear H5 hke hloe hb6
      go_wp2
      go_loopw [9] (fun i wr => ∃ k : Nat, k ≤ n2 ∧ i = .int .i64 k ∧ Hid (∃ vlc, Dk w wr bc mc vlc (runs D (l2.take k)) ∧ (Dk w wr b m vl D ∧ ∀ j ∈ own b m vl, j ∉ own bc mc vlc) ∧ (Dk w wr be me vle D ∧ ∀ j ∈ own be me vle, j ∉ own bc mc vlc))) (fun i _ => n2 - (intOf i).toNat)
      case atStart => exact ⟨0, by omega, rfl, H6⟩
      case round =>
        clear H6
        obtain ⟨k, hk, rfl, HKK⟩ := hrel
        by_cases hlt : k < n2
        · obtain ⟨vlc, hk0, hrest⟩ := HKK.out
          have HK := Lib.hid hk0
          have HRS := Lib.hid hrest
          clear hk0 HKK hrest
          have hkl : k < l2.length := by rw [H2.out]; exact hlt
          obtain ⟨p, e, _, hat, hB, FA, fc, h0, h1, h2, h3, h4, hfc, hfi, hfa⟩ := (R2.out.below HK.out.low).get hkl
          cases e
          obtain ⟨x, hx⟩ : ∃ x, x = l2[k] := ⟨_, rfl⟩
          rw [← hx] at hat hB h0 h1 h2 h3 h4 hfc hfi hfa
          have HX := Lib.hid hx
          clear hx
          have hdid := did_dk HK.out x hB hat FA fc x.fates.length rfl (by have := runs_loose D (l2.take k); rw [List.length_take] at this; have := HDL.out; have := HN2.out; omega) hfc hfi hfa
          have HDID := Lib.hid hdid
          obtain ⟨kind, xat, len, B, fates⟩ := x
          simp only at h0 h1 h2 h3 h4 HDID
          generalize fates.length = fn at h4 HDID
          clear hdid hat hB hfc hfi hfa

          go_wp2_with fail
          refine HDID.out.mono ?_
          rintro e w7 ⟨rfl, vl', hk7, hs7⟩
          have HKK := Lib.hid (show ∃ vlc, Dk w w7 bc mc vlc (runs D (l2.take (k + 1))) ∧ (Dk w w7 b m vl D ∧ ∀ j ∈ own b m vl, j ∉ own bc mc vlc) ∧ (Dk w w7 be me vle D ∧ ∀ j ∈ own be me vle, j ∉ own bc mc vlc) from
            ⟨vl', by rw [runs_succ _ _ _ hkl, ← HX.out]; exact hk7, hs7.dk HRS.out.1.1 HRS.out.1.2 HK.out.lo, hs7.dk HRS.out.2.1 HRS.out.2.2 HK.out.lo⟩)
          clear hk7 hs7 HX HDID h0 h1 h2 h3 h4 HRS
          have hkb : (k : Int) ≤ 40 := by have := HN2.out; omega
          go_wp2
          go_round
          case rel => exact ⟨k + 1, by omega, val_int (by simp), HKK⟩
          case measure => simp only [intOf]; omega
        · have hke : k = n2 := by omega
          subst hke
          obtain ⟨vlc, _, hd, he⟩ := HKK.out
          have H3 := Lib.hid (And.intro hd.1 he.1)
          clear hd he HKK hk hlt
          go_wp2
          go_loopw [10] (fun i wr => ∃ k : Nat, k ≤ 6 ∧ i = .int .i64 k ∧ Hid (Dk w wr b m vl D ∧ Dk w wr be me vle D)) (fun i _ => 6 - (intOf i).toNat)
          case atStart => exact ⟨0, by omega, rfl, H3⟩
          case round =>
            clear H3
            obtain ⟨k, hk, rfl, HH⟩ := hrel
            by_cases hlt : k < 6
            · have hkb : (k : Int) < 6 := by omega
              cases hdn : D.down with
              | true =>
                have hr4 : D.ready (k : Int) = 4 := by unfold Dsk.ready; rw [if_pos hdn]
                have HR4 := Lib.hid hr4
                clear hdn hr4
                go_wp2_with fail
                refine (Read_dkno HH.out.1 k (by rw [HR4.out]; decide)).mono ?_
                rintro e w5 ⟨rfl, hk1, hb1⟩
                rw [HR4.out, show nilv = .slice none 0 0 from rfl]
                have HH1 := Lib.hid (And.intro hk1 (HH.out.2.grew hb1))
                clear hk1 hb1
                go_wp2_with fail
                refine (Read_dkno HH1.out.2 k (by rw [HR4.out]; decide)).mono ?_
                rintro e w6 ⟨rfl, hk1, hb1⟩
                rw [HR4.out, show nilv = .slice none 0 0 from rfl]
                have HH2 := Lib.hid (And.intro (HH1.out.1.grew hb1) hk1)
                have hcn : (convert 35 9 (.slice none 0 0)).run Try.prog w6 = .ok (.string (str [])) w6 := run_str (L := 0) (A := none) (l := []) 0 ⟨by simp, fun h => absurd rfl h⟩
                clear hk1 hb1 HH HH1
                go_wp2
                go_round
                case rel => exact ⟨k + 1, by omega, val_int (by simp), HH2⟩
                case measure => simp only [intOf]; omega
              | false =>
                have HR0 := Lib.hid (ready_ok hdn (show (0 : Int) ≤ (k : Int) by omega) (show (k : Int) < (D.sectors : Int) by rw [HS.out.1]; omega))
                clear hdn
                go_wp2_with fail
                refine (Read_dk HH.out.1 k (by have := HDL.out; omega) HR0.out).mono ?_
                rintro e w5 ⟨g5, c5, rfl, ho5, hk5, hb5⟩
                rw [HS.out.2] at ho5 ⊢
                have HH1 := Lib.hid (And.intro hk5 (And.intro (HH.out.2.grew hb5) (Byt.of_own' ho5)))
                clear hk5 hb5 ho5
                go_wp2_with fail
                refine (Read_dk HH1.out.2.1 k (by have := HDL.out; omega) HR0.out).mono ?_
                rintro e w6 ⟨g6, c6, rfl, ho6, hk6, hb6⟩
                rw [HS.out.2] at ho6 ⊢
                have HH2 := Lib.hid (And.intro (HH1.out.1.grew hb6) hk6)
                have hs1 := (HH1.out.2.2.grew hb6).strv
                have hs2 := (Byt.of_own' ho6).strv
                generalize str (D.tells (k : Int)) = s at *
                clear hk6 hb6 ho6 HH HH1
                go_wp2
                go_round
                case rel => exact ⟨k + 1, by omega, val_int (by simp), HH2⟩
                case measure => simp only [intOf]; omega
            · have hke : k = 6 := by omega
              subst hke
              clear hk hlt


              go_wp2_with fail
              refine (Crash_dk HH.out.1 [] none 0 0 rfl (by have := HDL.out; omega) (Nat.le_refl _) (IRd.nil _ _) (fun h => absurd rfl h)).mono ?_
              rintro e w7 ⟨rfl, vl7, hk7, -⟩
              obtain ⟨s7, hs7⟩ : ∃ s7, s7 = List.replicate 64 7 := ⟨_, rfl⟩
              have HS7 := Lib.hid hs7
              have HCP := Lib.hid (crash_put D [] s7 HS.out.1 HS.out.2 (by rw [hs7]; rfl))
              have HK := Lib.hid hk7
              clear hk7 hs7 HH
              go_wp2_with fail
              refine (full_any 7 64 w7 (by decide) (by decide)).mono ?_
              rintro e w8 ⟨g, rfl, ho, hb, hg⟩
              rw [← HS7.out] at ho
              have hglt : g < w8.heap.size := (ho.2.lt g rfl).2
              have hk8 : @Dk Unit (but g) w w8 b m vl7 (D.crash []) := @Dk.mk Unit (but g) w w8 b m vl7 (D.crash []) (@DiskAt.rebar _ _ b m vl7 _ Unit Unit barAll HK.out.disk hb (but g) (fun j hj _ => by show j ≠ g; omega) (fun j hj => by show j ≠ g; omega)) (grow HK.out.low hb) HK.out.lo
              have HGG := Lib.hid (And.intro hg (Nat.le_trans HK.out.low.size hg))
              have HO := Lib.hid ho
              have HK8 := Lib.hid hk8
              have HLT := Lib.hid HK.out.disk.lt
              clear ho hb hk8 HK hg hglt
              go_wp2_with fail
              refine (@Write_dk Unit (but g) w w8 b m vl7 (D.crash []) s7 HK8.out 0 ⟨g, 0, none⟩ 64 64 (Byt.of_own' HO.out) (by show (0 : Nat) ≤ _; omega)).mono ?_
              rintro e w9 ⟨rfl, vl9, hk9, hst9⟩
              rw [HCP.out.1]
              have ho9 := HO.out.turn hst9.turn (fun j hj => HLT.out j hj)
              obtain ⟨hO3, hB3, hfr, u, hu⟩ := ho9.storeAt 0 9 (by decide) (by rw [HS7.out]; decide)
              have hrow : ∃ cs fz, w9.heap[g]? = some (.cells cs 5 fz) := by
                rcases ho9.2.2 with ⟨e, _⟩ | ⟨g', cap, cur, e, _, hh, _⟩
                · cases e
                · injection e with e _ _
                  injection e with e
                  injection e with e _
                  rw [e]; exact ⟨_, _, hh⟩
              obtain ⟨cs, fz, hrow⟩ := hrow
              have HK := Lib.hid (Dk.foreign hk9 hrow HGG.out.2 0 (.int .u8 ((9 : Nat) : Int)))
              clear hk9 hst9 ho9 hO3 hB3 hrow HK8 HO HLT
              go_wp2_with fail
              obtain ⟨w10, hw10⟩ : ∃ w10, w10 = w9.setCell ⟨g, 0, none⟩ (.int .u8 ((9 : Nat) : Int)) := ⟨_, rfl⟩
              have HK0 := Lib.hid (show Dk w w10 b m vl9 ((D.crash []).put 0 s7) by rw [hw10]; exact HK.out)
              rw [show (Value.int .u8 9) = Value.int .u8 ((9 : Nat) : Int) from rfl, ← hw10]
              clear hw10 HK hu hfr
              refine (Read_dk HK0.out 0 (by have := HCP.out.2.2.2.2; omega) HCP.out.2.2.1).mono ?_
              rintro e w11 ⟨g2, c2, rfl, ho2, hk2, hb2⟩
              rw [HCP.out.2.2.2.1] at ho2 ⊢
              obtain ⟨hO4, hB4, hfr, u, hu⟩ := ho2.storeAt 1 9 (by decide) (by rw [HCP.out.2.1, HS7.out]; decide)
              have HK := Lib.hid (HK0.out.grew (hb2.trans hB4))
              clear ho2 hk2 hb2 hO4 hB4 HK0
              go_wp2_with fail
              obtain ⟨w12, hw12⟩ : ∃ w12, w12 = w11.setCell ⟨g2, 1, none⟩ (.int .u8 ((9 : Nat) : Int)) := ⟨_, rfl⟩
              have HK0 := Lib.hid (show Dk w w12 b m vl9 ((D.crash []).put 0 s7) by rw [hw12]; exact HK.out)
              rw [show (Value.int .u8 9) = Value.int .u8 ((9 : Nat) : Int) from rfl, ← hw12]
              clear hw12 HK hu hfr
              refine (Read_dk HK0.out 0 (by have := HCP.out.2.2.2.2; omega) HCP.out.2.2.1).mono ?_
              rintro e w13 ⟨g3, c3, rfl, ho3, hk3, hb3⟩
              rw [HCP.out.2.2.2.1] at ho3 ⊢
              rw [HCP.out.2.1] at ho3
              have HZB := Lib.hid (Byt.of_own' ho3)
              have HK := Lib.hid hk3
              clear ho3 hk3 hb3 HK0
              go_wp2_with fail
              refine wp_region_H (fun v => Byt v (.slice (some ⟨g3, 0, none⟩) 64 c3) s7) (by kernel_rfl) (fun u0 hu0 => ?_)
              have hS0 : (fun v => Byt v (.slice (some ⟨g3, 0, none⟩) 64 c3) s7) u0 := by subst hu0; exact HZB.out.drew
              have B0 : Below w.heap.size w u0 := by subst hu0; exact ⟨HK.out.low.os, HK.out.low.tape, HK.out.low.output, HK.out.low.size, HK.out.low.block⟩
              clear hu0
              refine wpH_take (i := 0) (v := ?_) rfl rfl (by kernel_rfl) (by kernel_rfl) (by kernel_rfl) (fun _ _ _ h => h) (Or.inl ⟨by rfl, ?_⟩) hS0 ?_
              rotate_left
              · (intro w_ hw_; go_simp; try with_reducible rfl)
              simp only [List.setIfInBounds_toArray, List.set_cons_zero, List.set_cons_succ]
              refine wpH_take (i := 1) (v := (.string (str s7))) rfl rfl (by kernel_rfl) (by kernel_rfl) (by kernel_rfl) (fun _ _ _ h => h) (Or.inl ⟨by rfl, ?_⟩) hS0 ?_
              · (intro w_ hw_; exact exec_convert 35 9 (.tmp 111) rfl rfl hw_.strv)
              simp only [List.setIfInBounds_toArray, List.set_cons_zero, List.set_cons_succ]
              have hf2 := full_anyv 7 64 u0 (by decide) (by decide)
              refine wpH_callv (i := 2) (by kernel_rfl) rfl rfl (by rfl) (hf2) (by go_simp) ?_
              rintro _ u1 ⟨g9, rfl, ho9, hb9⟩
              have hS1 : (fun v => Byt v (.slice (some ⟨g3, 0, none⟩) 64 c3) s7) u1 := hS0.grew hb9
              clear hS0
              refine ⟨hS1, ?_⟩
              simp only [List.setIfInBounds_toArray, List.set_cons_zero, List.set_cons_succ]
              have B1 := grow B0 hb9
              have hst := (Byt.of_own' ho9).strw
              have hs7 := HS7.out
              rw [← hs7] at hst
              have hS2 : (fun v => Byt v (.slice (some ⟨g3, 0, none⟩) 64 c3) s7) u1 := hS1
              clear hS1
              refine wpH_run (i := 3) (v := (.string (str s7))) (w' := u1) (by kernel_rfl) rfl rfl (by rfl) (by exact exec_convert 35 9 (.tmp 113) rfl rfl hst) hS2 ?_
              simp only [List.setIfInBounds_toArray, List.set_cons_zero, List.set_cons_succ]
              clear hs7 hst hf2 ho9 hb9 B0
              refine wpH_take (i := 4) (v := ?_) rfl rfl (by kernel_rfl) (by kernel_rfl) (by kernel_rfl) (fun _ _ _ h => h) (Or.inl ⟨by rfl, ?_⟩) hS2 ?_
              rotate_left
              · (intro w_ hw_; go_simp; try with_reducible rfl)
              simp only [List.setIfInBounds_toArray, List.set_cons_zero, List.set_cons_succ]
              refine wpH_take (i := 5) (v := ?_) rfl rfl (by kernel_rfl) (by kernel_rfl) (by kernel_rfl) (fun _ _ _ h => h) (Or.inl ⟨by rfl, ?_⟩) hS2 ?_
              rotate_left
              · (intro w_ hw_; go_simp; try with_reducible rfl)
              simp only [List.setIfInBounds_toArray, List.set_cons_zero, List.set_cons_succ]
              refine wpH_callv (i := 6) (by kernel_rfl) rfl rfl (by rfl) (awake_v u1) (by go_simp) ?_
              rintro _ u2 ⟨rfl, hb⟩
              have hS3 : (fun v => Byt v (.slice (some ⟨g3, 0, none⟩) 64 c3) s7) u2 := hS2.grew hb
              clear hS2
              refine ⟨hS3, ?_⟩
              simp only [List.setIfInBounds_toArray, List.set_cons_zero, List.set_cons_succ]
              have B2 := grow B1 hb
              clear hb B1
              refine wpH_take (i := 7) (v := ?_) rfl rfl (by kernel_rfl) (by kernel_rfl) (by kernel_rfl) (fun _ _ _ h => h) (Or.inl ⟨by rfl, ?_⟩) hS3 ?_
              rotate_left
              · (intro w_ hw_; go_simp; try with_reducible rfl)
              simp only [List.setIfInBounds_toArray, List.set_cons_zero, List.set_cons_succ]
              refine wpH_take (i := 8) (v := ?_) rfl rfl (by kernel_rfl) (by kernel_rfl) (by kernel_rfl) (fun _ _ _ h => h) (Or.inl ⟨by rfl, ?_⟩) hS3 ?_
              rotate_left
              · (intro w_ hw_; go_simp; try with_reducible rfl)
              simp only [List.setIfInBounds_toArray, List.set_cons_zero, List.set_cons_succ]
              clear hS3
              refine wpAnyH_done (by kernel_rfl) ?_ _
              go_wp2
              go_ret
              exact ⟨rfl, B2⟩
end Go.Proofs.Ytapllljbbldfkaa
