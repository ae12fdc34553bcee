/- Walks: log.Clean, the whole of it. -/
import Derived.Test.YtklppnknllbfnaaGreatA19
namespace Go.Proofs.YtklppnknllbfnaaGreat
open Go.RowKit Go.Maps Go.Shelf
attribute [local go_sem] Oper.semAt_some
set_option maxRecDepth 8000
variable {ι : Type} [Bar ι]

/-- What stands while zeros are written. -/
structure WpS (w0 v : World) (b m : Nat) (vl : Value) (D : Dsk) (d : Nat) (tv : Value) (ts : List Nat) : Prop where
  disk : DiskAt v b m vl D
  row : v.ownsRow w0.heap.size 3 1 tv ts.length (icells ts)
  kd : v.heap[d]? = some (.deferred (some []))
  lod : w0.heap.size ≤ d
  size : w0.heap.size ≤ v.heap.size
section
variable {w0 v v' : World} {b m : Nat} {vl vl' : Value} {D D' : Dsk} {d : Nat} {tv : Value} {ts : List Nat}
theorem WpS.grew (h : WpS w0 v b m vl D d tv ts) (k : Below v.heap.size v v') : WpS w0 v' b m vl D d tv ts :=
  ⟨h.disk.grew k, row_turn h.row (Turn.of_below k []) (by simp), (k.block _ (lt_of_block h.kd)).trans h.kd, h.lod, Nat.le_trans h.size k.size⟩
theorem WpS.stepped (h : WpS w0 v b m vl D d tv ts) (hd : DiskAt v' b m vl' D') (k : Turn (own b m vl) v v') : WpS w0 v' b m vl' D' d tv ts := by
  have hk := disk_kinds h.disk
  refine ⟨hd, row_turn h.row k (fun g hg hm => ?_), (k.block d (lt_of_block h.kd) (fun hm => (hk d hm).2.2.2.2 _ h.kd)).trans h.kd, h.lod, Nat.le_trans h.size k.size⟩
  obtain ⟨cs, e⟩ := row_kind h.row hg
  exact (hk g hm).1 _ _ e
end
theorem icells_get (l : List Nat) (k : Nat) (h : k < l.length) : (icells l)[k]? = some (.int .i64 ((l[k] : Nat) : Int)) := by
  unfold icells
  rw [List.getElem?_map, List.getElem?_eq_getElem h]
  rfl
set_option maxHeartbeats 8000000 in
theorem Clean_any {w : World} {b m : Nat} {vl : Value} {D : Dsk} (h : DiskAt w b m vl D) (f c : Nat) (hk : okAt D f c = true) (hlo : D.loose.length ≤ 100000) (hdn : D.down = false) (har : D.armed = 0) :
    Calls Tryz.prog 42 #[.pointer (some ⟨b, 0, none⟩), .int .i64 f, .int .i64 c] w fun e w' => e = .returned (.int .i64 0) ∧ ∃ vl', DiskAt w' b m vl' (wiped D f (tornL D f c)).flush ∧ Turn (own b m vl) w w' ∧ ∀ g, vl'.ownBlock = some g → vl.ownBlock = some g ∨ w.heap.size ≤ g := by
  refine (callsIn_wide (n := 5)).1 ?_
  have HAT := Lib.hid (at_ok h f c hk)
  unfold okAt at hk
  have hk2 := of_decide_eq_true hk
  have hs2 := h.ok.s2
  have HUP : Hid (∀ k : Nat, k < c → D.ready ((f : Int) + k) = 0) := Lib.hid (fun k hkc => by unfold Dsk.ready; rw [hdn, if_neg (by simp), if_neg (by omega)])
  have HD := Lib.hid h
  have HLO := Lib.hid hlo
  have HUA := Lib.hid (And.intro hdn har)
  have HFC := Lib.hid (show f + c ≤ D.sectors by omega)
  have hcb : (c : Int) ≤ 1048576 := by omega
  have hfb : (f : Int) ≤ 1048576 := by omega
  clear h hk hk2 hs2 hlo hdn har
  refine callsIn_of_wp_marks Tryz.func42 rfl trivial ?_
  simp only [Tryz.ntmps42, List.size_toArray, List.length_cons, List.length_nil, Nat.reduceAdd, Nat.reduceSub, Array.replicate_succ, Array.replicate_zero, List.push_toArray, List.append_toArray, List.nil_append, List.cons_append]
  gi_wp2_with fail
  refine ⟨trivial, callsIn_wide.2 (HAT.out.mono ?_)⟩
  rintro e w1 ⟨rfl, hb1⟩
  have H1 : Hid (∀ v, v = (((w1.alloc (.cells #[.pointer (some ⟨b, 0, none⟩), .int .i64 f, .int .i64 c] 116)).alloc (.cells #[.int .i64 0] 25)).alloc (.cells #[.slice none 0 0] 43)) → Below w.heap.size w v ∧ DiskAt v b m vl D ∧ Blk v (w1.heap.size + 1) #[.int .i64 0] 25 ∧ Blk v (w1.heap.size + 1 + 1) #[.slice none 0 0] 43 ∧ w.heap.size ≤ w1.heap.size + 1 + 1) := Lib.hid (by
    rintro v rfl
    have g0 : Below w1.heap.size w1 (((w1.alloc (.cells #[.pointer (some ⟨b, 0, none⟩), .int .i64 f, .int .i64 c] 116)).alloc (.cells #[.int .i64 0] 25)).alloc (.cells #[.slice none 0 0] 43)) := grow_alloc (grow_alloc (grow_alloc (Below.refl _ _) _) _) _
    exact ⟨grow hb1 g0, (HD.out.grew hb1).grew g0, (Blk.new' _ _ _ (by simp)).alloc _, Blk.new' _ _ _ (by simp), by have := hb1.size; omega⟩)
  clear hb1 HAT
  gi_wp2_with fail
  have h2 := H1.out _ rfl
  refine ⟨trivial, callsIn_wide.2 ((slots_any _ _ _ _ _).mono ?_)⟩
  rintro e w4 ⟨X, rfl, hX, _, _, hb4⟩
  have H4 := Lib.hid (And.intro (grow h2.1 hb4) (And.intro (h2.2.1.grew hb4) (And.intro (h2.2.2.1.grew hb4) (And.intro (h2.2.2.2.1.grew hb4) (And.intro h2.2.2.2.2 hX)))))
  clear h2 hX hb4 H1
  generalize w1.heap.size + 1 + 1 = TB at *
  generalize w1.heap.size + 1 = EB at *
  gi_wp2_with fail
  refine wpIn_range rfl (by decide) (gf := 97) (lb := #[.pointer (some ⟨X, 0, none⟩), .pointer (some ⟨X + 1, 0, none⟩)]) rfl trivial (enters_of Tryz.func97 (by kernel_rfl) rfl) ?_
  intro fn hfn W1 hb1 hz1 hD hL
  generalize hrec : recOf fn _ _ _ _ _ = rec at hL ⊢
  have HR := Lib.hid hrec
  clear hrec
  have R1 : ClS w W1 b m vl D f c X EB TB w4.heap.size (w4.heap.size + 1) nilv (tornL D f 0) (rec .ready none) :=
    ⟨H4.out.2.1.grew hb1, H4.out.2.2.2.2.2.grew hb1, H4.out.2.2.1.grew hb1, H4.out.2.2.2.1.grew hb1, World.ownsRow_nil _ _ _ _, hD, hL, grow H4.out.1 hb1, ⟨H4.out.2.2.2.2.1, Nat.le_trans H4.out.1.size (by omega), H4.out.1.size⟩⟩
  have RR := Lib.hid R1
  clear H4 hD hL hb1 R1 hz1
  generalize w4.heap.size = d at *
  refine (iter_any (fun k W => ∃ tv, ClS w W b m vl D f c X EB TB d (d + 1) tv (tornL D f k) (rec .ready none)) (fun _ => False) f c hcb hfb (fun k W h => by obtain ⟨tv, h⟩ := h; exact ⟨h.kX, h.disk⟩) (fun k W W' h hb => by obtain ⟨tv, h⟩ := h; exact ⟨tv, h.grew hb⟩) (by have := HLO.out; omega) HUP.out ?_ ⟨nilv, RR.out⟩).mono ?_
  · intro k W v R hkc hJ ho hR hRx
    obtain ⟨B, ho⟩ := ho
    obtain ⟨A, c9, rfl, _⟩ := ho.form
    obtain ⟨tv, hJ⟩ := hJ
    have hlk : tornL D f (k + 1) = if isTorn (D.tells ((f : Int) + k)) k then tornL D f k ++ [k] else tornL D f k := rfl
    have hit : isTorn (D.tells ((f : Int) + k)) k = ((slotEp (D.tells ((f : Int) + k)) k == 0) && !slotEmpty (D.tells ((f : Int) + k)) k) := rfl
    rw [hit] at hlk
    have hll := tornL_len D f k
    have HJ := Lib.hid hJ
    have dL := hJ.kl
    rw [← HR.out] at dL
    refine yield_of trivial dL rfl ?_
    have HRR := Lib.hid hR
    generalize slotLoad (D.tells ((f : Int) + k)) k = ld at *
    generalize slotEmpty (D.tells ((f : Int) + k)) k = em at *
    generalize slotEp (D.tells ((f : Int) + k)) k = ep at *
    have HLK := Lib.hid hlk
    have HLL := Lib.hid hll
    clear hR hRx hJ ho hlk dL RR HUP hll hit
    obtain ⟨n9, hn9⟩ : ∃ n9, n9 = ld.length := ⟨_, rfl⟩
    rw [← hn9]
    clear hn9
    have H2 : Hid (∀ W2, W2 = W.alloc (.cells #[.int .i64 ep, .slice A n9 c9, .bool em] 124) → ClS w W2 b m vl D f c X EB TB d (d + 1) tv (tornL D f k) (rec .ready none) ∧ Blk W2 W.heap.size #[.int .i64 ep, .slice A n9 c9, .bool em] 124) := Lib.hid (by
      rintro W2 rfl
      exact ⟨HJ.out.grew (grow_alloc (Below.refl _ _) _), Blk.new _ _ _⟩)
    gi_wp2_with fail
    obtain ⟨W2, hW2⟩ : ∃ W2, W2 = W.alloc (.cells #[.int .i64 ep, .slice A n9 c9, .bool em] 124) := ⟨_, rfl⟩
    rw [← hW2]
    have h2 := H2.out W2 hW2
    obtain ⟨Y, hY⟩ : ∃ Y, Y = W.heap.size := ⟨_, rfl⟩
    rw [← hY] at h2 ⊢
    have dL := h2.1.kl
    refine ⟨by rw [HR.out]; exact dL, ?_⟩
    intro W3 hT
    rw [HR.out] at hT
    have h3 := h2.1.turned hT
    have b3 := h2.2.turned dL hT
    have c0 := b3.cell 0
    have c2 := b3.cell 2
    have cT := h3.kT.cell 0
    have H3 := Lib.hid h3
    clear H2 HJ hW2 hY h2 dL hT b3
    by_cases hep : ep = 0
    · cases em with
      | false =>
        have HS : Hid (tornL D f (k + 1) = tornL D f k ++ [k]) := Lib.hid (by rw [HLK.out, hep]; rfl)
        obtain ⟨tv', v3, hrun, q0, q1, h4⟩ := h3.push k (by have := HLL.out; omega)
        obtain ⟨A4, n4, c4, e4⟩ : ∃ A n c, tv' = .slice A n c := by
          rcases h4.row.2 with ⟨rfl, _⟩ | ⟨g, cap, cur, rfl, _⟩
          · exact ⟨none, 0, 0, rfl⟩
          · exact ⟨_, _, _, rfl⟩
        subst e4
        have HRUN := Lib.hid hrun
        have H4 := Lib.hid h4
        clear h3 hrun h4 H3 HLK
        gi_wp2_with (gi_at_builtin; refine wpListIn_append_run _ rfl (.tmp 37) (.tmp 39) 43 43 rfl _ _ rfl rfl _ v3 HRUN.out ?_)
        refine ⟨by rw [HR.out]; exact H4.out.kl, ?_⟩
        intro W5 hT5
        rw [HR.out] at hT5
        exact HRR.out W5 ⟨_, by rw [HS.out]; exact H4.out.turned hT5⟩
      | true =>
        have HS : Hid (tornL D f (k + 1) = tornL D f k) := Lib.hid (by rw [HLK.out, hep]; rfl)
        clear h3 HLK
        gi_wp2
        refine ⟨by rw [HR.out]; exact H3.out.kl, ?_⟩
        intro W5 hT5
        rw [HR.out] at hT5
        exact HRR.out W5 ⟨_, by rw [HS.out]; exact H3.out.turned hT5⟩
    · have HS : Hid (tornL D f (k + 1) = tornL D f k) := Lib.hid (by rw [HLK.out, beq_eq_false_iff_ne.2 hep]; rfl)
      clear h3 HLK
      gi_wp2
      refine ⟨by rw [HR.out]; exact H3.out.kl, ?_⟩
      intro W5 hT5
      rw [HR.out] at hT5
      exact HRR.out W5 ⟨_, by rw [HS.out]; exact H3.out.turned hT5⟩
  · rintro e W2 ⟨⟨v, rfl⟩, hj | hj⟩
    · obtain ⟨tv, hj⟩ := hj
      refine ⟨⟨_, rfl⟩, Or.inl ⟨hj.kl, ?_⟩⟩
      intro W3 hT
      have h3 := hj.turned hT
      have c0 := h3.kE.cell 0
      have c1 := h3.kT.cell 0
      obtain ⟨ts, hts⟩ : ∃ ts, ts = tornL D f c := ⟨_, rfl⟩
      rw [← hts] at h3
      have HTSE := Lib.hid hts
      have HTS : Hid ((∀ i ∈ ts, f + i < D.sectors) ∧ (ts.length : Int) ≤ 1048576) := Lib.hid ⟨fun i hi => by
        have := tornL_lt D f c i (by rw [← hts]; exact hi)
        have := HFC.out
        omega, by have := tornL_len D f c; rw [← hts] at this; omega⟩
      have HW0 : Hid (WpS w W3 b m vl (wiped D f (ts.take 0)) d tv ts) := Lib.hid ⟨h3.disk, h3.row, h3.kd, h3.lo.2.2, h3.low.size⟩
      have HLOW := Lib.hid h3.low
      obtain ⟨At, nt, ct, et⟩ : ∃ A n c, tv = .slice A n c ∧ n = ts.length := by
        rcases h3.row.2 with ⟨rfl, h0⟩ | ⟨g, cap, cur, rfl, _⟩
        · exact ⟨none, 0, 0, rfl, h0.symm⟩
        · exact ⟨_, _, _, rfl, rfl⟩
      obtain ⟨rfl, hnt⟩ := et
      have HNT := Lib.hid hnt
      clear h3 hj hT RR HUP hts hnt
      have HT0 : Hid (Turn (own b m vl) w W3 ∧ ∀ g, vl.ownBlock = some g → vl.ownBlock = some g ∨ w.heap.size ≤ g) := Lib.hid ⟨Turn.of_below HLOW.out _, fun g h => .inl h⟩
      have hnt : (nt : Int) ≤ 1048576 := by have := HTS.out.2; have := HNT.out; omega
      gi_wp2_with fail
      gi_loopw [46] (fun iv wr => ∃ (k : Nat) (vk : Value), k ≤ nt ∧ iv = .int .i64 k ∧ Hid (WpS w wr b m vk (wiped D f (ts.take k)) d (.slice At nt ct) ts) ∧ Hid (Turn (own b m vl) w wr ∧ ∀ g, vk.ownBlock = some g → vl.ownBlock = some g ∨ w.heap.size ≤ g)) (fun iv _ => nt - (intOf iv).toNat)
      case atStart => exact ⟨0, vl, by omega, rfl, HW0, HT0⟩
      case round =>
        clear HW0 HT0 HLOW c0 c1
        obtain ⟨k, vk, hk, rfl, HS, HT⟩ := hrel
        have his := wiped_is (f := f) (ts.take k) D HUA.out.1 HUA.out.2 (fun i hi => HTS.out.1 i (List.mem_of_mem_take hi))
        obtain ⟨Dk, hDk⟩ : ∃ Dk, Dk = wiped D f (ts.take k) := ⟨_, rfl⟩
        rw [← hDk] at HS his
        have HUP : Hid (Dk.down = false ∧ Dk.armed = 0 ∧ Dk.size = D.size ∧ Dk.sectors = D.sectors ∧ Dk.loose.length ≤ 100000 + 1048576) := Lib.hid (by
          rw [his]
          refine ⟨HUA.out.1, HUA.out.2, rfl, rfl, ?_⟩
          have h1 := HLO.out
          have h2 := HTS.out.2
          show (D.loose ++ _).length ≤ _
          rw [List.length_append, List.length_map, List.length_take]
          omega)
        have HDK := Lib.hid hDk
        clear his hDk
        by_cases hlt : k < nt
        · have hkt : k < ts.length := by rw [← HNT.out]; exact hlt
          have hcell : ∃ g, At = some ⟨g, 0, none⟩ ∧ wr.cell? ⟨g, k, none⟩ = some (.int .i64 ((ts[k] : Nat) : Int)) := by
            rcases id HS.out.row.2 with ⟨e, h0⟩ | ⟨g, cap, cur, e, _⟩
            · omega
            · injection e with e1 e2 e3
              refine ⟨g, e1, ?_⟩
              have q0 := World.ownsRow.cells HS.out.row (g := g) (by rw [e1]; rfl) _ _ (icells_get ts k hkt)
              rw [addr_add] at q0
              try rw [Nat.zero_add] at q0
              exact q0
          obtain ⟨g, rfl, hc⟩ := hcell
          have hsec := HTS.out.1 ts[k] (List.getElem_mem hkt)
          have htk : ts.take (k + 1) = ts.take k ++ [ts[k]] := by rw [List.take_add_one, List.getElem?_eq_getElem hkt]; rfl
          obtain ⟨x, hx⟩ : ∃ x, x = ts[k] := ⟨_, rfl⟩
          rw [← hx] at hc hsec htk
          have HTK : Hid (wiped D f (ts.take (k + 1)) = Dk.put ((f : Int) + x) (List.replicate Dk.size 0)) := Lib.hid (by rw [htk, wiped_snoc, HDK.out])
          have hxb : (x : Int) ≤ 1048576 := by have := HD.out.ok.s2; omega
          have hput := put_up HUP.out.1 HUP.out.2.1 ((f : Int) + x) (List.replicate Dk.size 0) (by omega) (by rw [HUP.out.2.2.2.1]; omega) (by simp)
          have HPUT := Lib.hid hput.2
          have hz1 := HS.out.disk.ok.z1
          have hz2 := HS.out.disk.ok.z2
          obtain ⟨z, hz⟩ : ∃ z, z = Dk.size := ⟨_, rfl⟩
          obtain ⟨w5, hmk, ho5, hg5⟩ := run_makeN (w := wr) wr.heap.size z (Nat.le_refl _) (by omega)
          have hb5 : Below wr.heap.size wr w5 := (Below.refl wr.heap.size wr).grown hg5 (Nat.le_refl _) (by simp)
          have HSZ := Lib.hid (Size_any HS.out.disk)
          rw [← hz] at HSZ HTK HPUT
          have HS5 := Lib.hid (HS.out.grew hb5)
          have HT5 := Lib.hid (And.intro (HT.out.1.tail hb5) HT.out.2)
          have HWR := Lib.hid (Write_any ((f : Int) + x) ⟨wr.heap.size, 0, none⟩ z z (List.replicate z 0) b m vk Dk w5 HS5.out.disk (Byt.of_own' ho5) (by simp) (by have := HUP.out.2.2.2.2; omega))
          rw [HPUT.out] at HWR
          clear hsec htk hx hput hz1 hz2 ho5 hg5 hb5 HS hz
          gi_wp2_with fail
          refine ⟨trivial, callsIn_wide.2 (HSZ.out.mono ?_)⟩
          rintro e w6 ⟨rfl, hw6⟩
          subst hw6
          gi_wp2_with fail
          refine ⟨trivial, callsIn_wide.2 (HWR.out.mono ?_)⟩
          rintro e w7 ⟨rfl, vl7, hd7, ht7, hg7⟩
          have HS7 : Hid (WpS w w7 b m vl7 (wiped D f (ts.take (k + 1))) d (.slice (some ⟨g, 0, none⟩) nt ct) ts) := Lib.hid (by rw [HTK.out]; exact HS5.out.stepped hd7 ht7)
          have HT7 : Hid (Turn (own b m vl) w w7 ∧ ∀ g, vl7.ownBlock = some g → vl.ownBlock = some g ∨ w.heap.size ≤ g) := Lib.hid ⟨HT5.out.1.trans ht7 (fun j hj hlt => by
            rcases mem_own.1 hj with e | e | e
            · exact mem_own.2 (.inl e)
            · exact mem_own.2 (.inr (.inl e))
            · rcases HT5.out.2 j e with e | e
              · exact mem_own.2 (.inr (.inr e))
              · omega), fun g hg => by
            rcases hg7 g hg with e | e
            · exact HT5.out.2 g e
            · exact .inr (Nat.le_trans HS5.out.size e)⟩
          clear hd7 ht7 hg7 HS5 HT5 HWR hc hmk
          gi_wp2
          go_roundw
          case rel => exact ⟨k + 1, vl7, by omega, by go_num, HS7, HT7⟩
          case measure => simp [intOf]; omega
        · obtain rfl : nt = k := by omega
          have hk3 : ¬ (nt : Int) < nt := by omega
          have hfl := Flush_any b m vk Dk wr HS.out.disk (by have := HUP.out.2.2.2.2; omega)
          have hfe : Dk.flushErr = 0 := by
            have hact : Dk.act = Dk := by unfold Dsk.act; rw [if_neg (by have := HUP.out.2.1; omega)]
            unfold Dsk.flushErr; rw [hact, HUP.out.1]; simp
          rw [hfe] at hfl
          have HFL := Lib.hid hfl
          have HEQ : Hid (Dk = wiped D f (tornL D f c)) := Lib.hid (by rw [HDK.out, List.take_of_length_le (by rw [← HNT.out]; exact Nat.le_refl _), HTSE.out])
          clear hfl hfe
          gi_wp2_with fail
          refine ⟨trivial, callsIn_wide.2 (HFL.out.mono ?_)⟩
          rintro e w7 ⟨rfl, vl7, hd7, ht7, hg7⟩
          have HS7 := Lib.hid (HS.out.stepped hd7 ht7)
          have HT7 : Hid (Turn (own b m vl) w w7 ∧ ∀ g, vl7.ownBlock = some g → vl.ownBlock = some g ∨ w.heap.size ≤ g) := Lib.hid ⟨HT.out.1.trans ht7 (fun j hj hlt => by
            rcases mem_own.1 hj with e | e | e
            · exact mem_own.2 (.inl e)
            · exact mem_own.2 (.inr (.inl e))
            · rcases HT.out.2 j e with e | e
              · exact mem_own.2 (.inr (.inr e))
              · omega), fun g hg => HT.out.2 g (hg7 g hg)⟩
          clear hd7 ht7 hg7 HS HT HFL
          gi_wp2
          have hT := Turned.put (.deferred none) HS7.out.kd
          refine ⟨by simp, .inl ⟨_, _, rfl, run_takeDeferred HS7.out.kd, ?_⟩⟩
          refine ⟨_, results_tmp rfl _ _ _, rfl, vl7, ?_, HT7.out.1.trans hT.turn (fun j hj hlt => ?_), HT7.out.2⟩
          · rw [← HEQ.out]
            refine HS7.out.disk.turn hT.turn (fun j hj cs fz hx => ?_) (fun j hj hm => ?_)
            · simp at hj; subst hj; rw [HS7.out.kd] at hx; cases hx
            · simp at hm; subst hm
              exact (disk_kinds HS7.out.disk _ hj).2.2.2.2 _ HS7.out.kd
          · simp at hj
            have := HS7.out.lod
            omega
    · exact hj.elim
end Go.Proofs.YtklppnknllbfnaaGreat
