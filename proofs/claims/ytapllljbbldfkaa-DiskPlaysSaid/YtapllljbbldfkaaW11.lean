/- Walks: light, awake. -/
import Derived.Test.YtapllljbbldfkaaW10
namespace Go.Proofs.Ytapllljbbldfkaa
open Go.RowKit Go.Maps

theorem exec_convert {P : Program} {ev : Operand → Value} {o : Oper} (t1 t2 : TypeId) (x : Operand) (ho : o.op = .convert t1 t2 x) {vx r : Value} {w : World} (hx : ev x = vx) (hr : (convert t1 t2 vx).run P w = .ok r w) : (execOp ev o).run P w = .ok (.value r) w := by
  unfold execOp
  simp only [ho, Sem.run_bind, Sem.run_pure, Result.andThen_ok, hx, hr]
theorem Byt.strv {w : World} {p : Addr} {n c : Nat} {l : List Nat} (h : Byt w (.slice (some p) n c) l) : (convert 35 9 (.slice (some p) n c)).run Try.prog w = .ok (.string (str l)) w := by
  have e := h.len_val
  subst e
  exact run_str c h.rdv
theorem Byt.strw {w : World} {v : Value} {l : List Nat} (h : Byt w v l) : (convert 35 9 v).run Try.prog w = .ok (.string (str l)) w := by
  obtain ⟨p, c, e, _, r⟩ := h.rd
  subst e
  exact run_str c r
theorem full_anyv (c n : Nat) (w : World) (hc : c < 256) (hn : n ≤ 1000000) :
    Calls Try.prog 28 #[.int .u8 c, .int .i64 n] w fun e w' => ∃ v, e = .returned v ∧ ∃ g, v = .slice (some ⟨g, 0, none⟩) n n ∧ Own w' w.heap.size (.slice (some ⟨g, 0, none⟩) n n) (List.replicate n c) ∧ Below w.heap.size w w' := by
  refine (full_any c n w hc hn).mono ?_
  rintro e w' ⟨g, rfl, h1, h2, _⟩
  exact ⟨_, rfl, g, rfl, h1, h2⟩

/-- Are acts few? -/
def lightB (l : List ActV) : Bool := decide (l.length ≤ 40 ∧ ∀ x ∈ l, x.fates.length ≤ 60)

set_option maxHeartbeats 2000000 in
theorem light_any (A : Option Addr) (l : List ActV) (n c N : Nat) (w : World) (hn : l.length = n) (hr : Acts w N A l) :
    Calls Try.prog 7 #[.slice A n c] w fun e w' => e = .returned (.bool (lightB l)) ∧ w' = w := by
  have HR := Lib.hid hr
  have HN := Lib.hid hn
  clear hr hn
  by_cases h40 : (40 : Int) < n
  · have hno : lightB l = false := decide_eq_false fun h => by have := HN.out; omega
    have HNO := Lib.hid hno
    clear hno
    go_enter Try.func7, Try.ntmps7
    go_wp2
    go_ret
    exact ⟨ret_bool HNO.out.symm, rfl⟩
  go_enter Try.func7, Try.ntmps7
  go_wp2
  go_loopw [3] (fun i wr => ∃ k : Nat, k ≤ n ∧ i = .int .i64 k ∧ wr = w ∧ Hid (∀ j (h : j < l.length), j < k → l[j].fates.length ≤ 60)) (fun i _ => n - (intOf i).toNat)
  case atStart => exact ⟨0, by omega, rfl, rfl, Lib.hid fun j _ h => absurd h (by omega)⟩
  case round =>
    obtain ⟨k, hk, rfl, rfl, HM⟩ := hrel
    by_cases hlt : k < n
    · have hkl : k < l.length := by rw [HN.out]; exact hlt
      obtain ⟨p, e, _, _, _, FA, fc, _, _, _, _, h4, hfc, _, _⟩ := HR.out.get hkl
      cases e
      obtain ⟨f, hf⟩ : ∃ f, f = l[k].fates.length := ⟨_, rfl⟩
      rw [← hf] at h4
      have HF := Lib.hid hf
      clear hf
      by_cases h60 : (60 : Int) < f
      · have hno : lightB l = false := decide_eq_false fun h => by
          have := h.2 _ (List.getElem_mem hkl)
          have := HF.out
          omega
        have HNO := Lib.hid hno
        clear hno
        go_wp2
        go_ret
        exact ⟨ret_bool HNO.out.symm, rfl⟩
      · have HH := Lib.hid h60
        go_wp2
        go_round
        case rel => exact ⟨k + 1, by omega, val_int (by simp), trivial, Lib.hid fun j h hj => by
          by_cases e : j = k
          · subst e; have := HF.out; have := HH.out; omega
          · exact HM.out j h (by omega)⟩
        case measure => simp only [intOf]; omega
    · have hyes : lightB l = true := decide_eq_true ⟨by have := HN.out; omega, fun x hx => by
        obtain ⟨j, hj, rfl⟩ := List.mem_iff_getElem.1 hx
        exact HM.out j hj (by have := HN.out; omega)⟩
      have HY := Lib.hid hyes
      clear hyes
      go_wp2
      go_ret
      exact ⟨ret_bool HY.out.symm, rfl⟩

def D1 : Dsk := (Dsk.new 2 64).put 0 (List.replicate 64 1)
def D2 : Dsk := D1.crash [3]
def D3 : Dsk := D2.arm 1
def D4 : Dsk := D3.put 1 (List.replicate 64 2)
def D5 : Dsk := D4.crash [64]
theorem d1e : (Dsk.new 2 64).putErr 0 (List.replicate 64 1) = 0 := by decide
theorem d2r : D2.ready 0 = 0 := by decide
theorem d2t : D2.tells 0 = (List.replicate 3 1 ++ List.replicate 61 0) := by decide
theorem d3e : D3.putErr 1 (List.replicate 64 2) = 4 := by decide
theorem d4d : D4.down = true := by decide
theorem d5r : D5.ready 1 = 0 := by decide
theorem d5t : D5.tells 1 = List.replicate 64 2 := by decide
theorem dloose : (Dsk.new 2 64).loose.length ≤ 1000000000 ∧ D1.loose.length ≤ 1000000000 ∧ D2.loose.length ≤ 1000000000 ∧ D3.loose.length ≤ 1000000000 ∧ D4.loose.length ≤ 1000000000 ∧ D5.loose.length ≤ 1000000000 := by decide

theorem d2s : D2.size = 64 := by decide
theorem d5s : D5.size = 64 := by decide

theorem IRd.lit (w : World) (x : Int) (h : -9223372036854775808 ≤ x ∧ x ≤ 9223372036854775807) : IRd (w.alloc (.cells #[.int .i64 x] 3)) (some ⟨w.heap.size, 0, none⟩) [x] := by
  refine ⟨by simpa using h, fun _ => ⟨_, rfl, by simp, fun k hk => ?_⟩⟩
  have : k = 0 := by simp at hk; omega
  subst this
  exact (Blk.new' w #[.int .i64 x] 3 rfl).cell 0
theorem Crash_lit {w0 v : World} {b m : Nat} {vl : Value} {D : Dsk} (h : Dk w0 v b m vl D) (x : Int) (hx : -9223372036854775808 ≤ x ∧ x ≤ 9223372036854775807) (hL : D.loose.length ≤ 1000000000) :
    Calls Try.prog 14 #[.pointer (some ⟨b, 0, none⟩), .slice (some ⟨v.heap.size, 0, none⟩) 1 1] (v.alloc (.cells #[.int .i64 x] 3)) fun e v' => e = .returned (.tuple #[]) ∧ ∃ vl', Dk w0 v' b m vl' (D.crash [x]) ∧ ∀ u l, Byt v u l → Byt v' u l := by
  have hg := (Below.refl v.heap.size v).alloc (Nat.le_refl _) (.cells #[.int .i64 x] 3)
  refine (Crash_dk (h.grew hg) [x] (some ⟨v.heap.size, 0, none⟩) 1 1 rfl hL (by omega) (IRd.lit v x hx) (fun _ p hp => ?_)).mono ?_
  · cases hp
    exact ⟨by simp, fun hm => Nat.lt_irrefl _ (h.disk.lt _ hm)⟩
  · rintro e v' ⟨rfl, vl', hk, hs⟩
    exact ⟨rfl, vl', hk, fun u l hb => hs.byt (hb.grew hg)⟩

set_option maxRecDepth 10000 in
set_option maxHeartbeats 8000000 in
theorem awake_any (w : World) : Calls Try.prog 12 #[] w fun e w' => e = .returned (.bool true) ∧ Below w.heap.size w w' := by
  obtain ⟨la, hla⟩ : ∃ la, la = (List.replicate 3 1 ++ List.replicate 61 0) := ⟨_, rfl⟩
  obtain ⟨lb, hlb⟩ : ∃ lb, lb = List.replicate 64 2 := ⟨_, rfl⟩
  have HLA := Lib.hid hla
  have HLB := Lib.hid hlb
  clear hla hlb
  go_enter Try.func12, Try.ntmps12
  go_wp2_with fail
  refine (New_dk w 2 64 (fun _ _ => trivial) (Below.refl _ _) (by decide) (by decide) (by decide) (by decide)).mono ?_
  rintro e w1 ⟨b, m, rfl, hk, -⟩
  have HK := Lib.hid hk
  clear hk
  go_wp2_with fail
  refine (full_any 1 64 w1 (by decide) (by decide)).mono ?_
  rintro e w2 ⟨g, rfl, ho, hb, -⟩
  have K2 := Lib.hid (And.intro (HK.out.grew hb) (Byt.of_own' ho))
  clear ho hb HK
  go_wp2_with fail
  refine (Write_dk K2.out.1 0 K2.out.2 dloose.1).mono ?_
  rintro e w3 ⟨rfl, vl, hk, -⟩
  rw [d1e]
  have HK := Lib.hid (show Dk w w3 b m vl D1 from hk)
  clear hk K2
  go_wp2_with fail
  refine (Crash_lit HK.out 3 (by decide) dloose.2.1).mono ?_
  rintro e w4 ⟨rfl, vl4, hk, -⟩
  have HK := Lib.hid (show Dk w w4 b m vl4 D2 from hk)
  clear hk
  go_wp2_with fail
  refine (Read_dk HK.out 0 dloose.2.2.1 d2r).mono ?_
  rintro e w5 ⟨ga, ca, rfl, ho, hk, -⟩
  rw [d2s] at ho ⊢
  rw [d2t, ← HLA.out] at ho
  have HA := Lib.hid (Byt.of_own' ho)
  have HK := Lib.hid hk
  clear hk ho
  go_wp2_with fail
  refine (Arm_dk HK.out 1 (by decide)).mono ?_
  rintro e w6 ⟨rfl, hk, hs⟩
  have HA := Lib.hid (hs.byt HA.out)
  have HK := Lib.hid (show Dk w w6 b m vl4 D3 from hk)
  clear hk hs
  go_wp2_with fail
  refine (full_any 2 64 w6 (by decide) (by decide)).mono ?_
  rintro e w7 ⟨g7, rfl, ho, hb, -⟩
  have HA := Lib.hid (HA.out.grew hb)
  have K7 := Lib.hid (And.intro (HK.out.grew hb) (Byt.of_own' ho))
  clear ho hb HK
  go_wp2_with fail
  refine (Write_dk K7.out.1 1 K7.out.2 dloose.2.2.2.1).mono ?_
  rintro e w8 ⟨rfl, vl8, hk, hs⟩
  rw [d3e]
  have HA := Lib.hid (hs.byt HA.out)
  have HK := Lib.hid (show Dk w w8 b m vl8 D4 from hk)
  clear hk hs K7
  go_wp2_with fail
  refine (Down_any HK.out.disk).mono ?_
  rintro e w9 ⟨rfl, hw⟩
  subst hw
  rw [d4d]
  go_wp2_with fail
  refine (Crash_lit HK.out 64 (by decide) dloose.2.2.2.2.1).mono ?_
  rintro e w10 ⟨rfl, vl10, hk, hs⟩
  have HA := Lib.hid (hs _ _ HA.out)
  have HK := Lib.hid (show Dk w w10 b m vl10 D5 from hk)
  clear hk hs
  go_wp2_with fail
  refine (Read_dk HK.out 1 dloose.2.2.2.2.2 d5r).mono ?_
  rintro e w11 ⟨gb, cb, rfl, ho, hk, hb⟩
  rw [d5s] at ho ⊢
  rw [d5t, ← HLB.out] at ho
  have HA := Lib.hid (HA.out.grew hb)
  have HBt := Lib.hid (Byt.of_own' ho)
  have HK := Lib.hid hk
  clear hk ho hb
  go_wp2_with fail
  refine wp_region_H (fun v => Byt v (.slice (some ⟨ga, 0, none⟩) 64 ca) la ∧ Byt v (.slice (some ⟨gb, 0, none⟩) 64 cb) lb) (by kernel_rfl) (fun u0 hu0 => ?_)
  have hS0 : (fun v => Byt v (.slice (some ⟨ga, 0, none⟩) 64 ca) la ∧ Byt v (.slice (some ⟨gb, 0, none⟩) 64 cb) lb) u0 := by subst hu0; exact ⟨HA.out.drew, HBt.out.drew⟩
  have B0 : Below w.heap.size w u0 := by subst hu0; exact ⟨HK.out.low.os, HK.out.low.tape, HK.out.low.output, HK.out.low.size, HK.out.low.block⟩
  have HS0 := Lib.hid hS0
  clear hu0
  refine wpH_take (i := 0) (v := ?_) rfl rfl (by kernel_rfl) (by kernel_rfl) (by kernel_rfl) (fun _ _ _ h => h) (Or.inl ⟨by rfl, ?_⟩) hS0 ?_
  rotate_left
  · (intro w_ hw_; go_simp; try with_reducible rfl)
  simp only [List.setIfInBounds_toArray, List.set_cons_zero, List.set_cons_succ]
  refine wpH_take (i := 1) (v := ?_) rfl rfl (by kernel_rfl) (by kernel_rfl) (by kernel_rfl) (fun _ _ _ h => h) (Or.inl ⟨by rfl, ?_⟩) hS0 ?_
  rotate_left
  · (intro w_ hw_; go_simp; try with_reducible rfl)
  simp only [List.setIfInBounds_toArray, List.set_cons_zero, List.set_cons_succ]
  refine wpH_take (i := 2) (v := ?_) rfl rfl (by kernel_rfl) (by kernel_rfl) (by kernel_rfl) (fun _ _ _ h => h) (Or.inl ⟨by rfl, ?_⟩) hS0 ?_
  rotate_left
  · (intro w_ hw_; go_simp; try with_reducible rfl)
  simp only [List.setIfInBounds_toArray, List.set_cons_zero, List.set_cons_succ]
  refine wpH_take (i := 3) (v := ?_) rfl rfl (by kernel_rfl) (by kernel_rfl) (by kernel_rfl) (fun _ _ _ h => h) (Or.inl ⟨by rfl, ?_⟩) hS0 ?_
  rotate_left
  · (intro w_ hw_; go_simp; try with_reducible rfl)
  simp only [List.setIfInBounds_toArray, List.set_cons_zero, List.set_cons_succ]
  refine wpH_take (i := 4) (v := ?_) rfl rfl (by kernel_rfl) (by kernel_rfl) (by kernel_rfl) (fun _ _ _ h => h) (Or.inl ⟨by rfl, ?_⟩) hS0 ?_
  rotate_left
  · (intro w_ hw_; go_simp; try with_reducible rfl)
  simp only [List.setIfInBounds_toArray, List.set_cons_zero, List.set_cons_succ]
  refine wpH_take (i := 5) (v := ?_) rfl rfl (by kernel_rfl) (by kernel_rfl) (by kernel_rfl) (fun _ _ _ h => h) (Or.inl ⟨by rfl, ?_⟩) hS0 ?_
  rotate_left
  · (intro w_ hw_; go_simp; try with_reducible rfl)
  simp only [List.setIfInBounds_toArray, List.set_cons_zero, List.set_cons_succ]
  refine wpH_take (i := 6) (v := ?_) rfl rfl (by kernel_rfl) (by kernel_rfl) (by kernel_rfl) (fun _ _ _ h => h) (Or.inl ⟨by rfl, ?_⟩) hS0 ?_
  rotate_left
  · (intro w_ hw_; go_simp; try with_reducible rfl)
  simp only [List.setIfInBounds_toArray, List.set_cons_zero, List.set_cons_succ]
  refine wpH_take (i := 7) (v := ?_) rfl rfl (by kernel_rfl) (by kernel_rfl) (by kernel_rfl) (fun _ _ _ h => h) (Or.inl ⟨by rfl, ?_⟩) hS0 ?_
  rotate_left
  · (intro w_ hw_; go_simp; try with_reducible rfl)
  simp only [List.setIfInBounds_toArray, List.set_cons_zero, List.set_cons_succ]
  refine wpH_take (i := 8) (v := (.string (str la))) rfl rfl (by kernel_rfl) (by kernel_rfl) (by kernel_rfl) (fun _ _ _ h => h) (Or.inl ⟨by rfl, ?_⟩) hS0 ?_
  · (intro w_ hw_; exact exec_convert 35 9 (.tmp 43) rfl rfl (hw_.1.strv))
  simp only [List.setIfInBounds_toArray, List.set_cons_zero, List.set_cons_succ]
  have hf9 := full_anyv 1 3 u0 (by decide) (by decide)
  refine wpH_callv (i := 9) (by kernel_rfl) rfl rfl (by rfl) (hf9) (by go_simp) ?_
  rintro _ u1 ⟨g9, rfl, ho9, hb9⟩
  have hS1 : (fun v => Byt v (.slice (some ⟨ga, 0, none⟩) 64 ca) la ∧ Byt v (.slice (some ⟨gb, 0, none⟩) 64 cb) lb) u1 := ⟨hS0.1.grew hb9, hS0.2.grew hb9⟩
  clear hS0
  refine ⟨hS1, ?_⟩
  simp only [List.setIfInBounds_toArray, List.set_cons_zero, List.set_cons_succ]
  have B1 := grow B0 hb9
  clear hf9
  have hf10 := full_anyv 0 61 u1 (by decide) (by decide)
  refine wpH_callv (i := 10) (by kernel_rfl) rfl rfl (by rfl) (hf10) (by go_simp) ?_
  rintro _ u2 ⟨g10, rfl, ho10, hb10⟩
  have hS2 : (fun v => Byt v (.slice (some ⟨ga, 0, none⟩) 64 ca) la ∧ Byt v (.slice (some ⟨gb, 0, none⟩) 64 cb) lb) u2 := ⟨hS1.1.grew hb10, hS1.2.grew hb10⟩
  clear hS1
  refine ⟨hS2, ?_⟩
  simp only [List.setIfInBounds_toArray, List.set_cons_zero, List.set_cons_succ]
  have B2 := grow B1 hb10
  clear hf10
  obtain ⟨_, _, e10, r10⟩ := ho10.form
  injection e10 with e101 e102 e103
  subst e101
  obtain ⟨v11, u3, happ, ho11, hb11⟩ := run_app 35 (ho9.below hb10) u2.heap.size (some ⟨g10, 0, none⟩) 61 _ r10 (Nat.le_trans hb9.size hb10.size) (by simp)
  rw [show (List.replicate 61 0 : List Nat).length = 61 from rfl] at happ
  have hbb : Below u0.heap.size u0 u3 := (hb9.trans (hb10.mono hb9.size)).trans hb11
  have B3 := grow B0 hbb
  have hS3 : (fun v => Byt v (.slice (some ⟨ga, 0, none⟩) 64 ca) la ∧ Byt v (.slice (some ⟨gb, 0, none⟩) 64 cb) lb) u3 := ⟨HS0.out.1.grew hbb, HS0.out.2.grew hbb⟩
  clear hS2
  refine wpH_run (i := 11) (v := v11) (w' := u3) (by kernel_rfl) rfl rfl (by rfl) (by exact exec_append (.tmp 45) (.tmp 46) 35 35 rfl rfl rfl happ) hS3 ?_
  simp only [List.setIfInBounds_toArray, List.set_cons_zero, List.set_cons_succ]
  have hst := (Byt.of_own ho11 (by simp)).strw
  have hla := HLA.out
  rw [← hla] at hst
  have hS4 : (fun v => Byt v (.slice (some ⟨ga, 0, none⟩) 64 ca) la ∧ Byt v (.slice (some ⟨gb, 0, none⟩) 64 cb) lb) u3 := hS3
  clear hS3
  refine wpH_run (i := 12) (v := (.string (str la))) (w' := u3) (by kernel_rfl) rfl rfl (by rfl) (by exact exec_convert 35 9 (.tmp 47) rfl rfl hst) hS4 ?_
  simp only [List.setIfInBounds_toArray, List.set_cons_zero, List.set_cons_succ]
  clear hla hst e102 e103 r10 ho10 ho9 hbb hb11 hb10 hb9 ho11 happ B1 B2
  refine wpH_take (i := 13) (v := ?_) rfl rfl (by kernel_rfl) (by kernel_rfl) (by kernel_rfl) (fun _ _ _ h => h) (Or.inl ⟨by rfl, ?_⟩) hS4 ?_
  rotate_left
  · (intro w_ hw_; go_simp; try with_reducible rfl)
  simp only [List.setIfInBounds_toArray, List.set_cons_zero, List.set_cons_succ]
  refine wpH_take (i := 14) (v := ?_) rfl rfl (by kernel_rfl) (by kernel_rfl) (by kernel_rfl) (fun _ _ _ h => h) (Or.inl ⟨by rfl, ?_⟩) hS4 ?_
  rotate_left
  · (intro w_ hw_; go_simp; try with_reducible rfl)
  simp only [List.setIfInBounds_toArray, List.set_cons_zero, List.set_cons_succ]
  refine wpH_take (i := 15) (v := ?_) rfl rfl (by kernel_rfl) (by kernel_rfl) (by kernel_rfl) (fun _ _ _ h => h) (Or.inl ⟨by rfl, ?_⟩) hS4 ?_
  rotate_left
  · (intro w_ hw_; go_simp; try with_reducible rfl)
  simp only [List.setIfInBounds_toArray, List.set_cons_zero, List.set_cons_succ]
  refine wpH_take (i := 16) (v := ?_) rfl rfl (by kernel_rfl) (by kernel_rfl) (by kernel_rfl) (fun _ _ _ h => h) (Or.inl ⟨by rfl, ?_⟩) hS4 ?_
  rotate_left
  · (intro w_ hw_; go_simp; try with_reducible rfl)
  simp only [List.setIfInBounds_toArray, List.set_cons_zero, List.set_cons_succ]
  refine wpH_take (i := 17) (v := ?_) rfl rfl (by kernel_rfl) (by kernel_rfl) (by kernel_rfl) (fun _ _ _ h => h) (Or.inl ⟨by rfl, ?_⟩) hS4 ?_
  rotate_left
  · (intro w_ hw_; go_simp; try with_reducible rfl)
  simp only [List.setIfInBounds_toArray, List.set_cons_zero, List.set_cons_succ]
  refine wpH_take (i := 18) (v := ?_) rfl rfl (by kernel_rfl) (by kernel_rfl) (by kernel_rfl) (fun _ _ _ h => h) (Or.inl ⟨by rfl, ?_⟩) hS4 ?_
  rotate_left
  · (intro w_ hw_; go_simp; try with_reducible rfl)
  simp only [List.setIfInBounds_toArray, List.set_cons_zero, List.set_cons_succ]
  refine wpH_take (i := 19) (v := ?_) rfl rfl (by kernel_rfl) (by kernel_rfl) (by kernel_rfl) (fun _ _ _ h => h) (Or.inl ⟨by rfl, ?_⟩) hS4 ?_
  rotate_left
  · (intro w_ hw_; go_simp; try with_reducible rfl)
  simp only [List.setIfInBounds_toArray, List.set_cons_zero, List.set_cons_succ]
  refine wpH_take (i := 20) (v := ?_) rfl rfl (by kernel_rfl) (by kernel_rfl) (by kernel_rfl) (fun _ _ _ h => h) (Or.inl ⟨by rfl, ?_⟩) hS4 ?_
  rotate_left
  · (intro w_ hw_; go_simp; try with_reducible rfl)
  simp only [List.setIfInBounds_toArray, List.set_cons_zero, List.set_cons_succ]
  refine wpH_take (i := 21) (v := ?_) rfl rfl (by kernel_rfl) (by kernel_rfl) (by kernel_rfl) (fun _ _ _ h => h) (Or.inl ⟨by rfl, ?_⟩) hS4 ?_
  rotate_left
  · (intro w_ hw_; go_simp; try with_reducible rfl)
  simp only [List.setIfInBounds_toArray, List.set_cons_zero, List.set_cons_succ]
  refine wpH_take (i := 22) (v := ?_) rfl rfl (by kernel_rfl) (by kernel_rfl) (by kernel_rfl) (fun _ _ _ h => h) (Or.inl ⟨by rfl, ?_⟩) hS4 ?_
  rotate_left
  · (intro w_ hw_; go_simp; try with_reducible rfl)
  simp only [List.setIfInBounds_toArray, List.set_cons_zero, List.set_cons_succ]
  refine wpH_take (i := 23) (v := ?_) rfl rfl (by kernel_rfl) (by kernel_rfl) (by kernel_rfl) (fun _ _ _ h => h) (Or.inl ⟨by rfl, ?_⟩) hS4 ?_
  rotate_left
  · (intro w_ hw_; go_simp; try with_reducible rfl)
  simp only [List.setIfInBounds_toArray, List.set_cons_zero, List.set_cons_succ]
  refine wpH_take (i := 24) (v := ?_) rfl rfl (by kernel_rfl) (by kernel_rfl) (by kernel_rfl) (fun _ _ _ h => h) (Or.inl ⟨by rfl, ?_⟩) hS4 ?_
  rotate_left
  · (intro w_ hw_; go_simp; try with_reducible rfl)
  simp only [List.setIfInBounds_toArray, List.set_cons_zero, List.set_cons_succ]
  refine wpH_take (i := 25) (v := ?_) rfl rfl (by kernel_rfl) (by kernel_rfl) (by kernel_rfl) (fun _ _ _ h => h) (Or.inl ⟨by rfl, ?_⟩) hS4 ?_
  rotate_left
  · (intro w_ hw_; go_simp; try with_reducible rfl)
  simp only [List.setIfInBounds_toArray, List.set_cons_zero, List.set_cons_succ]
  refine wpH_take (i := 26) (v := ?_) rfl rfl (by kernel_rfl) (by kernel_rfl) (by kernel_rfl) (fun _ _ _ h => h) (Or.inl ⟨by rfl, ?_⟩) hS4 ?_
  rotate_left
  · (intro w_ hw_; go_simp; try with_reducible rfl)
  simp only [List.setIfInBounds_toArray, List.set_cons_zero, List.set_cons_succ]
  refine wpH_take (i := 27) (v := ?_) rfl rfl (by kernel_rfl) (by kernel_rfl) (by kernel_rfl) (fun _ _ _ h => h) (Or.inl ⟨by rfl, ?_⟩) hS4 ?_
  rotate_left
  · (intro w_ hw_; go_simp; try with_reducible rfl)
  simp only [List.setIfInBounds_toArray, List.set_cons_zero, List.set_cons_succ]
  refine wpH_take (i := 28) (v := (.string (str lb))) rfl rfl (by kernel_rfl) (by kernel_rfl) (by kernel_rfl) (fun _ _ _ h => h) (Or.inl ⟨by rfl, ?_⟩) hS4 ?_
  · (intro w_ hw_; exact exec_convert 35 9 (.tmp 63) rfl rfl (hw_.2.strv))
  simp only [List.setIfInBounds_toArray, List.set_cons_zero, List.set_cons_succ]
  have hf29 := full_anyv 2 64 u3 (by decide) (by decide)
  refine wpH_callv (i := 29) (by kernel_rfl) rfl rfl (by rfl) (hf29) (by go_simp) ?_
  rintro _ u4 ⟨g29, rfl, ho29, hb29⟩
  have hS5 : (fun v => Byt v (.slice (some ⟨ga, 0, none⟩) 64 ca) la ∧ Byt v (.slice (some ⟨gb, 0, none⟩) 64 cb) lb) u4 := ⟨hS4.1.grew hb29, hS4.2.grew hb29⟩
  clear hS4
  refine ⟨hS5, ?_⟩
  simp only [List.setIfInBounds_toArray, List.set_cons_zero, List.set_cons_succ]
  have B4 := grow B3 hb29
  have hst := (Byt.of_own ho29 (by decide)).strw
  have hlb := HLB.out
  rw [← hlb] at hst
  have hS6 : (fun v => Byt v (.slice (some ⟨ga, 0, none⟩) 64 ca) la ∧ Byt v (.slice (some ⟨gb, 0, none⟩) 64 cb) lb) u4 := hS5
  clear hS5
  refine wpH_run (i := 30) (v := (.string (str lb))) (w' := u4) (by kernel_rfl) rfl rfl (by rfl) (by exact exec_convert 35 9 (.tmp 65) rfl rfl hst) hS6 ?_
  simp only [List.setIfInBounds_toArray, List.set_cons_zero, List.set_cons_succ]
  clear hlb hst hf29 ho29 hb29 B3
  refine wpH_take (i := 31) (v := ?_) rfl rfl (by kernel_rfl) (by kernel_rfl) (by kernel_rfl) (fun _ _ _ h => h) (Or.inl ⟨by rfl, ?_⟩) hS6 ?_
  rotate_left
  · (intro w_ hw_; go_simp; try with_reducible rfl)
  simp only [List.setIfInBounds_toArray, List.set_cons_zero, List.set_cons_succ]
  refine wpH_take (i := 32) (v := ?_) rfl rfl (by kernel_rfl) (by kernel_rfl) (by kernel_rfl) (fun _ _ _ h => h) (Or.inl ⟨by rfl, ?_⟩) hS6 ?_
  rotate_left
  · (intro w_ hw_; go_simp; try with_reducible rfl)
  simp only [List.setIfInBounds_toArray, List.set_cons_zero, List.set_cons_succ]
  refine wpH_take (i := 33) (v := ?_) rfl rfl (by kernel_rfl) (by kernel_rfl) (by kernel_rfl) (fun _ _ _ h => h) (Or.inl ⟨by rfl, ?_⟩) hS6 ?_
  rotate_left
  · (intro w_ hw_; go_simp; try with_reducible rfl)
  simp only [List.setIfInBounds_toArray, List.set_cons_zero]
  clear hS6
  refine wpAnyH_done (by kernel_rfl) ?_ _

  go_wp2
  go_ret
  exact ⟨rfl, B4⟩
end Go.Proofs.Ytapllljbbldfkaa
