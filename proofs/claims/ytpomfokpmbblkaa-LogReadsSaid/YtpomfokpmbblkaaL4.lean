/- Walks: Left; the tests of a group; why a group can't be appended. Printed by mk_l4.py. -/
import Derived.Test.YtpomfokpmbblkaaL3
import Derived.Test.YtpomfokpmbblkaaHeld
namespace Go.Proofs.Ytpomfokpmbblkaa
open Go.RowKit Go.Maps
set_option maxRecDepth 8000
variable {ι : Type} [Bar ι]
section
variable {b m : Nat} {vl : Value} {D : Dsk} {w : World} {G : Nat} {L : Lg}

theorem LogIn.grew {w w' : World} {G b : Nat} {L : Lg} (h : LogIn w G b L) (k : Below w.heap.size w w') : LogIn w' G b L := Blk.grew h k
theorem Left_any (h : LogIn w G b L) (hok : L.Ok) : Calls Try.prog 20 #[.pointer (some ⟨G, 0, none⟩)] w fun r w' => r = .returned (.int .i64 ((L.count : Int) - L.next)) ∧ Below w.heap.size w w' := by
  have h1 := hok.c
  have h2 := hok.n
  have HC := Lib.hid (And.intro h.six.2.2.1 h.six.2.2.2.2.1)
  have b1 : (L.count : Int) ≤ 1048576 := by omega
  have b2 : (L.next : Int) ≤ 1048576 := by omega
  clear h hok h1 h2
  go_enter Try.func20, Try.ntmps20
  go_wp2_with fail
  refine wp_region_H (fun v => v.cell? ⟨G, 2, none⟩ = some (.int .i64 L.count) ∧ v.cell? ⟨G, 4, none⟩ = some (.int .i64 L.next)) (by kernel_rfl) (fun v0 hv0 => ?_)
  have hS0 : (fun v => v.cell? ⟨G, 2, none⟩ = some (.int .i64 L.count) ∧ v.cell? ⟨G, 4, none⟩ = some (.int .i64 L.next)) v0 := by subst hv0; exact ⟨HC.out.1, HC.out.2⟩
  have HBV : Hid (Below w.heap.size w v0) := Lib.hid (by subst hv0; exact (Below.refl _ _).drew)
  clear hv0
  refine wpH_take (i := 0) (v := ?_) rfl rfl (by kernel_rfl) (by kernel_rfl) (by kernel_rfl) (fun _ _ _ h => h) (Or.inl ⟨by rfl, ?_⟩) hS0 ?_
  rotate_left
  · (intro w_ hw_; go_simp; try with_reducible rfl)
  simp only [List.setIfInBounds_toArray, List.set_cons_zero, List.set_cons_succ]
  refine wpH_take (i := 1) (v := ?_) rfl rfl (by kernel_rfl) (by kernel_rfl) (by kernel_rfl) (fun _ _ _ h => h) (Or.inl ⟨by rfl, ?_⟩) hS0 ?_
  rotate_left
  · (intro w_ hw_; obtain ⟨q1, q2⟩ := hw_; go_simp; try with_reducible rfl)
  simp only [List.setIfInBounds_toArray, List.set_cons_zero, List.set_cons_succ]
  refine wpH_take (i := 2) (v := ?_) rfl rfl (by kernel_rfl) (by kernel_rfl) (by kernel_rfl) (fun _ _ _ h => h) (Or.inl ⟨by rfl, ?_⟩) hS0 ?_
  rotate_left
  · (intro w_ hw_; go_simp; try with_reducible rfl)
  simp only [List.setIfInBounds_toArray, List.set_cons_zero, List.set_cons_succ]
  refine wpH_take (i := 3) (v := ?_) rfl rfl (by kernel_rfl) (by kernel_rfl) (by kernel_rfl) (fun _ _ _ h => h) (Or.inl ⟨by rfl, ?_⟩) hS0 ?_
  rotate_left
  · (intro w_ hw_; go_simp; try with_reducible rfl)
  simp only [List.setIfInBounds_toArray, List.set_cons_zero, List.set_cons_succ]
  refine wpH_take (i := 4) (v := ?_) rfl rfl (by kernel_rfl) (by kernel_rfl) (by kernel_rfl) (fun _ _ _ h => h) (Or.inl ⟨by rfl, ?_⟩) hS0 ?_
  rotate_left
  · (intro w_ hw_; obtain ⟨q1, q2⟩ := hw_; go_simp; try with_reducible rfl)
  simp only [List.setIfInBounds_toArray, List.set_cons_zero, List.set_cons_succ]
  refine wpH_take (i := 5) (v := ?_) rfl rfl (by kernel_rfl) (by kernel_rfl) (by kernel_rfl) (fun _ _ _ h => h) (Or.inl ⟨by rfl, ?_⟩) hS0 ?_
  rotate_left
  · (intro w_ hw_; go_simp; try with_reducible rfl)
  simp only [List.setIfInBounds_toArray, List.set_cons_zero, List.set_cons_succ]
  refine wpH_take (i := 6) (v := ?_) rfl rfl (by kernel_rfl) (by kernel_rfl) (by kernel_rfl) (fun _ _ _ h => h) (Or.inl ⟨by rfl, ?_⟩) hS0 ?_
  rotate_left
  · (intro w_ hw_; obtain ⟨q1, q2⟩ := hw_; go_simp; try with_reducible rfl)
  simp only [List.setIfInBounds_toArray, List.set_cons_zero, List.set_cons_succ]
  refine wpH_take (i := 7) (v := ?_) rfl rfl (by kernel_rfl) (by kernel_rfl) (by kernel_rfl) (fun _ _ _ h => h) (Or.inl ⟨by rfl, ?_⟩) hS0 ?_
  rotate_left
  · (intro w_ hw_; go_simp; try with_reducible rfl)
  simp only [List.setIfInBounds_toArray, List.set_cons_zero, List.set_cons_succ]
  refine wpH_take (i := 8) (v := ?_) rfl rfl (by kernel_rfl) (by kernel_rfl) (by kernel_rfl) (fun _ _ _ h => h) (Or.inl ⟨by rfl, ?_⟩) hS0 ?_
  rotate_left
  · (intro w_ hw_; obtain ⟨q1, q2⟩ := hw_; go_simp; try with_reducible rfl)
  simp only [List.setIfInBounds_toArray, List.set_cons_zero, List.set_cons_succ]
  refine wpH_take (i := 9) (v := ?_) rfl rfl (by kernel_rfl) (by kernel_rfl) (by kernel_rfl) (fun _ _ _ h => h) (Or.inl ⟨by rfl, ?_⟩) hS0 ?_
  rotate_left
  · (intro w_ hw_; go_simp; try with_reducible rfl)
  simp only [List.setIfInBounds_toArray, List.set_cons_zero, List.set_cons_succ]
  refine wpH_take (i := 10) (v := ?_) rfl rfl (by kernel_rfl) (by kernel_rfl) (by kernel_rfl) (fun _ _ _ h => h) (Or.inl ⟨by rfl, ?_⟩) hS0 ?_
  rotate_left
  · (intro w_ hw_; go_simp; try with_reducible rfl)
  simp only [List.setIfInBounds_toArray, List.set_cons_zero, List.set_cons_succ]
  clear hS0
  refine wpAnyH_done (by kernel_rfl) ?_ _
  have hwr : IntKind.i64.wrap ((L.count : Int) - L.next) = (L.count : Int) - L.next := by rw [IntKind.wrap_i64]; omega
  rw [hwr]
  go_wp2
  go_ret
  exact ⟨rfl, HBV.out⟩
def badPage (c : Int × List Nat) : Bool := decide (c.1 < 0 ∨ 2147483647 < c.1)
def badLen (z : Int) (c : Int × List Nat) : Bool := decide ((c.2.length : Int) ≠ lroom z)
theorem right1_any (x : Int × List Nat) (u : Value) (w : World) : Calls Try.prog 62 #[.agg #[.int .i64 x.1, u]] w fun e w' => e = .returned (.bool (badPage x)) ∧ Below w.heap.size w w' := by
  unfold badPage
  generalize x.1 = p
  have HB := Lib.hid (grow_alloc (Below.refl w.heap.size w) (.cells #[.int .i64 p, u] 44))
  by_cases h1 : p < 0
  · rw [decide_eq_true (Or.inl h1)]
    go_enter Try.func62, Try.ntmps62
    go_wp2
    go_ret
    exact ⟨rfl, HB.out⟩
  · by_cases h2 : 2147483647 < p
    · rw [decide_eq_true (Or.inr h2)]
      go_enter Try.func62, Try.ntmps62
      go_wp2
      go_ret
      exact ⟨rfl, HB.out⟩
    · rw [decide_eq_false (by omega)]
      go_enter Try.func62, Try.ntmps62
      go_wp2
      go_ret
      exact ⟨rfl, HB.out⟩
set_option maxHeartbeats 2000000 in
theorem right2_any (x : Int × List Nat) (u : Value) (hu : Byt w u x.2) (P : Nat) (h : DiskAt w b m vl D) (hl : LogIn w G b L) (hP : Blk w P #[.pointer (some ⟨G, 0, none⟩)] 28) :
    Calls Try.prog 63 #[.agg #[.int .i64 x.1, u], .pointer (some ⟨P, 0, none⟩)] w fun e w' => e = .returned (.bool (badLen D.size x)) ∧ Below w.heap.size w w' := by
  obtain ⟨A, c, rfl, _, _⟩ := hu.rd
  obtain ⟨q, hq⟩ : ∃ q, q = badLen D.size x := ⟨_, rfl⟩
  rw [← hq]
  unfold badLen at hq
  obtain ⟨n, hn⟩ : ∃ n, n = x.2.length := ⟨_, rfl⟩
  rw [← hn] at hq ⊢
  generalize x.1 = p at *
  have HC : Hid (∀ w1, w1 = (w.alloc (.cells #[.int .i64 p, .slice (some A) n c] 44)).drew → w1.cell? ⟨w.heap.size, 1, none⟩ = some (.slice (some A) n c) ∧ w1.cell? ⟨P, 0, none⟩ = some (.pointer (some ⟨G, 0, none⟩)) ∧ w1.cell? ⟨G, 0, none⟩ = some (.pointer (some ⟨b, 0, none⟩))) := Lib.hid (by
    rintro w1 rfl
    have hd : Below (w.alloc (.cells #[.int .i64 p, .slice (some A) n c] 44)).heap.size (w.alloc (.cells #[.int .i64 p, .slice (some A) n c] 44)) (w.alloc (.cells #[.int .i64 p, .slice (some A) n c] 44)).drew := (Below.refl _ _).drew
    have k1 := ((Blk.new w #[.int .i64 p, .slice (some A) n c] 44).grew hd).cell 1
    have k2 := ((hP.alloc (.cells #[.int .i64 p, .slice (some A) n c] 44)).grew hd).cell 0
    have k3 := ((Blk.alloc hl (.cells #[.int .i64 p, .slice (some A) n c] 44)).grew hd).cell 0
    exact ⟨k1, k2, k3⟩)
  have HW : Hid (Below w.heap.size w (w.alloc (.cells #[.int .i64 p, .slice (some A) n c] 44)) ∧ DiskAt (w.alloc (.cells #[.int .i64 p, .slice (some A) n c] 44)) b m vl D) := Lib.hid ⟨grow_alloc (Below.refl _ w) _, h.alloc _⟩
  clear h hl hP hu hn
  have hD : (q : Bool) = ((n : Int) != lroom D.size) := by rw [hq]; by_cases e : (n : Int) = lroom D.size <;> simp [e]
  rw [hD]
  clear hq hD
  rw [show some A = some A from rfl]
  generalize some A = A at *
  go_enter Try.func63, Try.ntmps63
  go_wp2_with fail
  refine wp_region_H (fun v => v.cell? ⟨w.heap.size, 1, none⟩ = some (.slice A n c) ∧ v.cell? ⟨P, 0, none⟩ = some (.pointer (some ⟨G, 0, none⟩)) ∧ v.cell? ⟨G, 0, none⟩ = some (.pointer (some ⟨b, 0, none⟩))) (by kernel_rfl) (fun v0 hv0 => ?_)
  have hS0 : (fun v => v.cell? ⟨w.heap.size, 1, none⟩ = some (.slice A n c) ∧ v.cell? ⟨P, 0, none⟩ = some (.pointer (some ⟨G, 0, none⟩)) ∧ v.cell? ⟨G, 0, none⟩ = some (.pointer (some ⟨b, 0, none⟩))) v0 := by subst hv0; exact HC.out _ rfl
  have HBV : Hid (Below w.heap.size w v0 ∧ DiskAt v0 b m vl D) := Lib.hid (by subst hv0; exact ⟨HW.out.1.drew, HW.out.2.drew⟩)
  clear hv0
  refine wpH_take (i := 0) (v := ?_) rfl rfl (by kernel_rfl) (by kernel_rfl) (by kernel_rfl) (fun _ _ _ h => h) (Or.inl ⟨by rfl, ?_⟩) hS0 ?_
  rotate_left
  · (intro w_ hw_; go_simp; try with_reducible rfl)
  simp only [List.setIfInBounds_toArray, List.set_cons_zero, List.set_cons_succ]
  refine wpH_take (i := 1) (v := ?_) rfl rfl (by kernel_rfl) (by kernel_rfl) (by kernel_rfl) (fun _ _ _ h => h) (Or.inl ⟨by rfl, ?_⟩) hS0 ?_
  rotate_left
  · (intro w_ hw_; obtain ⟨q1, q2, q3⟩ := hw_; go_simp; try with_reducible rfl)
  simp only [List.setIfInBounds_toArray, List.set_cons_zero, List.set_cons_succ]
  refine wpH_take (i := 2) (v := ?_) rfl rfl (by kernel_rfl) (by kernel_rfl) (by kernel_rfl) (fun _ _ _ h => h) (Or.inl ⟨by rfl, ?_⟩) hS0 ?_
  rotate_left
  · (intro w_ hw_; obtain ⟨q1, q2, q3⟩ := hw_; go_simp; try with_reducible rfl)
  simp only [List.setIfInBounds_toArray, List.set_cons_zero, List.set_cons_succ]
  refine wpH_take (i := 3) (v := ?_) rfl rfl (by kernel_rfl) (by kernel_rfl) (by kernel_rfl) (fun _ _ _ h => h) (Or.inl ⟨by rfl, ?_⟩) hS0 ?_
  rotate_left
  · (intro w_ hw_; obtain ⟨q1, q2, q3⟩ := hw_; go_simp; try with_reducible rfl)
  simp only [List.setIfInBounds_toArray, List.set_cons_zero, List.set_cons_succ]
  refine wpH_take (i := 4) (v := ?_) rfl rfl (by kernel_rfl) (by kernel_rfl) (by kernel_rfl) (fun _ _ _ h => h) (Or.inl ⟨by rfl, ?_⟩) hS0 ?_
  rotate_left
  · (intro w_ hw_; obtain ⟨q1, q2, q3⟩ := hw_; go_simp; try with_reducible rfl)
  simp only [List.setIfInBounds_toArray, List.set_cons_zero, List.set_cons_succ]
  refine wpH_take (i := 5) (v := ?_) rfl rfl (by kernel_rfl) (by kernel_rfl) (by kernel_rfl) (fun _ _ _ h => h) (Or.inl ⟨by rfl, ?_⟩) hS0 ?_
  rotate_left
  · (intro w_ hw_; go_simp; try with_reducible rfl)
  simp only [List.setIfInBounds_toArray, List.set_cons_zero, List.set_cons_succ]
  refine wpH_take (i := 6) (v := ?_) rfl rfl (by kernel_rfl) (by kernel_rfl) (by kernel_rfl) (fun _ _ _ h => h) (Or.inl ⟨by rfl, ?_⟩) hS0 ?_
  rotate_left
  · (intro w_ hw_; go_simp; try with_reducible rfl)
  simp only [List.setIfInBounds_toArray, List.set_cons_zero, List.set_cons_succ]
  refine wpH_take (i := 7) (v := ?_) rfl rfl (by kernel_rfl) (by kernel_rfl) (by kernel_rfl) (fun _ _ _ h => h) (Or.inl ⟨by rfl, ?_⟩) hS0 ?_
  rotate_left
  · (intro w_ hw_; obtain ⟨q1, q2, q3⟩ := hw_; go_simp; try with_reducible rfl)
  simp only [List.setIfInBounds_toArray, List.set_cons_zero, List.set_cons_succ]
  refine wpH_call (i := 8) (by kernel_rfl) rfl rfl (by rfl) (Size_any HBV.out.2) (by go_simp) (fun w4 hR => ?_)
  have hS1 : (fun v => v.cell? ⟨w.heap.size, 1, none⟩ = some (.slice A n c) ∧ v.cell? ⟨P, 0, none⟩ = some (.pointer (some ⟨G, 0, none⟩)) ∧ v.cell? ⟨G, 0, none⟩ = some (.pointer (some ⟨b, 0, none⟩))) w4 := by subst hR; exact hS0
  clear hS0
  refine ⟨hS1, ?_⟩
  simp only [List.setIfInBounds_toArray, List.set_cons_zero, List.set_cons_succ]
  have HBV4 : Hid (Below w.heap.size w w4) := Lib.hid (by subst hR; exact HBV.out.1)
  clear hR HBV
  refine wpH_call (i := 9) (by kernel_rfl) rfl rfl (by rfl) (LRoom_any D.size w4) (by go_simp) (fun w5 hR => ?_)
  have hS2 : (fun v => v.cell? ⟨w.heap.size, 1, none⟩ = some (.slice A n c) ∧ v.cell? ⟨P, 0, none⟩ = some (.pointer (some ⟨G, 0, none⟩)) ∧ v.cell? ⟨G, 0, none⟩ = some (.pointer (some ⟨b, 0, none⟩))) w5 := by subst hR; exact hS1
  clear hS1
  refine ⟨hS2, ?_⟩
  simp only [List.setIfInBounds_toArray, List.set_cons_zero, List.set_cons_succ]
  have HBV5 : Hid (Below w.heap.size w w5) := Lib.hid (by subst hR; exact HBV4.out)
  clear hR HBV4
  refine wpH_take (i := 10) (v := ?_) rfl rfl (by kernel_rfl) (by kernel_rfl) (by kernel_rfl) (fun _ _ _ h => h) (Or.inl ⟨by rfl, ?_⟩) hS2 ?_
  rotate_left
  · (intro w_ hw_; go_simp; try with_reducible rfl)
  simp only [List.setIfInBounds_toArray, List.set_cons_zero, List.set_cons_succ]
  refine wpH_take (i := 11) (v := ?_) rfl rfl (by kernel_rfl) (by kernel_rfl) (by kernel_rfl) (fun _ _ _ h => h) (Or.inl ⟨by rfl, ?_⟩) hS2 ?_
  rotate_left
  · (intro w_ hw_; go_simp; try with_reducible rfl)
  simp only [List.setIfInBounds_toArray, List.set_cons_zero, List.set_cons_succ]
  clear hS2
  refine wpAnyH_done (by kernel_rfl) ?_ _
  go_wp2
  go_ret
  exact ⟨rfl, HBV5.out⟩
end
/-- Why a group can't be appended. -/
def rightE (D : Dsk) (L : Lg) (g : List (Int × List Nat)) : Int :=
  if L.dead then 21 else if (g.isEmpty || g.any badPage) then 1 else if g.any (badLen D.size) then 3 else if (L.count : Int) - L.next < g.length then 6 else 0
section
variable {b m : Nat} {vl : Value} {D : Dsk} {w : World} {G : Nat} {L : Lg}
set_option maxHeartbeats 2000000 in
theorem right_any (h : DiskAt w b m vl D) (hl : LogIn w G b L) (hok : L.Ok) (l : List (Int × List Nat)) (n c : Nat) (hn : l.length = n) (hnb : (n : Int) ≤ 1000000000) (A : Option Addr) (hc : Chg w (.slice A n c) l) :
    Calls Try.prog 39 #[.pointer (some ⟨G, 0, none⟩), .slice A n c] w fun e w' => e = .returned (.int .i64 (rightE D L l)) ∧ Below w.heap.size w w' := by
  obtain ⟨E, hE⟩ : ∃ E, E = rightE D L l := ⟨_, rfl⟩
  rw [← hE]
  unfold rightE at hE
  have HB0 : Hid (Below w.heap.size w (w.alloc (.cells #[.pointer (some ⟨G, 0, none⟩)] 28))) := Lib.hid (grow_alloc (Below.refl _ w) _)
  have hl2 := hl.grew HB0.out
  have hd := hl2.six.2.2.2.2.2
  have HL : Hid (LogIn (w.alloc (.cells #[.pointer (some ⟨G, 0, none⟩)] 28)) G b L) := Lib.hid hl2
  have HP : Hid (Blk (w.alloc (.cells #[.pointer (some ⟨G, 0, none⟩)] 28)) w.heap.size #[.pointer (some ⟨G, 0, none⟩)] 28) := Lib.hid (Blk.new _ _ _)
  have HD : Hid (DiskAt (w.alloc (.cells #[.pointer (some ⟨G, 0, none⟩)] 28)) b m vl D) := Lib.hid (h.alloc _)
  have HC : Hid (Chg (w.alloc (.cells #[.pointer (some ⟨G, 0, none⟩)] 28)) (.slice A n c) l) := Lib.hid (hc.grew HB0.out)
  have h1 := hok.c
  have h2 := hok.n
  have b1 : (L.count : Int) ≤ 1048576 := by omega
  have b2 : (L.next : Int) ≤ 1048576 := by omega
  have HOK := Lib.hid hok
  have HE := Lib.hid hE
  have HN := Lib.hid hn
  clear h hl hc hl2 hE h1 h2 hok hn
  cases hdd : L.dead with
  | true =>
    rw [hdd] at hd
    obtain rfl : E = 21 := by rw [HE.out, hdd]; rfl
    clear HE hdd HC HD HL HP
    go_enter Try.func39, Try.ntmps39
    go_wp2
    go_ret
    exact ⟨rfl, HB0.out⟩
  | false =>
    rw [hdd] at hd
    have HE1 := HE.out
    rw [hdd] at HE1
    simp only [Bool.false_eq_true, if_false] at HE1
    by_cases h0 : n = 0
    · obtain rfl : E = 1 := by rw [HE1, List.eq_nil_of_length_eq_zero (HN.out.trans h0)]; rfl
      clear HE HE1 hdd HC HD HL HP
      subst h0
      go_enter Try.func39, Try.ntmps39
      go_wp2
      go_ret
      exact ⟨rfl, HB0.out⟩
    · have hne : l.isEmpty = false := by have := HN.out; cases l <;> simp_all
      rw [hne, Bool.false_or] at HE1
      have h0' : ((n : Int) == 0) = false := by simp; omega
      have HQ1 := Lib.hid (fun w (hc : Chg w (.slice A n c) l) => ContainsCh_any l n c HN.out hnb A w hc 62 #[] (enters_of Try.func62 (by kernel_rfl) rfl) badPage (fun x _ W _ u _ => right1_any x u W))
      clear hne hdd HE
      cases hq1 : l.any badPage with
      | true =>
        rw [hq1] at HE1 HQ1
        simp only [if_true] at HE1
        subst HE1
        clear HD HL HP hq1
        go_enter Try.func39, Try.ntmps39
        go_wp2_with fail
        refine (HQ1.out _ HC.out).mono ?_
        rintro e w2 ⟨rfl, hb⟩
        have HB := Lib.hid (grow HB0.out hb)
        clear hb HQ1
        go_wp2
        go_ret
        exact ⟨rfl, HB.out⟩
      | false =>
        rw [hq1] at HE1 HQ1
        simp only [Bool.false_eq_true, if_false] at HE1
        have HQ2 := Lib.hid (fun w (hc : Chg w (.slice A n c) l) (hd : DiskAt w b m vl D) (hl : LogIn w G b L) P (hP : Blk w P #[.pointer (some ⟨G, 0, none⟩)] 28) =>
          ContainsCh_any l n c HN.out hnb A w hc 63 #[.pointer (some ⟨P, 0, none⟩)] (enters_of Try.func63 (by kernel_rfl) rfl) (badLen D.size) (fun x _ W hW u hu => right2_any x u hu P (hd.grew hW) (hl.grew hW) (hP.grew hW)))
        clear hq1
        cases hq2 : l.any (badLen D.size) with
        | true =>
          rw [hq2] at HE1 HQ2
          simp only [if_true] at HE1
          subst HE1
          clear hq2
          go_enter Try.func39, Try.ntmps39
          go_wp2_with fail
          refine (HQ1.out _ HC.out).mono ?_
          rintro e w2 ⟨rfl, hb⟩
          have HB := Lib.hid (grow HB0.out hb)
          have HQ3 := Lib.hid (HQ2.out w2 (HC.out.grew hb) (HD.out.grew hb) (HL.out.grew hb) w.heap.size (HP.out.grew hb))
          clear hb HQ1 HQ2 HC HD HL HP
          go_wp2_with fail
          refine HQ3.out.mono ?_
          rintro e w3 ⟨rfl, hb3⟩
          have HB3 := Lib.hid (grow HB.out hb3)
          clear hb3 HQ3
          go_wp2
          go_ret
          exact ⟨rfl, HB3.out⟩
        | false =>
          rw [hq2] at HE1 HQ2
          simp only [Bool.false_eq_true, if_false] at HE1
          rw [HN.out] at HE1
          have HE2 := Lib.hid HE1
          clear hq2 HE1
          go_enter Try.func39, Try.ntmps39
          go_wp2_with fail
          refine (HQ1.out _ HC.out).mono ?_
          rintro e w2 ⟨rfl, hb⟩
          have HB := Lib.hid (grow HB0.out hb)
          have HQ3 := Lib.hid (HQ2.out w2 (HC.out.grew hb) (HD.out.grew hb) (HL.out.grew hb) w.heap.size (HP.out.grew hb))
          have HL2 : Hid (LogIn w2 G b L) := Lib.hid (HL.out.grew hb)
          have HP2 := Lib.hid (HP.out.grew hb)
          clear hb HQ1 HQ2 HC HD HL HP
          go_wp2_with fail
          refine HQ3.out.mono ?_
          rintro e w3 ⟨rfl, hb3⟩
          have HB3 := Lib.hid (grow HB.out hb3)
          have hp3 := (HP2.out.grew hb3).cell 0
          have HLf := Lib.hid (Left_any (HL2.out.grew hb3) HOK.out)
          clear hb3 HQ3 HP2 HL2
          go_wp2_with fail
          refine HLf.out.mono ?_
          rintro e w4 ⟨rfl, hb4⟩
          have HB4 := Lib.hid (grow HB3.out hb4)
          clear hb4 HLf hp3
          by_cases hlt : (L.count : Int) - L.next < n
          · obtain rfl : E = 6 := by rw [HE2.out, if_pos hlt]
            go_wp2
            go_ret
            exact ⟨rfl, HB4.out⟩
          · obtain rfl : E = 0 := by rw [HE2.out, if_neg hlt]
            go_wp2
            go_ret
            exact ⟨rfl, HB4.out⟩
end
end Go.Proofs.Ytpomfokpmbblkaa
