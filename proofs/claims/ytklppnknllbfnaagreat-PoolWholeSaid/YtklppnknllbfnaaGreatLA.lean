/- Walks: the log's small functions: Room, may, mark, at. Walks: the log's numbers of 8 bytes; a log in memory: Start, Left, Dead. A row of changes in memory; slices.ContainsFunc over it and over bytes. Walks: Left; the tests of a group; why a group can't be appended. Printed by mk_l4.py. -/
import Derived.Test.YtklppnknllbfnaaGreatFr
import Derived.Test.YtklppnknllbfnaaGreatHeld
namespace Go.Proofs.YtklppnknllbfnaaGreat
open Go.RowKit Go.Maps
set_option maxRecDepth 8000
variable {ι : Type} [Bar ι]
def lroom (n : Int) : Int := max (room n - 9) 0
theorem room_le (n : Int) : 0 ≤ room n ∧ room n ≤ 4060 := by unfold room okSize; split <;> simp_all; omega
theorem LRoom_any (n : Int) (w : World) : Calls Tryz.prog 53 #[.int .i64 n] w fun e w' => e = .returned (.int .i64 (lroom n)) ∧ w' = w := by
 have h := room_le n
 have HR := Lib.hid (Room_any n w)
 unfold lroom
 generalize room n = r at *
 by_cases hr : 9 ≤ r
 ·have e1 : max (r - 9) 0 = r - 9 := by omega
  rw [e1]
  go_enter Tryz.func53, Tryz.ntmps53
  go_wp2_with fail
  refine HR.out.mono ?_
  rintro e w1 ⟨rfl, rfl⟩
  clear HR
  go_wp2
  go_ret
  exact ⟨rfl, rfl⟩
 ·have e1 : max (r - 9) 0 = 0 := by omega
  rw [e1]
  go_enter Tryz.func53, Tryz.ntmps53
  go_wp2_with fail
  refine HR.out.mono ?_
  rintro e w1 ⟨rfl, rfl⟩
  clear HR
  go_wp2
  go_ret
  exact ⟨rfl, rfl⟩
def okEp (e : Int) : Bool := decide (1 ≤ e ∧ e ≤ 1099511627776)
theorem lmay_any (e : Int) (w : World) : Calls Tryz.prog 85 #[.int .i64 e] w fun r w' => r = .returned (.bool (okEp e)) ∧ w' = w := by
 unfold okEp
 by_cases h1 : 1 ≤ e
 ·by_cases h2 : e ≤ 1099511627776
  ·rw [decide_eq_true ⟨h1, h2⟩]
   go_enter Tryz.func85, Tryz.ntmps85
   go_wp2
   go_ret
   exact ⟨rfl, rfl⟩
  ·rw [decide_eq_false (by omega)]
   go_enter Tryz.func85, Tryz.ntmps85
   go_wp2
   go_ret
   exact ⟨rfl, rfl⟩
 ·rw [decide_eq_false (by omega)]
  go_enter Tryz.func85, Tryz.ntmps85
  go_wp2
  go_ret
  exact ⟨rfl, rfl⟩
theorem mark_any (e : Int) (s : Int) (he : 1 ≤ e ∧ e ≤ 1099511627776) (hs : 0 ≤ s ∧ s ≤ 1048576) (w : World) : Calls Tryz.prog 100 #[.int .i64 e, .int .i64 s] w fun r w' => r = .returned (.int .i64 (e * 2097152 + s + 1)) ∧ w' = w := by
 go_enter Tryz.func100, Tryz.ntmps100
 go_wp2
 go_ret
 exact ⟨rfl, rfl⟩
/-- Where a log may stand. -/
def okAt (D : Dsk) (f c : Int) : Bool := decide (0 ≤ f ∧ 1 ≤ c ∧ c ≤ 1048576 ∧ f ≤ D.sectors - c)
section
variable {b m : Nat} {vl : Value} {D : Dsk} {w : World}
theorem at_ok (h : DiskAt w b m vl D) (f c : Int) (hk : okAt D f c = true) :
  Calls Tryz.prog 76 #[.pointer (some ⟨b, 0, none⟩), .int .i64 f, .int .i64 c] w fun e w' => e = .returned (.tuple #[.agg #[.pointer (some ⟨b, 0, none⟩), .int .i64 f, .int .i64 c], .int .i64 0]) ∧ Below w.heap.size w w' := by
 unfold okAt at hk
 obtain ⟨h0, h1, h2, h3⟩ := of_decide_eq_true hk
 have hs2 := h.ok.s2
 have HS := Lib.hid (Sectors_any (h.alloc (.cells #[.pointer none, .int .i64 0, .int .i64 0] 116)))
 clear hk h
 go_enter Tryz.func76, Tryz.ntmps76
 go_wp2_with fail
 refine HS.out.mono ?_
 rintro e w1 ⟨rfl, rfl⟩
 clear HS
 go_wp2
 refine bodyPost_ret (v := .tuple #[.agg #[.pointer (some ⟨b, 0, none⟩), .int .i64 f, .int .i64 c], .int .i64 0]) ?_ rfl ⟨rfl, ?_⟩
 ·simp [results, Tryz.results76, go_sem]
 ·go_grown
end
end Go.Proofs.YtklppnknllbfnaaGreat
namespace Go.Proofs.YtklppnknllbfnaaGreat
open Go.RowKit Go.Maps
set_option maxRecDepth 8000
variable {ι : Type} [Bar ι]
theorem or_join64 (X b k : Nat) (hk : k < 8) (hX : X < 2 ^ (8 * k)) (hb : b < 256) :
  bits .or .u64 (X : Int) ((b * 2 ^ (8 * k) : Nat) : Int) = ((X + b * 2 ^ (8 * k) : Nat) : Int) := by
 have hs : b * 2 ^ (8 * k) + X < 18446744073709551616 := by
  have h1 : (b + 1) * 2 ^ (8 * k) ≤ 256 * 2 ^ (8 * k) := Nat.mul_le_mul_right _ (by omega)
  have h2 : 256 * 2 ^ (8 * k) ≤ 2 ^ 64 := by
   rw [show (256 : Nat) = 2 ^ 8 from rfl, ← Nat.pow_add]
   exact Nat.pow_le_pow_right (by omega) (by omega)
  rw [Nat.add_mul, Nat.one_mul] at h1
  omega
 rw [u64_or_nat _ _ (by omega) (by omega), Nat.or_comm, Nat.mul_comm b, ← Nat.two_pow_add_eq_or_of_lt hX, Nat.add_comm]
theorem small64 (b k : Nat) (hk : k < 8) (hb : b < 256) : (b : Int) * 2 ^ (8 * k) % 18446744073709551616 = ((b * 2 ^ (8 * k) : Nat) : Int) := by
 have hs : b * 2 ^ (8 * k) < 18446744073709551616 := by
  have h1 : (b + 1) * 2 ^ (8 * k) ≤ 256 * 2 ^ (8 * k) := Nat.mul_le_mul_right _ (by omega)
  have h2 : 256 * 2 ^ (8 * k) ≤ 2 ^ 64 := by
   rw [show (256 : Nat) = 2 ^ 8 from rfl, ← Nat.pow_add]
   exact Nat.pow_le_pow_right (by omega) (by omega)
  have h3 : 0 < 2 ^ (8 * k) := Nat.pow_pos (by omega)
  rw [Nat.add_mul, Nat.one_mul] at h1
  omega
 have e : (b : Int) * 2 ^ (8 * k) = ((b * 2 ^ (8 * k) : Nat) : Int) := by rw [Int.natCast_mul, Int.natCast_pow]; rfl
 rw [e]
 omega
set_option maxHeartbeats 1000000 in
theorem number64_any (p : Addr) (l : List Nat) (n c : Nat) (w : World) (hn : l.length = n) (hr : Rd w w.heap.size (some p) l) (hl : (8 : Int) ≤ n) :
  Calls Tryz.prog 107 #[.slice (some p) n c] w fun e w' => e = .returned (.int .u64 (num (l.take 8))) ∧ w = w' := by
 have HR := Lib.hid hr
 clear hr
 go_enter Tryz.func107, Tryz.ntmps107
 go_wp2
 go_loop [3, 5] (fun x i => ∃ k : Nat, k ≤ 8 ∧ i = .int .i64 k ∧ x = .int .u64 (num (l.take k))) (fun _ i => 8 - (intOf i).toNat)
 case atStart => exact ⟨0, by omega, rfl, val_int (by rw [List.take_zero]; rfl)⟩
 case round =>
  obtain ⟨k, hk, rfl, rfl⟩ := hrel
  by_cases hlt : k < 8
  ·obtain ⟨q, e, _, hc, hb⟩ := HR.out.get (show k < l.length by omega)
   cases e
   have hj := or_join64 (num (l.take k)) l[k] k hlt (num_take_lt l k (by omega) HR.out.1) hb
   rw [← num_take l k (by omega)] at hj
   rw [← small64 l[k] k hlt hb] at hj
   have HJ := Lib.hid hj
   clear hj
   generalize l[k] = b at *
   generalize ((num (l.take k) : Nat) : Int) = x at *
   go_wp2
   go_round
   case rel => exact ⟨k + 1, by omega, by simp, val_int HJ.out⟩
   case measure => simp [intOf]; omega
  ·obtain rfl : k = 8 := by omega
   go_wp2
   go_ret
   exact ⟨rfl, rfl⟩
set_option maxHeartbeats 2000000 in
theorem add64_any (w : World) (base : Nat) (v : Value) (l : List Nat) (n : Int) (h : Own w base v l) (hbase : base ≤ w.heap.size) (hn : l.length ≤ 900000) :
  Calls Tryz.prog 114 #[v, .int .u64 n] w fun e w' => ∃ v', e = .returned v' ∧ Own w' base v' (l ++ lebZ n 8) ∧ Below base w w' := by
 have H := Lib.hid h
 clear h
 go_enter Tryz.func114, Tryz.ntmps114
 go_wp2
 go_loopw [0, 6] (fun x i wr => ∃ k : Nat, k ≤ 8 ∧ i = .int .i64 k ∧ Hid (Own wr base x (l ++ lebZ n k)) ∧ Hid (Below base w wr)) (fun _ i _ => 8 - (intOf i).toNat)
 case atStart => exact ⟨0, by omega, rfl, Lib.hid (by simpa [lebZ] using H.out), Lib.hid (Below.refl _ _)⟩
 case round =>
  obtain ⟨k, hk, rfl, HO, HB⟩ := hrel
  by_cases hlt : k < 8
  ·have hq0 : 0 ≤ n / 2 ^ (8 * k) % 256 := Int.emod_nonneg _ (by omega)
   have hq1 : n / 2 ^ (8 * k) % 256 < 256 := Int.emod_lt_of_pos _ (by omega)
   obtain ⟨v', w', hrun, ho, hb⟩ := run_push 31 HO.out (n / 2 ^ (8 * k) % 256) hq0 hq1 (Nat.le_trans hbase HB.out.size) (by simp; omega)
   have HRUN := Lib.hid hrun
   have HO' := Lib.hid ho
   have HB' := Lib.hid (HB.out.trans hb)
   clear hrun ho hb
   go_wp2_with (at_builtin; refine Lib.wpList_append_run _ rfl (.tmp 9) (.tmp 15) 31 31 rfl _ _ rfl rfl v' w' HRUN.out ?_)
   go_round
   case rel => exact ⟨k + 1, by omega, by simp, Lib.hid (by rw [lebZ_succ, ← List.append_assoc]; exact HO'.out), HB'⟩
   case measure => simp [intOf]; omega
  ·obtain rfl : k = 8 := by omega
   go_wp2
   go_ret
   exact ⟨_, rfl, HO.out, HB.out⟩
/-! ### a log -/
structure Lg where
 first : Nat
 count : Nat
 epoch : Nat
 next : Nat
 dead : Bool
structure Lg.Ok (L : Lg) : Prop where
 f : L.first ≤ 1048576
 c : L.count ≤ 1048576
 e : 1 ≤ L.epoch ∧ L.epoch ≤ 1099511627776
 n : L.next ≤ L.count
/-- The log in block G, on the disk in block b. -/
def LogIn (w : World) (G b : Nat) (L : Lg) : Prop := Blk w G #[.pointer (some ⟨b, 0, none⟩), .int .i64 L.first, .int .i64 L.count, .int .i64 L.epoch, .int .i64 L.next, .bool L.dead] 136
theorem LogIn.six {w : World} {G b : Nat} {L : Lg} (h : LogIn w G b L) : w.cell? ⟨G, 0, none⟩ = some (.pointer (some ⟨b, 0, none⟩)) ∧ w.cell? ⟨G, 1, none⟩ = some (.int .i64 L.first) ∧ w.cell? ⟨G, 2, none⟩ = some (.int .i64 L.count) ∧
  w.cell? ⟨G, 3, none⟩ = some (.int .i64 L.epoch) ∧ w.cell? ⟨G, 4, none⟩ = some (.int .i64 L.next) ∧ w.cell? ⟨G, 5, none⟩ = some (.bool L.dead) :=
 ⟨h.cell 0, h.cell 1, h.cell 2, h.cell 3, h.cell 4, h.cell 5⟩
section
variable {b m : Nat} {vl : Value} {D : Dsk} {w : World}
theorem Start_ok (h : DiskAt w b m vl D) (f c e : Nat) (hk : okAt D f c = true) (he : okEp e = true) :
  Calls Tryz.prog 81 #[.pointer (some ⟨b, 0, none⟩), .int .i64 f, .int .i64 c, .int .i64 e] w fun r w' => ∃ G, r = .returned (.tuple #[.pointer (some ⟨G, 0, none⟩), .int .i64 0]) ∧ LogIn w' G b ⟨f, c, e, 0, false⟩ ∧ w.heap.size ≤ G ∧ Below w.heap.size w w' := by
 have HA := Lib.hid (at_ok h f c hk)
 have HM := Lib.hid (fun w => lmay_any e w)
 rw [he] at HM
 clear h hk he
 go_enter Tryz.func81, Tryz.ntmps81
 go_wp2_with fail
 refine HA.out.mono ?_
 rintro r w1 ⟨rfl, hb⟩
 have HB := Lib.hid (grow_alloc hb (.cells #[.pointer (some ⟨b, 0, none⟩), .int .i64 f, .int .i64 c] 116))
 clear hb HA
 go_wp2_with fail
 refine (HM.out _).mono ?_
 rintro r w2 ⟨rfl, rfl⟩
 go_wp2
 go_ret2
 exact ⟨_, rfl, Blk.new' _ _ _ (by simp), by have := HB.out.size; simp at this; omega, grow_alloc HB.out _⟩
end
end Go.Proofs.YtklppnknllbfnaaGreat
namespace Go.Proofs.YtklppnknllbfnaaGreat
open Go.RowKit Go.Maps
set_option maxRecDepth 8000
/-- The slice vl is a row of these changes. -/
def Chg (w : World) (vl : Value) (L : List (Int × List Nat)) : Prop :=
 ∃ vs : List (Int × Value), vs.length = L.length ∧ w.ownsRow 0 94 2 vl L.length (wcells vs) ∧ ∀ k (h : k < L.length), ∃ v, vs[k]? = some (L[k].1, v) ∧ Byt w v L[k].2
section
variable {T : List Nat} {w w' : World} {vl : Value} {L : List (Int × List Nat)}
theorem Chg.nil (w : World) : Chg w nilv [] := ⟨[], rfl, World.ownsRow_nil _ _ _ _, fun k h => absurd h (by simp)⟩
theorem Chg.lt (h : Chg w vl L) {g : Nat} (hg : vl.ownBlock = some g) : g < w.heap.size := by
 obtain ⟨vs, _, ho, _⟩ := h
 exact (ho.lt g hg).2
theorem Chg.kind (h : Chg w vl L) {g : Nat} (hg : vl.ownBlock = some g) : ∃ cs, w.heap[g]? = some (.cells cs 94 (0, 0)) := by
 obtain ⟨vs, _, ho, _⟩ := h
 rcases ho.2 with ⟨rfl, _⟩ | ⟨g', cap, cur, rfl, _, hh, _⟩
 ·simp [Value.ownBlock] at hg
 ·simp [Value.ownBlock] at hg; subst hg; exact ⟨_, hh⟩
theorem Chg.turn (h : Chg w vl L) (k : Turn T w w') (hn : NoBytes w T) (hg : ∀ g, vl.ownBlock = some g → g ∉ T) : Chg w' vl L := by
 obtain ⟨vs, h1, ho, h2⟩ := h
 refine ⟨vs, h1, ?_, fun j hj => ?_⟩
 ·refine ⟨ho.1, ?_⟩
  rcases ho.2 with h | ⟨g, cap, cur, rfl, hb, hh, r⟩
  ·exact .inl h
  ·exact .inr ⟨g, cap, cur, rfl, hb, (k.block g (lt_of_block hh) (hg g rfl)).trans hh, r⟩
 ·obtain ⟨v, e, hb⟩ := h2 j hj
  exact ⟨v, e, hb.turn k hn⟩
theorem Chg.form (h : Chg w vl L) : ∃ A c, vl = .slice A L.length c ∧ L.length ≤ c ∧ ∀ k (hk : k < L.length), ∃ p v, A = some p ∧ p.block < w.heap.size ∧ w.cell? (p.add (k * 2)) = some (.int .i64 L[k].1) ∧ w.cell? ((p.add (k * 2)).add 1) = some v ∧ Byt w v L[k].2 := by
 obtain ⟨vs, h1, ho, h2⟩ := h
 have aa : ∀ (p : Addr) (j i : Nat), (p.add j).add i = p.add (j + i) := by
  intro p j i
  unfold Addr.add
  by_cases h1 : j = 0
  ·subst h1; simp
  ·by_cases h2 : i = 0
   ·subst h2; simp
   ·simp [h1, h2]; omega
 rcases ho.2 with ⟨rfl, h0⟩ | ⟨g, cap, cur, rfl, hb, hh, hnc, _⟩
 ·exact ⟨none, 0, by rw [h0], by omega, fun k hk => absurd hk (by omega)⟩
 ·refine ⟨_, _, rfl, hnc, fun k hk => ?_⟩
  obtain ⟨v, e, hv⟩ := h2 k hk
  have := wcells_get e
  exact ⟨_, v, rfl, lt_of_block hh, World.ownsRow.cells ho (g := g) rfl _ _ this.1, by rw [aa]; exact World.ownsRow.cells ho (g := g) rfl _ _ this.2, hv⟩
end
theorem chg_row : (Tryz.prog.info? 94).map (fun i => (i.zero, i.size, i.bytes)) = some (some (.agg #[.int .i64 0, nilv]), 2, 32) := by kernel_rfl
/-- 'append(out, c)', x in a block of its own. -/
theorem Chg.append {w : World} {vl : Value} {L : List (Int × List Nat)} (h : Chg w vl L) (hn : L.length ≤ 1000000000) {g : Nat} {x : Int} {v : Value} {l : List Nat} (hg : Blk w g #[.int .i64 x, v] 94) (hv : Byt w v l) :
  ∃ v' w', (Builtin.append_ #[92, 92] 92 #[vl, .slice (some ⟨g, 0, none⟩) 1 1]).run Tryz.prog w = .ok v' w' ∧ Chg w' v' (L ++ [(x, l)]) ∧ Chg w' vl L ∧ w.grownBy w' vl.ownBlock ∧ (v'.ownBlock = vl.ownBlock ∨ v'.ownBlock = some w.heap.size) := by
 obtain ⟨i, hi, hz, hs, hby⟩ := info_parts chg_row
 obtain ⟨vs, h1, ho, h2⟩ := id h
 have hc := hg.two
 obtain ⟨p, cc, rfl, hlc, hkb, hcl⟩ := hv.2
 obtain ⟨v', w', hrun, ho', hgr, hloc, hold⟩ := run_append_keeps (P := Tryz.prog) w 0 92 92 94 i _ 2 32 Tryz.underlying92 hi hz hs hby rfl (by omega) vl L.length (wcells vs) ho ⟨g, 0, none⟩ 1 1 [.int .i64 x, .slice (some p) l.length cc] rfl
  (fun j u hu => by
   match j, hu with
   | 0, hu => simp at hu; subst hu; exact hc.1
   | 1, hu => simp at hu; subst hu; exact hc.2.1) (by intro u hu; simp at hu; rcases hu with rfl | rfl <;> rfl) (by simp only [maxLen]; omega) (by omega) (Nat.zero_le _)
 have ht : Turn vl.ownBlock.toList w w' := (Turn.refl _ w).grown hgr (fun k e => .inl (by simp [e]))
 have hnb : NoBytes w vl.ownBlock.toList := by
  intro k hk cs fz e
  obtain ⟨cs', e'⟩ := h.kind (g := k) (by simpa using hk)
  rw [e'] at e; cases e
 refine ⟨v', w', hrun, ⟨vs ++ [(x, .slice (some p) l.length cc)], by simp [h1], ?_, fun k hk => ?_⟩, ⟨vs, h1, hold, fun k hk => ?_⟩, hgr, hloc⟩
 ·have e : wcells (vs ++ [(x, .slice (some p) l.length cc)]) = wcells vs ++ [.int .i64 x, .slice (some p) l.length cc] := by simp [wcells]
  rw [e, List.length_append]; exact ho'
 ·by_cases hlt : k < L.length
  ·obtain ⟨u, e, hu⟩ := h2 k hlt
   refine ⟨u, ?_, ?_⟩
   ·rw [List.getElem?_append_left (by omega), List.getElem_append_left hlt]; exact e
   ·rw [List.getElem_append_left hlt]; exact hu.turn ht hnb
  ·have ek : k = L.length := by simp at hk; omega
   subst ek
   refine ⟨.slice (some p) l.length cc, ?_, ?_⟩
   ·rw [List.getElem?_append_right (by omega), h1]; simp
   ·simpa using hv.turn ht hnb
 ·obtain ⟨u, e, hu⟩ := h2 k hk
  exact ⟨u, e, hu.turn ht hnb⟩
theorem Chg.at_ {w : World} {vl : Value} {L : List (Int × List Nat)} (h : Chg w vl L) (k : Nat) (hk : k < L.length) :
  ∃ g c p z d, vl = .slice (some ⟨g, 0, none⟩) L.length c ∧ L.length ≤ c ∧ w.cell? ⟨g, k * 2, none⟩ = some (.int .i64 L[k].1) ∧ w.cell? ⟨g, k * 2 + 1, none⟩ = some (.slice (some p) z d) ∧ Byt w (.slice (some p) z d) L[k].2 ∧ z = L[k].2.length := by
 obtain ⟨vs, h1, ho, h2⟩ := h
 obtain ⟨v, e, hb⟩ := h2 k hk
 obtain ⟨p, d, ev, _, _⟩ := hb.rd
 have := wcells_get e
 rcases ho.2 with ⟨rfl, h0⟩ | ⟨g, cap, cur, rfl, hb', hh, hnc, _⟩
 ·omega
 ·have q0 := World.ownsRow.cells ho (g := g) rfl _ _ this.1
  have q1 := World.ownsRow.cells ho (g := g) rfl _ _ this.2
  rw [addr_add] at q0 q1
  dsimp only at q1
  exact ⟨g, cap, p, _, d, rfl, hnc, q0, ev ▸ q1, ev ▸ hb, rfl⟩
theorem Chg.grew {w w' : World} {vl : Value} {L : List (Int × List Nat)} (h : Chg w vl L) (k : Below w.heap.size w w') : Chg w' vl L :=
 h.turn (Turn.of_below k []) (by intro _ h; simp at h) (by simp)
set_option maxHeartbeats 2000000 in
/-- slices.IndexFunc over a row of changes. -/
theorem IndexCh_any (l : List (Int × List Nat)) (n c : Nat) (hn : l.length = n) (hnb : (n : Int) ≤ 1000000000) (A : Option Addr) (w : World) (h : Chg w (.slice A n c) l) (g : Nat) (caps : Array Value)
  (eg : ∀ args w, (callFunc g args).run Tryz.prog w = .ok (.enter g args) w) (q : Int × List Nat → Bool)
  (hq : ∀ x ∈ l, ∀ W, Below w.heap.size w W → ∀ u, Byt W u x.2 → Calls Tryz.prog g (#[.agg #[.int .i64 x.1, u]] ++ caps) W fun e W' => e = .returned (.bool (q x)) ∧ Below W.heap.size W W') :
  Calls Tryz.prog 132 #[.slice A n c, .func (.func g) #[] caps] w fun e w' => (∃ r : Int, e = .returned (.int .i64 r) ∧ -1 ≤ r ∧ decide (0 ≤ r) = l.any q) ∧ Below w.heap.size w w' := by
 have HQ := Lib.hid hq
 have HC := Lib.hid h
 have HN := Lib.hid hn
 have hb0 := Lib.hid (Below.refl w.heap.size w)
 clear hq h hn
 go_enter Tryz.func132, Tryz.ntmps132
 go_wp2
 go_loopw [8] (fun iv wr => ∃ k : Nat, k ≤ n ∧ iv = .int .i64 k ∧ Hid (Below w.heap.size w wr) ∧ Hid ((l.take k).any q = false)) (fun iv _ => n - (intOf iv).toNat)
 case atStart => exact ⟨0, by omega, rfl, hb0, Lib.hid rfl⟩
 case round =>
  obtain ⟨k, hk, rfl, HB, HT⟩ := hrel
  by_cases hlt : k < n
  ·have hkl : k < l.length := by rw [HN.out]; exact hlt
   have hlt' : (k : Int) < n := by omega
   obtain ⟨G, c', p, z, d, e, _, c0, c1, hby, hzz⟩ := (HC.out.grew HB.out).at_ k hkl
   injection e with e1 e2 e3
   subst e1
   have hcall := HQ.out l[k] (List.getElem_mem hkl) wr HB.out _ hby
   have HX : Hid (l.take (k + 1) = l.take k ++ [l[k]]) := Lib.hid (by rw [List.take_add_one, List.getElem?_eq_getElem hkl]; rfl)
   have HY : Hid (q l[k] = true → l.any q = true) := Lib.hid (fun h => List.any_eq_true.2 ⟨l[k], List.getElem_mem hkl, h⟩)
   have HP := Lib.hid hcall
   clear hcall hby e2 e3 hzz
   generalize l[k].1 = pg at *
   cases hqk : q l[k] with
   | true =>
    have hany := HY.out hqk
    rw [hqk] at HP
    have HA := Lib.hid hany
    clear hany hqk HY HX HT
    go_wp2_with fail
    refine HP.out.mono ?_
    rintro e w2 ⟨rfl, hb2⟩
    have HB2 := Lib.hid (grow HB.out hb2)
    clear hb2 HP
    go_wp2
    go_ret
    exact ⟨⟨k, rfl, by omega, by rw [HA.out]; simp⟩, HB2.out⟩
   | false =>
    rw [hqk] at HP
    have HT2 : Hid ((l.take (k + 1)).any q = false) := Lib.hid (by rw [HX.out, List.any_append, HT.out]; simp [hqk])
    clear hqk HY HX HT
    go_wp2_with fail
    refine HP.out.mono ?_
    rintro e w2 ⟨rfl, hb2⟩
    have HB2 := Lib.hid (grow HB.out hb2)
    clear hb2 HP
    go_wp2
    go_roundw
    case rel => exact ⟨k + 1, by omega, by go_num, HB2, HT2⟩
    case measure => simp [intOf]; omega
  ·have hlt' : ¬ (k : Int) < n := by omega
   have HA : Hid (l.any q = false) := Lib.hid (by have := HT.out; rw [List.take_of_length_le (by have := HN.out; omega)] at this; exact this)
   clear HT
   go_wp2
   go_ret
   exact ⟨⟨-1, rfl, by omega, by rw [HA.out]; rfl⟩, HB.out⟩
theorem ContainsCh_any (l : List (Int × List Nat)) (n c : Nat) (hn : l.length = n) (hnb : (n : Int) ≤ 1000000000) (A : Option Addr) (w : World) (h : Chg w (.slice A n c) l) (g : Nat) (caps : Array Value)
  (eg : ∀ args w, (callFunc g args).run Tryz.prog w = .ok (.enter g args) w) (q : Int × List Nat → Bool)
  (hq : ∀ x ∈ l, ∀ W, Below w.heap.size w W → ∀ u, Byt W u x.2 → Calls Tryz.prog g (#[.agg #[.int .i64 x.1, u]] ++ caps) W fun e W' => e = .returned (.bool (q x)) ∧ Below W.heap.size W W') :
  Calls Tryz.prog 111 #[.slice A n c, .func (.func g) #[] caps] w fun e w' => e = .returned (.bool (l.any q)) ∧ Below w.heap.size w w' := by
 have HI := Lib.hid (IndexCh_any l n c hn hnb A w h g caps eg q hq)
 clear h hq
 generalize l.any q = Q at *
 go_enter Tryz.func111, Tryz.ntmps111
 go_wp2_with fail
 refine HI.out.mono ?_
 rintro e w2 ⟨⟨r, rfl, h1, h2⟩, hb⟩
 have HB := Lib.hid hb
 clear hb HI
 go_wp2
 go_ret
 exact ⟨rfl, HB.out⟩
end Go.Proofs.YtklppnknllbfnaaGreat
namespace Go.Proofs.YtklppnknllbfnaaGreat
open Go.RowKit Go.Maps
set_option maxRecDepth 8000
variable {ι : Type} [Bar ι]
section
variable {b m : Nat} {vl : Value} {D : Dsk} {w : World} {G : Nat} {L : Lg}
theorem LogIn.grew {w w' : World} {G b : Nat} {L : Lg} (h : LogIn w G b L) (k : Below w.heap.size w w') : LogIn w' G b L := Blk.grew h k
theorem Left_any (h : LogIn w G b L) (hok : L.Ok) : Calls Tryz.prog 65 #[.pointer (some ⟨G, 0, none⟩)] w fun r w' => r = .returned (.int .i64 ((L.count : Int) - L.next)) ∧ Below w.heap.size w w' := by
 have h1 := hok.c
 have h2 := hok.n
 have HC := Lib.hid (And.intro h.six.2.2.1 h.six.2.2.2.2.1)
 have b1 : (L.count : Int) ≤ 1048576 := by omega
 have b2 : (L.next : Int) ≤ 1048576 := by omega
 clear h hok h1 h2
 go_enter Tryz.func65, Tryz.ntmps65
 go_wp2_with fail
 refine wp_region_H (fun v => v.cell? ⟨G, 2, none⟩ = some (.int .i64 L.count) ∧ v.cell? ⟨G, 4, none⟩ = some (.int .i64 L.next)) (by kernel_rfl) (fun v0 hv0 => ?_)
 have hS0 : (fun v => v.cell? ⟨G, 2, none⟩ = some (.int .i64 L.count) ∧ v.cell? ⟨G, 4, none⟩ = some (.int .i64 L.next)) v0 := by subst hv0; exact ⟨HC.out.1, HC.out.2⟩
 have HBV : Hid (Below w.heap.size w v0) := Lib.hid (by subst hv0; exact (Below.refl _ _).drew)
 clear hv0
 refine wpH_t 0 ?_ rfl rfl (by kernel_rfl) (fun _ _ _ h => h) rfl ?_ hS0 ?_
 rotate_left
 ·(intro w_ hw_; go_simp; try with_reducible rfl)
 simp only [sL]
 refine wpH_t 1 ?_ rfl rfl (by kernel_rfl) (fun _ _ _ h => h) rfl ?_ hS0 ?_
 rotate_left
 ·(intro w_ hw_; obtain ⟨q1, q2⟩ := hw_; go_simp; try with_reducible rfl)
 simp only [sL]
 refine wpH_t 2 ?_ rfl rfl (by kernel_rfl) (fun _ _ _ h => h) rfl ?_ hS0 ?_
 rotate_left
 ·(intro w_ hw_; go_simp; try with_reducible rfl)
 simp only [sL]
 refine wpH_t 3 ?_ rfl rfl (by kernel_rfl) (fun _ _ _ h => h) rfl ?_ hS0 ?_
 rotate_left
 ·(intro w_ hw_; go_simp; try with_reducible rfl)
 simp only [sL]
 refine wpH_t 4 ?_ rfl rfl (by kernel_rfl) (fun _ _ _ h => h) rfl ?_ hS0 ?_
 rotate_left
 ·(intro w_ hw_; obtain ⟨q1, q2⟩ := hw_; go_simp; try with_reducible rfl)
 simp only [sL]
 refine wpH_t 5 ?_ rfl rfl (by kernel_rfl) (fun _ _ _ h => h) rfl ?_ hS0 ?_
 rotate_left
 ·(intro w_ hw_; go_simp; try with_reducible rfl)
 simp only [sL]
 refine wpH_t 6 ?_ rfl rfl (by kernel_rfl) (fun _ _ _ h => h) rfl ?_ hS0 ?_
 rotate_left
 ·(intro w_ hw_; obtain ⟨q1, q2⟩ := hw_; go_simp; try with_reducible rfl)
 simp only [sL]
 refine wpH_t 7 ?_ rfl rfl (by kernel_rfl) (fun _ _ _ h => h) rfl ?_ hS0 ?_
 rotate_left
 ·(intro w_ hw_; go_simp; try with_reducible rfl)
 simp only [sL]
 refine wpH_t 8 ?_ rfl rfl (by kernel_rfl) (fun _ _ _ h => h) rfl ?_ hS0 ?_
 rotate_left
 ·(intro w_ hw_; obtain ⟨q1, q2⟩ := hw_; go_simp; try with_reducible rfl)
 simp only [sL]
 refine wpH_t 9 ?_ rfl rfl (by kernel_rfl) (fun _ _ _ h => h) rfl ?_ hS0 ?_
 rotate_left
 ·(intro w_ hw_; go_simp; try with_reducible rfl)
 simp only [sL]
 refine wpH_t 10 ?_ rfl rfl (by kernel_rfl) (fun _ _ _ h => h) rfl ?_ hS0 ?_
 rotate_left
 ·(intro w_ hw_; go_simp; try with_reducible rfl)
 simp only [sL]
 clear hS0
 refine wpAnyH_done (by kernel_rfl) ?_ _
 have hwr : IntKind.i64.wrap ((L.count : Int) - L.next) = (L.count : Int) - L.next := by rw [IntKind.wrap_i64]; omega
 rw [hwr]
 go_wp2
 go_ret
 exact ⟨rfl, HBV.out⟩
def badPage (c : Int × List Nat) : Bool := decide (c.1 < 0 ∨ 2147483647 < c.1)
def badLen (z : Int) (c : Int × List Nat) : Bool := decide ((c.2.length : Int) ≠ lroom z)
theorem right1_any (x : Int × List Nat) (u : Value) (w : World) : Calls Tryz.prog 112 #[.agg #[.int .i64 x.1, u]] w fun e w' => e = .returned (.bool (badPage x)) ∧ Below w.heap.size w w' := by
 unfold badPage
 generalize x.1 = p
 have HB := Lib.hid (grow_alloc (Below.refl w.heap.size w) (.cells #[.int .i64 p, u] 94))
 by_cases h1 : p < 0
 ·rw [decide_eq_true (Or.inl h1)]
  go_enter Tryz.func112, Tryz.ntmps112
  go_wp2
  go_ret
  exact ⟨rfl, HB.out⟩
 ·by_cases h2 : 2147483647 < p
  ·rw [decide_eq_true (Or.inr h2)]
   go_enter Tryz.func112, Tryz.ntmps112
   go_wp2
   go_ret
   exact ⟨rfl, HB.out⟩
  ·rw [decide_eq_false (by omega)]
   go_enter Tryz.func112, Tryz.ntmps112
   go_wp2
   go_ret
   exact ⟨rfl, HB.out⟩
set_option maxHeartbeats 2000000 in
theorem right2_any (x : Int × List Nat) (u : Value) (hu : Byt w u x.2) (P : Nat) (h : DiskAt w b m vl D) (hl : LogIn w G b L) (hP : Blk w P #[.pointer (some ⟨G, 0, none⟩)] 82) :
  Calls Tryz.prog 113 #[.agg #[.int .i64 x.1, u], .pointer (some ⟨P, 0, none⟩)] w fun e w' => e = .returned (.bool (badLen D.size x)) ∧ Below w.heap.size w w' := by
 obtain ⟨A, c, rfl, _, _⟩ := hu.rd
 obtain ⟨q, hq⟩ : ∃ q, q = badLen D.size x := ⟨_, rfl⟩
 rw [← hq]
 unfold badLen at hq
 obtain ⟨n, hn⟩ : ∃ n, n = x.2.length := ⟨_, rfl⟩
 rw [← hn] at hq ⊢
 generalize x.1 = p at *
 have HC : Hid (∀ w1, w1 = (w.alloc (.cells #[.int .i64 p, .slice (some A) n c] 94)).drew → w1.cell? ⟨w.heap.size, 1, none⟩ = some (.slice (some A) n c) ∧ w1.cell? ⟨P, 0, none⟩ = some (.pointer (some ⟨G, 0, none⟩)) ∧ w1.cell? ⟨G, 0, none⟩ = some (.pointer (some ⟨b, 0, none⟩))) := Lib.hid (by
  rintro w1 rfl
  have hd : Below (w.alloc (.cells #[.int .i64 p, .slice (some A) n c] 94)).heap.size (w.alloc (.cells #[.int .i64 p, .slice (some A) n c] 94)) (w.alloc (.cells #[.int .i64 p, .slice (some A) n c] 94)).drew := (Below.refl _ _).drew
  have k1 := ((Blk.new w #[.int .i64 p, .slice (some A) n c] 94).grew hd).cell 1
  have k2 := ((hP.alloc (.cells #[.int .i64 p, .slice (some A) n c] 94)).grew hd).cell 0
  have k3 := ((Blk.alloc hl (.cells #[.int .i64 p, .slice (some A) n c] 94)).grew hd).cell 0
  exact ⟨k1, k2, k3⟩)
 have HW : Hid (Below w.heap.size w (w.alloc (.cells #[.int .i64 p, .slice (some A) n c] 94)) ∧ DiskAt (w.alloc (.cells #[.int .i64 p, .slice (some A) n c] 94)) b m vl D) := Lib.hid ⟨grow_alloc (Below.refl _ w) _, h.alloc _⟩
 clear h hl hP hu hn
 have hD : (q : Bool) = ((n : Int) != lroom D.size) := by rw [hq]; by_cases e : (n : Int) = lroom D.size <;> simp [e]
 rw [hD]
 clear hq hD
 rw [show some A = some A from rfl]
 generalize some A = A at *
 go_enter Tryz.func113, Tryz.ntmps113
 go_wp2_with fail
 refine wp_region_H (fun v => v.cell? ⟨w.heap.size, 1, none⟩ = some (.slice A n c) ∧ v.cell? ⟨P, 0, none⟩ = some (.pointer (some ⟨G, 0, none⟩)) ∧ v.cell? ⟨G, 0, none⟩ = some (.pointer (some ⟨b, 0, none⟩))) (by kernel_rfl) (fun v0 hv0 => ?_)
 have hS0 : (fun v => v.cell? ⟨w.heap.size, 1, none⟩ = some (.slice A n c) ∧ v.cell? ⟨P, 0, none⟩ = some (.pointer (some ⟨G, 0, none⟩)) ∧ v.cell? ⟨G, 0, none⟩ = some (.pointer (some ⟨b, 0, none⟩))) v0 := by subst hv0; exact HC.out _ rfl
 have HBV : Hid (Below w.heap.size w v0 ∧ DiskAt v0 b m vl D) := Lib.hid (by subst hv0; exact ⟨HW.out.1.drew, HW.out.2.drew⟩)
 clear hv0
 refine wpH_t 0 ?_ rfl rfl (by kernel_rfl) (fun _ _ _ h => h) rfl ?_ hS0 ?_
 rotate_left
 ·(intro w_ hw_; go_simp; try with_reducible rfl)
 simp only [sL]
 refine wpH_t 1 ?_ rfl rfl (by kernel_rfl) (fun _ _ _ h => h) rfl ?_ hS0 ?_
 rotate_left
 ·(intro w_ hw_; obtain ⟨q1, q2, q3⟩ := hw_; go_simp; try with_reducible rfl)
 simp only [sL]
 refine wpH_t 2 ?_ rfl rfl (by kernel_rfl) (fun _ _ _ h => h) rfl ?_ hS0 ?_
 rotate_left
 ·(intro w_ hw_; obtain ⟨q1, q2, q3⟩ := hw_; go_simp; try with_reducible rfl)
 simp only [sL]
 refine wpH_t 3 ?_ rfl rfl (by kernel_rfl) (fun _ _ _ h => h) rfl ?_ hS0 ?_
 rotate_left
 ·(intro w_ hw_; obtain ⟨q1, q2, q3⟩ := hw_; go_simp; try with_reducible rfl)
 simp only [sL]
 refine wpH_t 4 ?_ rfl rfl (by kernel_rfl) (fun _ _ _ h => h) rfl ?_ hS0 ?_
 rotate_left
 ·(intro w_ hw_; obtain ⟨q1, q2, q3⟩ := hw_; go_simp; try with_reducible rfl)
 simp only [sL]
 refine wpH_t 5 ?_ rfl rfl (by kernel_rfl) (fun _ _ _ h => h) rfl ?_ hS0 ?_
 rotate_left
 ·(intro w_ hw_; go_simp; try with_reducible rfl)
 simp only [sL]
 refine wpH_t 6 ?_ rfl rfl (by kernel_rfl) (fun _ _ _ h => h) rfl ?_ hS0 ?_
 rotate_left
 ·(intro w_ hw_; go_simp; try with_reducible rfl)
 simp only [sL]
 refine wpH_t 7 ?_ rfl rfl (by kernel_rfl) (fun _ _ _ h => h) rfl ?_ hS0 ?_
 rotate_left
 ·(intro w_ hw_; obtain ⟨q1, q2, q3⟩ := hw_; go_simp; try with_reducible rfl)
 simp only [sL]
 refine wpH_call (i := 8) (by kernel_rfl) rfl rfl (by rfl) (Size_any HBV.out.2) (by go_simp) (fun w4 hR => ?_)
 have hS1 : (fun v => v.cell? ⟨w.heap.size, 1, none⟩ = some (.slice A n c) ∧ v.cell? ⟨P, 0, none⟩ = some (.pointer (some ⟨G, 0, none⟩)) ∧ v.cell? ⟨G, 0, none⟩ = some (.pointer (some ⟨b, 0, none⟩))) w4 := by subst hR; exact hS0
 clear hS0
 refine ⟨hS1, ?_⟩
 simp only [sL]
 have HBV4 : Hid (Below w.heap.size w w4) := Lib.hid (by subst hR; exact HBV.out.1)
 clear hR HBV
 refine wpH_call (i := 9) (by kernel_rfl) rfl rfl (by rfl) (LRoom_any D.size w4) (by go_simp) (fun w5 hR => ?_)
 have hS2 : (fun v => v.cell? ⟨w.heap.size, 1, none⟩ = some (.slice A n c) ∧ v.cell? ⟨P, 0, none⟩ = some (.pointer (some ⟨G, 0, none⟩)) ∧ v.cell? ⟨G, 0, none⟩ = some (.pointer (some ⟨b, 0, none⟩))) w5 := by subst hR; exact hS1
 clear hS1
 refine ⟨hS2, ?_⟩
 simp only [sL]
 have HBV5 : Hid (Below w.heap.size w w5) := Lib.hid (by subst hR; exact HBV4.out)
 clear hR HBV4
 refine wpH_t 10 ?_ rfl rfl (by kernel_rfl) (fun _ _ _ h => h) rfl ?_ hS2 ?_
 rotate_left
 ·(intro w_ hw_; go_simp; try with_reducible rfl)
 simp only [sL]
 refine wpH_t 11 ?_ rfl rfl (by kernel_rfl) (fun _ _ _ h => h) rfl ?_ hS2 ?_
 rotate_left
 ·(intro w_ hw_; go_simp; try with_reducible rfl)
 simp only [sL]
 clear hS2
 refine wpAnyH_done (by kernel_rfl) ?_ _
 go_wp2
 go_ret
 exact ⟨rfl, HBV5.out⟩
end
/-- Why a group can't be appended. -/
def rightE (D : Dsk) (L : Lg) (g : List (Int × List Nat)) : Int :=
 if L.dead then 21 else if (g.isEmpty || g.any badPage) then 1 else if g.any (badLen D.size) then 3 else if (L.count : Int) - L.next < g.length then 6 else 0
section
variable {b m : Nat} {vl : Value} {D : Dsk} {w : World} {G : Nat} {L : Lg}
set_option maxHeartbeats 2000000 in
theorem right_any (h : DiskAt w b m vl D) (hl : LogIn w G b L) (hok : L.Ok) (l : List (Int × List Nat)) (n c : Nat) (hn : l.length = n) (hnb : (n : Int) ≤ 1000000000) (A : Option Addr) (hc : Chg w (.slice A n c) l) :
  Calls Tryz.prog 93 #[.pointer (some ⟨G, 0, none⟩), .slice A n c] w fun e w' => e = .returned (.int .i64 (rightE D L l)) ∧ Below w.heap.size w w' := by
 obtain ⟨E, hE⟩ : ∃ E, E = rightE D L l := ⟨_, rfl⟩
 rw [← hE]
 unfold rightE at hE
 have HB0 : Hid (Below w.heap.size w (w.alloc (.cells #[.pointer (some ⟨G, 0, none⟩)] 82))) := Lib.hid (grow_alloc (Below.refl _ w) _)
 have hl2 := hl.grew HB0.out
 have hd := hl2.six.2.2.2.2.2
 have HL : Hid (LogIn (w.alloc (.cells #[.pointer (some ⟨G, 0, none⟩)] 82)) G b L) := Lib.hid hl2
 have HP : Hid (Blk (w.alloc (.cells #[.pointer (some ⟨G, 0, none⟩)] 82)) w.heap.size #[.pointer (some ⟨G, 0, none⟩)] 82) := Lib.hid (Blk.new _ _ _)
 have HD : Hid (DiskAt (w.alloc (.cells #[.pointer (some ⟨G, 0, none⟩)] 82)) b m vl D) := Lib.hid (h.alloc _)
 have HC : Hid (Chg (w.alloc (.cells #[.pointer (some ⟨G, 0, none⟩)] 82)) (.slice A n c) l) := Lib.hid (hc.grew HB0.out)
 have h1 := hok.c
 have h2 := hok.n
 have b1 : (L.count : Int) ≤ 1048576 := by omega
 have b2 : (L.next : Int) ≤ 1048576 := by omega
 have HOK := Lib.hid hok
 have HE := Lib.hid hE
 have HN := Lib.hid hn
 clear h hl hc hl2 hE h1 h2 hok hn
 cases hdd : L.dead with
 | true =>
  rw [hdd] at hd
  obtain rfl : E = 21 := by rw [HE.out, hdd]; rfl
  clear HE hdd HC HD HL HP
  go_enter Tryz.func93, Tryz.ntmps93
  go_wp2
  go_ret
  exact ⟨rfl, HB0.out⟩
 | false =>
  rw [hdd] at hd
  have HE1 := HE.out
  rw [hdd] at HE1
  simp only [Bool.false_eq_true, if_false] at HE1
  by_cases h0 : n = 0
  ·obtain rfl : E = 1 := by rw [HE1, List.eq_nil_of_length_eq_zero (HN.out.trans h0)]; rfl
   clear HE HE1 hdd HC HD HL HP
   subst h0
   go_enter Tryz.func93, Tryz.ntmps93
   go_wp2
   go_ret
   exact ⟨rfl, HB0.out⟩
  ·have hne : l.isEmpty = false := by have := HN.out; cases l <;> simp_all
   rw [hne, Bool.false_or] at HE1
   have h0' : ((n : Int) == 0) = false := by simp; omega
   have HQ1 := Lib.hid (fun w (hc : Chg w (.slice A n c) l) => ContainsCh_any l n c HN.out hnb A w hc 112 #[] (enters_of Tryz.func112 (by kernel_rfl) rfl) badPage (fun x _ W _ u _ => right1_any x u W))
   clear hne hdd HE
   cases hq1 : l.any badPage with
   | true =>
    rw [hq1] at HE1 HQ1
    simp only [if_true] at HE1
    subst HE1
    clear HD HL HP hq1
    go_enter Tryz.func93, Tryz.ntmps93
    go_wp2_with fail
    refine (HQ1.out _ HC.out).mono ?_
    rintro e w2 ⟨rfl, hb⟩
    have HB := Lib.hid (grow HB0.out hb)
    clear hb HQ1
    go_wp2
    go_ret
    exact ⟨rfl, HB.out⟩
   | false =>
    rw [hq1] at HE1 HQ1
    simp only [Bool.false_eq_true, if_false] at HE1
    have HQ2 := Lib.hid (fun w (hc : Chg w (.slice A n c) l) (hd : DiskAt w b m vl D) (hl : LogIn w G b L) P (hP : Blk w P #[.pointer (some ⟨G, 0, none⟩)] 82) =>
     ContainsCh_any l n c HN.out hnb A w hc 113 #[.pointer (some ⟨P, 0, none⟩)] (enters_of Tryz.func113 (by kernel_rfl) rfl) (badLen D.size) (fun x _ W hW u hu => right2_any x u hu P (hd.grew hW) (hl.grew hW) (hP.grew hW)))
    clear hq1
    cases hq2 : l.any (badLen D.size) with
    | true =>
     rw [hq2] at HE1 HQ2
     simp only [if_true] at HE1
     subst HE1
     clear hq2
     go_enter Tryz.func93, Tryz.ntmps93
     go_wp2_with fail
     refine (HQ1.out _ HC.out).mono ?_
     rintro e w2 ⟨rfl, hb⟩
     have HB := Lib.hid (grow HB0.out hb)
     have HQ3 := Lib.hid (HQ2.out w2 (HC.out.grew hb) (HD.out.grew hb) (HL.out.grew hb) w.heap.size (HP.out.grew hb))
     clear hb HQ1 HQ2 HC HD HL HP
     go_wp2_with fail
     refine HQ3.out.mono ?_
     rintro e w3 ⟨rfl, hb3⟩
     have HB3 := Lib.hid (grow HB.out hb3)
     clear hb3 HQ3
     go_wp2
     go_ret
     exact ⟨rfl, HB3.out⟩
    | false =>
     rw [hq2] at HE1 HQ2
     simp only [Bool.false_eq_true, if_false] at HE1
     rw [HN.out] at HE1
     have HE2 := Lib.hid HE1
     clear hq2 HE1
     go_enter Tryz.func93, Tryz.ntmps93
     go_wp2_with fail
     refine (HQ1.out _ HC.out).mono ?_
     rintro e w2 ⟨rfl, hb⟩
     have HB := Lib.hid (grow HB0.out hb)
     have HQ3 := Lib.hid (HQ2.out w2 (HC.out.grew hb) (HD.out.grew hb) (HL.out.grew hb) w.heap.size (HP.out.grew hb))
     have HL2 : Hid (LogIn w2 G b L) := Lib.hid (HL.out.grew hb)
     have HP2 := Lib.hid (HP.out.grew hb)
     clear hb HQ1 HQ2 HC HD HL HP
     go_wp2_with fail
     refine HQ3.out.mono ?_
     rintro e w3 ⟨rfl, hb3⟩
     have HB3 := Lib.hid (grow HB.out hb3)
     have hp3 := (HP2.out.grew hb3).cell 0
     have HLf := Lib.hid (Left_any (HL2.out.grew hb3) HOK.out)
     clear hb3 HQ3 HP2 HL2
     go_wp2_with fail
     refine HLf.out.mono ?_
     rintro e w4 ⟨rfl, hb4⟩
     have HB4 := Lib.hid (grow HB3.out hb4)
     clear hb4 HLf hp3
     by_cases hlt : (L.count : Int) - L.next < n
     ·obtain rfl : E = 6 := by rw [HE2.out, if_pos hlt]
      go_wp2
      go_ret
      exact ⟨rfl, HB4.out⟩
     ·obtain rfl : E = 0 := by rw [HE2.out, if_neg hlt]
      go_wp2
      go_ret
      exact ⟨rfl, HB4.out⟩
end
end Go.Proofs.YtklppnknllbfnaaGreat
