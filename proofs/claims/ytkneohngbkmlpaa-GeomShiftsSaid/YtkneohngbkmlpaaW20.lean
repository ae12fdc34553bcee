/- Walks: the reference's Inside. -/
import Derived.Test.YtkneohngbkmlpaaW10
import Derived.Test.YtkneohngbkmlpaaW15
import Derived.Test.YtkneohngbkmlpaaW19
namespace Go.Proofs.Ytkneohngbkmlpaa
open Go.RowKit

/-- Does an edge go over the line upward from a point, above it? -/
def crossV (a b p : Pt) : Bool := (decide (p.x < a.x) != decide (p.x < b.x)) && (if p.x < b.x then decide (turnZ a b p < 0) else decide (turnZ b a p < 0))
def refIn (p : Pt) : List (Pt × Pt) → Bool → Int
  | [], odd => if odd then 1 else -1
  | (a, b) :: r, odd => if onZ a b p then 0 else refIn p r (odd != crossV a b p)

theorem two_at (w0 : World) {H : Nat} (z : w0.heap.size = H) (a b : Array Value) (t : TypeId) :
    Blk ((w0.alloc (.cells a t)).alloc (.cells b t)).drew H a t ∧ Blk ((w0.alloc (.cells a t)).alloc (.cells b t)).drew (H + 1) b t := by
  subst z
  exact ⟨((Blk.new _ _ _).alloc _).drew, (Blk.new' _ _ _ (by simp)).drew⟩

set_option maxRecDepth 20000 in
set_option maxHeartbeats 8000000 in
theorem refInside_loop (px py : Int) (l : List Pt) (A : Option Addr) (n c : Nat) (w : World) (hn : l.length = n) (hr : Pts w w.heap.size A l) (hn0 : (0 : Int) < n) (hl : (n : Int) ≤ 1000) (hp : May ⟨px, py⟩) (hm : ∀ q ∈ l, May q) :
    Calls Try.prog 12 #[.slice A n c, .agg #[.int .i64 px, .int .i64 py]] w fun e w' => e = .returned (.int .i64 (refIn ⟨px, py⟩ (edgesOf l) false)) ∧ Below w.heap.size w w' := by
  have HR := Lib.hid hr
  have HN := Lib.hid hn
  have HL := Lib.hid hm
  have HP := Lib.hid hp
  clear hr hn hm hp
  have hne0 : ((n : Int) == 0) = false := by simp; omega
  go_enter Try.func12, Try.ntmps12
  go_wp2
  obtain ⟨w0, hw0, p0, g0, z0⟩ := boxes1 w #[.int .i64 px, .int .i64 py] 24
  rw [hw0]
  clear hw0 z0
  go_loopw [5, 6] (fun od i wr => ∃ (k : Nat) (o : Bool), k ≤ n ∧ i = .int .i64 k ∧ od = .bool o ∧ Hid (wr.cell? ⟨w.heap.size, 0, none⟩ = some (.int .i64 px) ∧ wr.cell? ⟨w.heap.size, 1, none⟩ = some (.int .i64 py) ∧ Below w.heap.size w wr) ∧
      Hid (refIn ⟨px, py⟩ (edgesOf l) false = refIn ⟨px, py⟩ ((edgesOf l).drop k) o)) (fun _ i _ => n - (intOf i).toNat)
  case atStart => exact ⟨0, false, by omega, rfl, rfl, Lib.hid ⟨p0.two.1, p0.two.2.1, g0⟩, Lib.hid rfl⟩
  case round =>
    obtain ⟨k, o, hk, rfl, rfl, HW, HG⟩ := hrel
    clear p0 g0
    by_cases hlt : k < n
    · have hkl : k < l.length := by rw [HN.out]; exact hlt
      have h0l : 0 < l.length := by omega
      have hPts : Pts wr wr.heap.size A l := fun hne => by
        obtain ⟨q, e, hq, hc⟩ := (HR.out.below HW.out.2.2 (Nat.le_refl _)) hne
        exact ⟨q, e, Nat.lt_of_lt_of_le hq HW.out.2.2.size, hc⟩
      obtain ⟨p, hpA, h1, h2, h5, h6, hnext⟩ : ∃ p, A = some p ∧ wr.cell? (p.add (k * 2)) = some (.int .i64 l[k].x) ∧ wr.cell? ((p.add (k * 2)).add 1) = some (.int .i64 l[k].y) ∧
          wr.cell? p = some (.int .i64 l[0].x) ∧ wr.cell? (p.add 1) = some (.int .i64 l[0].y) ∧
          ∀ h : k + 1 < l.length, wr.cell? (p.add ((k + 1) * 2)) = some (.int .i64 l[k + 1].x) ∧ wr.cell? ((p.add ((k + 1) * 2)).add 1) = some (.int .i64 l[k + 1].y) := by
        obtain ⟨p, e, hpb, hc⟩ := hPts (by intro h; rw [h] at hkl; simp at hkl)
        exact ⟨p, e, (hc k hkl).1, (hc k hkl).2, (hc 0 h0l).1, (hc 0 h0l).2, fun h => hc _ h⟩
      subst hpA
      have hdrop := edges_drop l k hkl
      have ma := HL.out l[k] (List.getElem_mem _)
      rw [add_one] at h2 h6
      by_cases hlt2 : k + 1 < n
      · have hkl2 : k + 1 < l.length := by rw [HN.out]; exact hlt2
        obtain ⟨h3, h4⟩ := hnext hkl2
        have mb := HL.out l[k + 1] (List.getElem_mem _)
        rw [add_one] at h4
        have hdrop2 : (edgesOf l).drop k = (l[k], l[k + 1]) :: (edgesOf l).drop (k + 1) := by
          rw [hdrop]; simp only [Nat.mod_eq_of_lt hkl2]
        have hS0 := And.intro h1 (And.intro h2 (And.intro h5 (And.intro h6 (And.intro h3 (And.intro h4 HW.out)))))
        clear hdrop h1 h2 h3 h4 h5 h6 hnext
        generalize l[k] = a at *
        generalize l[k + 1] = b at *
        generalize l[0] = f at *
        obtain ⟨ax, ay⟩ := a
        obtain ⟨bx, byy⟩ := b
        obtain ⟨fx, fy⟩ := f
        dsimp only at hS0
        have HDROP := Lib.hid hdrop2
        have HMA := Lib.hid ma
        have HMB := Lib.hid mb
        clear hdrop2 ma mb hPts hkl h0l hkl2
        have keep : ∀ a b : World, Below a.heap.size a b → (fun v : World => v.cell? (p.add (k * 2)) = some (.int .i64 ax) ∧ v.cell? ⟨(p.add (k * 2)).block, (p.add (k * 2)).off + 1, none⟩ = some (.int .i64 ay) ∧ v.cell? (p) = some (.int .i64 fx) ∧ v.cell? ⟨p.block, p.off + 1, none⟩ = some (.int .i64 fy) ∧ v.cell? (p.add ((k + 1) * 2)) = some (.int .i64 bx) ∧ v.cell? ⟨(p.add ((k + 1) * 2)).block, (p.add ((k + 1) * 2)).off + 1, none⟩ = some (.int .i64 byy) ∧ v.cell? ⟨w.heap.size, 0, none⟩ = some (.int .i64 px) ∧ v.cell? ⟨w.heap.size, 1, none⟩ = some (.int .i64 py) ∧ Below w.heap.size w v) a → (fun v : World => v.cell? (p.add (k * 2)) = some (.int .i64 ax) ∧ v.cell? ⟨(p.add (k * 2)).block, (p.add (k * 2)).off + 1, none⟩ = some (.int .i64 ay) ∧ v.cell? (p) = some (.int .i64 fx) ∧ v.cell? ⟨p.block, p.off + 1, none⟩ = some (.int .i64 fy) ∧ v.cell? (p.add ((k + 1) * 2)) = some (.int .i64 bx) ∧ v.cell? ⟨(p.add ((k + 1) * 2)).block, (p.add ((k + 1) * 2)).off + 1, none⟩ = some (.int .i64 byy) ∧ v.cell? ⟨w.heap.size, 0, none⟩ = some (.int .i64 px) ∧ v.cell? ⟨w.heap.size, 1, none⟩ = some (.int .i64 py) ∧ Below w.heap.size w v) b := fun a b hb ⟨h0, h1, h2, h3, h4, h5, h6, h7, h8⟩ => ⟨cell_grew h0 hb, cell_grew h1 hb, cell_grew h2 hb, cell_grew h3 hb, cell_grew h4 hb, cell_grew h5 hb, cell_grew h6 hb, cell_grew h7 hb, grow h8 hb⟩
        have KS := Lib.hid keep
        have drew : ∀ a : World, (fun v : World => v.cell? (p.add (k * 2)) = some (.int .i64 ax) ∧ v.cell? ⟨(p.add (k * 2)).block, (p.add (k * 2)).off + 1, none⟩ = some (.int .i64 ay) ∧ v.cell? (p) = some (.int .i64 fx) ∧ v.cell? ⟨p.block, p.off + 1, none⟩ = some (.int .i64 fy) ∧ v.cell? (p.add ((k + 1) * 2)) = some (.int .i64 bx) ∧ v.cell? ⟨(p.add ((k + 1) * 2)).block, (p.add ((k + 1) * 2)).off + 1, none⟩ = some (.int .i64 byy) ∧ v.cell? ⟨w.heap.size, 0, none⟩ = some (.int .i64 px) ∧ v.cell? ⟨w.heap.size, 1, none⟩ = some (.int .i64 py) ∧ Below w.heap.size w v) a → (fun v : World => v.cell? (p.add (k * 2)) = some (.int .i64 ax) ∧ v.cell? ⟨(p.add (k * 2)).block, (p.add (k * 2)).off + 1, none⟩ = some (.int .i64 ay) ∧ v.cell? (p) = some (.int .i64 fx) ∧ v.cell? ⟨p.block, p.off + 1, none⟩ = some (.int .i64 fy) ∧ v.cell? (p.add ((k + 1) * 2)) = some (.int .i64 bx) ∧ v.cell? ⟨(p.add ((k + 1) * 2)).block, (p.add ((k + 1) * 2)).off + 1, none⟩ = some (.int .i64 byy) ∧ v.cell? ⟨w.heap.size, 0, none⟩ = some (.int .i64 px) ∧ v.cell? ⟨w.heap.size, 1, none⟩ = some (.int .i64 py) ∧ Below w.heap.size w v) a.drew := fun a ⟨h0, h1, h2, h3, h4, h5, h6, h7, h8⟩ => ⟨h0, h1, h2, h3, h4, h5, h6, h7, h8.drew⟩
        have HD := Lib.hid drew
        have alc : ∀ (a : World) (o : Obj), (fun v : World => v.cell? (p.add (k * 2)) = some (.int .i64 ax) ∧ v.cell? ⟨(p.add (k * 2)).block, (p.add (k * 2)).off + 1, none⟩ = some (.int .i64 ay) ∧ v.cell? (p) = some (.int .i64 fx) ∧ v.cell? ⟨p.block, p.off + 1, none⟩ = some (.int .i64 fy) ∧ v.cell? (p.add ((k + 1) * 2)) = some (.int .i64 bx) ∧ v.cell? ⟨(p.add ((k + 1) * 2)).block, (p.add ((k + 1) * 2)).off + 1, none⟩ = some (.int .i64 byy) ∧ v.cell? ⟨w.heap.size, 0, none⟩ = some (.int .i64 px) ∧ v.cell? ⟨w.heap.size, 1, none⟩ = some (.int .i64 py) ∧ Below w.heap.size w v) a → (fun v : World => v.cell? (p.add (k * 2)) = some (.int .i64 ax) ∧ v.cell? ⟨(p.add (k * 2)).block, (p.add (k * 2)).off + 1, none⟩ = some (.int .i64 ay) ∧ v.cell? (p) = some (.int .i64 fx) ∧ v.cell? ⟨p.block, p.off + 1, none⟩ = some (.int .i64 fy) ∧ v.cell? (p.add ((k + 1) * 2)) = some (.int .i64 bx) ∧ v.cell? ⟨(p.add ((k + 1) * 2)).block, (p.add ((k + 1) * 2)).off + 1, none⟩ = some (.int .i64 byy) ∧ v.cell? ⟨w.heap.size, 0, none⟩ = some (.int .i64 px) ∧ v.cell? ⟨w.heap.size, 1, none⟩ = some (.int .i64 py) ∧ Below w.heap.size w v) (a.alloc o) := fun a o h => keep _ _ ((Below.refl _ a).alloc (Nat.le_refl _) o) h
        have HA := Lib.hid alc
        clear keep drew alc
        obtain ⟨h0, h1, h2, h3, h4, h5, h6, h7, h8⟩ := id hS0
        have HN1 := Lib.hid h8
        clear h8
        have hn1 : 0 < n := by omega
        have HWR : Hid (w.heap.size + 1 ≤ wr.heap.size) := Lib.hid (World.block_lt_of_cell? _ _ HW.out.1)
        go_wp2_with fail
        rename_i KK hKK
        have rest : ∀ (b0 b1 : Nat) (W : World), Blk W b0 #[.int .i64 ax, .int .i64 ay] 24 → Blk W b1 #[.int .i64 fx, .int .i64 fy] 24 → (fun v : World => v.cell? (p.add (k * 2)) = some (.int .i64 ax) ∧ v.cell? ⟨(p.add (k * 2)).block, (p.add (k * 2)).off + 1, none⟩ = some (.int .i64 ay) ∧ v.cell? (p) = some (.int .i64 fx) ∧ v.cell? ⟨p.block, p.off + 1, none⟩ = some (.int .i64 fy) ∧ v.cell? (p.add ((k + 1) * 2)) = some (.int .i64 bx) ∧ v.cell? ⟨(p.add ((k + 1) * 2)).block, (p.add ((k + 1) * 2)).off + 1, none⟩ = some (.int .i64 byy) ∧ v.cell? ⟨w.heap.size, 0, none⟩ = some (.int .i64 px) ∧ v.cell? ⟨w.heap.size, 1, none⟩ = some (.int .i64 py) ∧ Below w.heap.size w v) W → b0 ≠ b1 → w.heap.size + 1 ≤ b0 → w.heap.size + 1 ≤ b1 → KK { tmps := #[.slice (some p) n c, .agg #[.int .i64 px, .int .i64 py], undef, .pointer (some ⟨w.heap.size, 0, none⟩), u4, .bool o, .int .i64 k, .pointer (some ⟨b0, 0, none⟩), .pointer (some ⟨b1, 0, none⟩), u9, u10, .slice (some p) n c, .int .i64 n, .bool false, .int .i64 k, .slice (some p) n c, .int .i64 n, .bool true, u18, u19, .slice (some p) n c, .int .i64 k, .pointer (some (p.add (k * 2))), .agg #[.int .i64 ax, .int .i64 ay], .slice (some p) n c, .pointer (some p), .agg #[.int .i64 fx, .int .i64 fy], u27, u28, u29, u30, u31, u32, u33, u34, u35, u36, u37, u38, u39, u40, u41, u42, u43, u44, u45, u46, u47, u48, u49, u50, u51, u52, u53, u54, u55, u56, u57, u58, u59, u60, u61, u62, u63, u64, u65, u66, u67, undef], defers := [] } W := by
          intro b0 b1 W p0 p1 hS hne hb0 hb1
          clear h0 h1 h2 h3 h4 h5 h6 h7 HN1
          have hS' := hS
          obtain ⟨h0, h1, h2, h3, h4, h5, h6, h7, h8⟩ := hS'
          obtain ⟨W2, hW2⟩ : ∃ W2, (W.setCell ⟨b1, 0, none⟩ (.int .i64 bx)).setCell ⟨b1, 1, none⟩ (.int .i64 byy) = W2 := ⟨_, rfl⟩
          have E0 : Blk W2 b0 #[.int .i64 ax, .int .i64 ay] 24 := by rw [← hW2]; exact (p0.other (a := ⟨b1, 0, none⟩) hne _).other (a := ⟨b1, 1, none⟩) hne _
          have E1 : Blk W2 b1 #[.int .i64 bx, .int .i64 byy] 24 := by rw [← hW2]; exact (p1.set 0 _).set 1 _
          have x0 : W2.cell? ⟨w.heap.size, 0, none⟩ = some (.int .i64 px) := by rw [← hW2]; exact cell_set (cell_set h6 (by show b1 ≠ w.heap.size; omega)) (by show b1 ≠ w.heap.size; omega)
          have x1 : W2.cell? ⟨w.heap.size, 1, none⟩ = some (.int .i64 py) := by rw [← hW2]; exact cell_set (cell_set h7 (by show b1 ≠ w.heap.size; omega)) (by show b1 ≠ w.heap.size; omega)
          have HB : Below w.heap.size w W2 := by rw [← hW2]; exact (h8.setCell (p := ⟨b1, 0, none⟩) (by show w.heap.size ≤ b1; omega) _).setCell (p := ⟨b1, 1, none⟩) (by show w.heap.size ≤ b1; omega) _
          have g0 := p0.two
          have g1 := p1.two
          have e0 := E0.two
          have e1 := E1.two
          have E0 := Lib.hid E0
          have E1 := Lib.hid E1
          have HB := Lib.hid HB
          have HNE := Lib.hid hne
          clear hS h6 h7 h8 p0 p1 hne
          have ko := refOn_any ⟨ax, ay⟩ ⟨bx, byy⟩ ⟨px, py⟩ HMA.out HMB.out HP.out
          by_cases hon : onZ ⟨ax, ay⟩ ⟨bx, byy⟩ ⟨px, py⟩
          · rw [decide_eq_true hon] at ko
            have hres : refIn ⟨px, py⟩ (edgesOf l) false = 0 := by
              rw [HG.out, HDROP.out]; unfold refIn; rw [if_pos hon]
            have KO := Lib.hid ko
            have HRES := Lib.hid hres
            clear ko hres hon
            go_wp2_with fail
            refine (KO.out _).mono ?_
            rintro e w1 ⟨rfl, hb1⟩
            have HB2 := Lib.hid (grow HB.out hb1)
            clear hb1
            go_wp2
            go_ret
            exact ⟨ret_int HRES.out.symm, HB2.out⟩
          · rw [decide_eq_false hon] at ko
            have hres : refIn ⟨px, py⟩ (edgesOf l) false = refIn ⟨px, py⟩ ((edgesOf l).drop (k + 1)) (o != crossV ⟨ax, ay⟩ ⟨bx, byy⟩ ⟨px, py⟩) := by
              rw [HG.out, HDROP.out]; conv => lhs; unfold refIn
              rw [if_neg hon]
            have KO := Lib.hid ko
            have HRES := Lib.hid hres
            clear ko hres hon
            go_wp2_with fail
            refine (KO.out _).mono ?_
            rintro e w1 ⟨rfl, hb1⟩
            have f0 := (E0.out.grew hb1).two
            have f1 := (E1.out.grew hb1).two
            have y0 := cell_grew x0 hb1
            have y1 := cell_grew x1 hb1
            have E0' := Lib.hid (E0.out.grew hb1)
            have E1' := Lib.hid (E1.out.grew hb1)
            have HB2 := Lib.hid (grow HB.out hb1)
            clear hb1 e0 e1 x0 x1 HB E0 E1
            by_cases hax : px < ax
            · by_cases hbx : px < bx
              · have hx : (o != crossV ⟨ax, ay⟩ ⟨bx, byy⟩ ⟨px, py⟩) = o := by
                  unfold crossV; dsimp only; rw [decide_eq_true hax, decide_eq_true hbx]; cases o <;> rfl
                rw [hx] at HRES
                have da : decide (px < ax) = true := decide_eq_true hax
                have db : decide (px < bx) = true := decide_eq_true hbx
                clear hx hax hbx
                have HC := Lib.hid (And.intro y0 (And.intro y1 HB2.out))
                go_wp2
                go_roundw
                case rel => exact ⟨k + 1, o, by omega, val_int (by omega), rfl, HC, HRES⟩
                case measure => simp only [intOf]; omega
              · have hx : crossV ⟨ax, ay⟩ ⟨bx, byy⟩ ⟨px, py⟩ = decide (turnZ ⟨bx, byy⟩ ⟨ax, ay⟩ ⟨px, py⟩ < 0) := by
                  unfold crossV; dsimp only; rw [decide_eq_true hax, decide_eq_false hbx, if_neg hbx]; rfl
                rw [hx] at HRES
                have hgt : bx < ax := by omega
                have da : decide (px < ax) = true := decide_eq_true hax
                have db : decide (px < bx) = false := decide_eq_false hbx
                clear hx hax hbx
                have kt := refTurn_any ⟨bx, byy⟩ ⟨ax, ay⟩ ⟨px, py⟩ HMB.out HMA.out HP.out
                generalize turnZ ⟨bx, byy⟩ ⟨ax, ay⟩ ⟨px, py⟩ = t at *
                have KT := Lib.hid kt
                clear kt
                go_wp2_with fail
                rename_i K13 hK13
                have hS1 : (fun v : World => v.cell? ⟨b0, 0, none⟩ = some (.int .i64 ax) ∧ v.cell? ⟨b0, 1, none⟩ = some (.int .i64 ay) ∧ v.cell? ⟨b1, 0, none⟩ = some (.int .i64 bx) ∧ v.cell? ⟨b1, 1, none⟩ = some (.int .i64 byy) ∧ v.cell? ⟨w.heap.size, 0, none⟩ = some (.int .i64 px) ∧ v.cell? ⟨w.heap.size, 1, none⟩ = some (.int .i64 py) ∧ Below w.heap.size w v) w1 := ⟨f0.1, f0.2.1, f1.1, f1.2.1, y0, y1, HB2.out⟩
                clear f0 f1 y0 y1
                have keep : ∀ a b : World, Below a.heap.size a b → (fun v : World => v.cell? ⟨b0, 0, none⟩ = some (.int .i64 ax) ∧ v.cell? ⟨b0, 1, none⟩ = some (.int .i64 ay) ∧ v.cell? ⟨b1, 0, none⟩ = some (.int .i64 bx) ∧ v.cell? ⟨b1, 1, none⟩ = some (.int .i64 byy) ∧ v.cell? ⟨w.heap.size, 0, none⟩ = some (.int .i64 px) ∧ v.cell? ⟨w.heap.size, 1, none⟩ = some (.int .i64 py) ∧ Below w.heap.size w v) a → (fun v : World => v.cell? ⟨b0, 0, none⟩ = some (.int .i64 ax) ∧ v.cell? ⟨b0, 1, none⟩ = some (.int .i64 ay) ∧ v.cell? ⟨b1, 0, none⟩ = some (.int .i64 bx) ∧ v.cell? ⟨b1, 1, none⟩ = some (.int .i64 byy) ∧ v.cell? ⟨w.heap.size, 0, none⟩ = some (.int .i64 px) ∧ v.cell? ⟨w.heap.size, 1, none⟩ = some (.int .i64 py) ∧ Below w.heap.size w v) b := fun a b hb ⟨h0, h1, h2, h3, h4, h5, h6⟩ => ⟨cell_grew h0 hb, cell_grew h1 hb, cell_grew h2 hb, cell_grew h3 hb, cell_grew h4 hb, cell_grew h5 hb, grow h6 hb⟩
                have drew : ∀ a : World, (fun v : World => v.cell? ⟨b0, 0, none⟩ = some (.int .i64 ax) ∧ v.cell? ⟨b0, 1, none⟩ = some (.int .i64 ay) ∧ v.cell? ⟨b1, 0, none⟩ = some (.int .i64 bx) ∧ v.cell? ⟨b1, 1, none⟩ = some (.int .i64 byy) ∧ v.cell? ⟨w.heap.size, 0, none⟩ = some (.int .i64 px) ∧ v.cell? ⟨w.heap.size, 1, none⟩ = some (.int .i64 py) ∧ Below w.heap.size w v) a → (fun v : World => v.cell? ⟨b0, 0, none⟩ = some (.int .i64 ax) ∧ v.cell? ⟨b0, 1, none⟩ = some (.int .i64 ay) ∧ v.cell? ⟨b1, 0, none⟩ = some (.int .i64 bx) ∧ v.cell? ⟨b1, 1, none⟩ = some (.int .i64 byy) ∧ v.cell? ⟨w.heap.size, 0, none⟩ = some (.int .i64 px) ∧ v.cell? ⟨w.heap.size, 1, none⟩ = some (.int .i64 py) ∧ Below w.heap.size w v) a.drew := fun a ⟨h0, h1, h2, h3, h4, h5, h6⟩ => ⟨h0, h1, h2, h3, h4, h5, h6.drew⟩
                have HD1 := Lib.hid drew
                have alc : ∀ (a : World) (o : Obj), (fun v : World => v.cell? ⟨b0, 0, none⟩ = some (.int .i64 ax) ∧ v.cell? ⟨b0, 1, none⟩ = some (.int .i64 ay) ∧ v.cell? ⟨b1, 0, none⟩ = some (.int .i64 bx) ∧ v.cell? ⟨b1, 1, none⟩ = some (.int .i64 byy) ∧ v.cell? ⟨w.heap.size, 0, none⟩ = some (.int .i64 px) ∧ v.cell? ⟨w.heap.size, 1, none⟩ = some (.int .i64 py) ∧ Below w.heap.size w v) a → (fun v : World => v.cell? ⟨b0, 0, none⟩ = some (.int .i64 ax) ∧ v.cell? ⟨b0, 1, none⟩ = some (.int .i64 ay) ∧ v.cell? ⟨b1, 0, none⟩ = some (.int .i64 bx) ∧ v.cell? ⟨b1, 1, none⟩ = some (.int .i64 byy) ∧ v.cell? ⟨w.heap.size, 0, none⟩ = some (.int .i64 px) ∧ v.cell? ⟨w.heap.size, 1, none⟩ = some (.int .i64 py) ∧ Below w.heap.size w v) (a.alloc o) := fun a o h => keep _ _ ((Below.refl _ a).alloc (Nat.le_refl _) o) h
                have HA1 := Lib.hid alc
                clear keep drew alc
                have HW1 : Hid (w.heap.size < w1.heap.size) := Lib.hid (World.block_lt_of_cell? _ _ hS1.2.2.2.2.1)
                have HL0 : Hid (b0 < w1.heap.size) := Lib.hid (World.block_lt_of_cell? _ _ hS1.1)
                have HL1 : Hid (b1 < w1.heap.size) := Lib.hid (World.block_lt_of_cell? _ _ hS1.2.2.1)
                have rest2 : ∀ (q0 q1 : Nat) (W : World), Blk W q0 #[.int .i64 ax, .int .i64 ay] 24 → Blk W q1 #[.int .i64 bx, .int .i64 byy] 24 → q0 ≠ q1 → w1.heap.size ≤ q0 → w1.heap.size ≤ q1 → (fun v : World => v.cell? ⟨b0, 0, none⟩ = some (.int .i64 ax) ∧ v.cell? ⟨b0, 1, none⟩ = some (.int .i64 ay) ∧ v.cell? ⟨b1, 0, none⟩ = some (.int .i64 bx) ∧ v.cell? ⟨b1, 1, none⟩ = some (.int .i64 byy) ∧ v.cell? ⟨w.heap.size, 0, none⟩ = some (.int .i64 px) ∧ v.cell? ⟨w.heap.size, 1, none⟩ = some (.int .i64 py) ∧ Below w.heap.size w v) W → K13 { tmps := #[.slice (some p) n c, .agg #[.int .i64 px, .int .i64 py], undef, .pointer (some ⟨w.heap.size, 0, none⟩), u4, .bool o, .int .i64 k, .pointer (some ⟨b0, 0, none⟩), .pointer (some ⟨b1, 0, none⟩), .pointer (some ⟨q0, 0, none⟩), .pointer (some ⟨q1, 0, none⟩), .slice (some p) n c, .int .i64 n, .bool false, .int .i64 k, .slice (some p) n c, .int .i64 n, .bool true, u18, u19, .slice (some p) n c, .int .i64 k, .pointer (some (p.add (k * 2))), .agg #[.int .i64 ax, .int .i64 ay], .slice (some p) n c, .pointer (some p), .agg #[.int .i64 fx, .int .i64 fy], .int .i64 k, .int .i64 ((k : Int) + 1), .slice (some p) n c, .int .i64 n, .bool true, .slice (some p) n c, .int .i64 k, .int .i64 ((k : Int) + 1), .pointer (some (p.add ((k + 1) * 2))), .agg #[.int .i64 bx, .int .i64 byy], .agg #[.int .i64 ax, .int .i64 ay], .agg #[.int .i64 bx, .int .i64 byy], .agg #[.int .i64 px, .int .i64 py], .bool false, .pointer (some ⟨b0, 0, none⟩), .int .i64 ax, .pointer (some ⟨w.heap.size, 0, none⟩), .int .i64 px, .bool true, .pointer (some ⟨b1, 0, none⟩), .int .i64 bx, .pointer (some ⟨w.heap.size, 0, none⟩), .int .i64 px, .bool false, .bool false, .agg #[.int .i64 ax, .int .i64 ay], .agg #[.int .i64 bx, .int .i64 byy], u54, u55, u56, u57, u58, u59, u60, u61, u62, u63, u64, u65, u66, u67, undef], defers := [] } W := by
                  intro q0 q1 W Q0 Q1 hq hq0 hq1 cq
                  have m0 := Q0.two
                  have m1 := Q1.two
                  have hq' : q1 ≠ q0 := Ne.symm hq
                  obtain ⟨n0, n1, n2, n3, z0, z1, cb⟩ := id cq
                  have CB := Lib.hid cb
                  have hl0 : b0 < w1.heap.size := HL0.out
                  have hl1 : b1 < w1.heap.size := HL1.out
                  have hw1 : w.heap.size < w1.heap.size := HW1.out
                  have sto : ∀ (a : World) (q : Nat) (i : Nat) (v : Value), w1.heap.size ≤ q → (fun v : World => v.cell? ⟨b0, 0, none⟩ = some (.int .i64 ax) ∧ v.cell? ⟨b0, 1, none⟩ = some (.int .i64 ay) ∧ v.cell? ⟨b1, 0, none⟩ = some (.int .i64 bx) ∧ v.cell? ⟨b1, 1, none⟩ = some (.int .i64 byy) ∧ v.cell? ⟨w.heap.size, 0, none⟩ = some (.int .i64 px) ∧ v.cell? ⟨w.heap.size, 1, none⟩ = some (.int .i64 py) ∧ Below w.heap.size w v) a → (fun v : World => v.cell? ⟨b0, 0, none⟩ = some (.int .i64 ax) ∧ v.cell? ⟨b0, 1, none⟩ = some (.int .i64 ay) ∧ v.cell? ⟨b1, 0, none⟩ = some (.int .i64 bx) ∧ v.cell? ⟨b1, 1, none⟩ = some (.int .i64 byy) ∧ v.cell? ⟨w.heap.size, 0, none⟩ = some (.int .i64 px) ∧ v.cell? ⟨w.heap.size, 1, none⟩ = some (.int .i64 py) ∧ Below w.heap.size w v) (a.setCell ⟨q, i, none⟩ v) := fun a q i v hl ⟨h0, h1, h2, h3, h4, h5, h6⟩ =>
                    ⟨cell_set h0 (by show q ≠ b0; omega), cell_set h1 (by show q ≠ b0; omega), cell_set h2 (by show q ≠ b1; omega), cell_set h3 (by show q ≠ b1; omega), cell_set h4 (by show q ≠ w.heap.size; omega), cell_set h5 (by show q ≠ w.heap.size; omega), h6.setCell (p := ⟨q, i, none⟩) (by show w.heap.size ≤ q; omega) _⟩
                  have ST := Lib.hid sto
                  have HQ0 := Lib.hid hq0
                  have HQB := Lib.hid (And.intro Q0 Q1)
                  have HQ1 := Lib.hid hq1
                  clear sto cb Q0 Q1 hq0 hq1 hl0 hl1 hw1
                  go_wp2_with fail
                  go_region_held3 (fun v : World => v.cell? ⟨b0, 0, none⟩ = some (.int .i64 ax) ∧ v.cell? ⟨b0, 1, none⟩ = some (.int .i64 ay) ∧ v.cell? ⟨b1, 0, none⟩ = some (.int .i64 bx) ∧ v.cell? ⟨b1, 1, none⟩ = some (.int .i64 byy) ∧ v.cell? ⟨w.heap.size, 0, none⟩ = some (.int .i64 px) ∧ v.cell? ⟨w.heap.size, 1, none⟩ = some (.int .i64 py) ∧ Below w.heap.size w v) (first | with_reducible exact HD1.out _ cq | with_reducible exact HD1.out _ (ST.out _ _ _ _ HQ0.out (ST.out _ _ _ _ HQ0.out cq)) | with_reducible exact HD1.out _ (ST.out _ _ _ _ HQ1.out (ST.out _ _ _ _ HQ1.out cq)) | with_reducible exact HD1.out _ (ST.out _ _ _ _ HQ1.out (ST.out _ _ _ _ HQ1.out (ST.out _ _ _ _ HQ0.out (ST.out _ _ _ _ HQ0.out cq)))) | with_reducible exact HD1.out _ (ST.out _ _ _ _ HQ0.out (ST.out _ _ _ _ HQ0.out (ST.out _ _ _ _ HQ1.out (ST.out _ _ _ _ HQ1.out cq))))) (fail)
                  have C5 : (fun v : World => v.cell? ⟨b0, 0, none⟩ = some (.int .i64 ax) ∧ v.cell? ⟨b0, 1, none⟩ = some (.int .i64 ay) ∧ v.cell? ⟨b1, 0, none⟩ = some (.int .i64 bx) ∧ v.cell? ⟨b1, 1, none⟩ = some (.int .i64 byy) ∧ v.cell? ⟨w.heap.size, 0, none⟩ = some (.int .i64 px) ∧ v.cell? ⟨w.heap.size, 1, none⟩ = some (.int .i64 py) ∧ Below w.heap.size w v) ((((W.setCell ⟨q0, 0, none⟩ (.int .i64 bx)).setCell ⟨q0, 1, none⟩ (.int .i64 byy)).setCell ⟨q1, 0, none⟩ (.int .i64 ax)).setCell ⟨q1, 1, none⟩ (.int .i64 ay)).drew := HD1.out _ (ST.out _ _ _ _ HQ1.out (ST.out _ _ _ _ HQ1.out (ST.out _ _ _ _ HQ0.out (ST.out _ _ _ _ HQ0.out cq))))
                  have B0 : Blk ((((W.setCell ⟨q0, 0, none⟩ (.int .i64 bx)).setCell ⟨q0, 1, none⟩ (.int .i64 byy)).setCell ⟨q1, 0, none⟩ (.int .i64 ax)).setCell ⟨q1, 1, none⟩ (.int .i64 ay)).drew q0 #[.int .i64 bx, .int .i64 byy] 24 := ((((HQB.out.1.set 0 _).set 1 _).other (a := ⟨q1, 0, none⟩) hq _).other (a := ⟨q1, 1, none⟩) hq _).drew
                  have B1 : Blk ((((W.setCell ⟨q0, 0, none⟩ (.int .i64 bx)).setCell ⟨q0, 1, none⟩ (.int .i64 byy)).setCell ⟨q1, 0, none⟩ (.int .i64 ax)).setCell ⟨q1, 1, none⟩ (.int .i64 ay)).drew q1 #[.int .i64 ax, .int .i64 ay] 24 := ((((HQB.out.2.other (a := ⟨q0, 0, none⟩) hq' _).other (a := ⟨q0, 1, none⟩) hq' _).set 0 _).set 1 _).drew
                  clear n0 n1 n2 n3 z0 z1 m0 m1 cq
                  generalize ((((W.setCell ⟨q0, 0, none⟩ (.int .i64 bx)).setCell ⟨q0, 1, none⟩ (.int .i64 byy)).setCell ⟨q1, 0, none⟩ (.int .i64 ax)).setCell ⟨q1, 1, none⟩ (.int .i64 ay)).drew = W5 at *
                  obtain ⟨n0, n1, n2, n3, z0, z1, cb⟩ := C5
                  have m0 := B0.two
                  have m1 := B1.two
                  have HB3 := Lib.hid cb
                  clear B0 B1 cb hq hq'
                  go_wp2_with fail
                  refine (KT.out _).mono ?_
                  rintro e w2 ⟨rfl, hb2⟩
                  have HC := Lib.hid (And.intro (cell_grew z0 hb2) (And.intro (cell_grew z1 hb2) (grow HB3.out hb2)))
                  clear hb2 z0 z1
                  by_cases hneg : t < 0
                  · rw [decide_eq_true hneg] at HRES
                    go_wp2
                    go_roundw
                    case rel => exact ⟨k + 1, !o, by omega, val_int (by omega), rfl, HC, by rw [show (!o) = (o != true) by cases o <;> rfl]; exact HRES⟩
                    case measure => simp only [intOf]; omega
                  · rw [decide_eq_false hneg] at HRES
                    go_wp2
                    go_roundw
                    case rel => exact ⟨k + 1, o, by omega, val_int (by omega), rfl, HC, by rw [show (o != false) = o by cases o <;> rfl] at HRES; exact HRES⟩
                    case measure => simp only [intOf]; omega

                have REST2 := Lib.hid rest2
                clear rest2
                go_region_held3 (fun v : World => v.cell? ⟨b0, 0, none⟩ = some (.int .i64 ax) ∧ v.cell? ⟨b0, 1, none⟩ = some (.int .i64 ay) ∧ v.cell? ⟨b1, 0, none⟩ = some (.int .i64 bx) ∧ v.cell? ⟨b1, 1, none⟩ = some (.int .i64 byy) ∧ v.cell? ⟨w.heap.size, 0, none⟩ = some (.int .i64 px) ∧ v.cell? ⟨w.heap.size, 1, none⟩ = some (.int .i64 py) ∧ Below w.heap.size w v) (first | exact HD1.out _ hS1 | exact HA1.out _ _ (by assumption) | exact HA1.out _ _ (HA1.out _ _ (by assumption)) | exact HA1.out _ _ (HD1.out _ hS1) | exact HD1.out _ (HA1.out _ _ (HA1.out _ _ hS1)) | assumption) (fail)
                all_goals
                  refine REST2.out _ _ _ ?_ ?_ (by have := HW1.out; omega) (by have := HW1.out; omega) (by have := HW1.out; omega) (HD1.out _ (HA1.out _ _ (HA1.out _ _ hS1)))
                  all_goals first | exact (two_at w1 rfl _ _ _).1 | exact (two_at w1 rfl _ _ _).2

            · by_cases hbx : px < bx
              · have hx : crossV ⟨ax, ay⟩ ⟨bx, byy⟩ ⟨px, py⟩ = decide (turnZ ⟨ax, ay⟩ ⟨bx, byy⟩ ⟨px, py⟩ < 0) := by
                  unfold crossV; dsimp only; rw [decide_eq_false hax, decide_eq_true hbx, if_pos hbx]; rfl
                rw [hx] at HRES
                have hgt : ¬ bx < ax := by omega
                have da : decide (px < ax) = false := decide_eq_false hax
                have db : decide (px < bx) = true := decide_eq_true hbx
                clear hx hax hbx
                have kt := refTurn_any ⟨ax, ay⟩ ⟨bx, byy⟩ ⟨px, py⟩ HMA.out HMB.out HP.out
                generalize turnZ ⟨ax, ay⟩ ⟨bx, byy⟩ ⟨px, py⟩ = t at *
                have KT := Lib.hid kt
                clear kt
                go_wp2_with fail
                rename_i K13 hK13
                have hS1 : (fun v : World => v.cell? ⟨b0, 0, none⟩ = some (.int .i64 ax) ∧ v.cell? ⟨b0, 1, none⟩ = some (.int .i64 ay) ∧ v.cell? ⟨b1, 0, none⟩ = some (.int .i64 bx) ∧ v.cell? ⟨b1, 1, none⟩ = some (.int .i64 byy) ∧ v.cell? ⟨w.heap.size, 0, none⟩ = some (.int .i64 px) ∧ v.cell? ⟨w.heap.size, 1, none⟩ = some (.int .i64 py) ∧ Below w.heap.size w v) w1 := ⟨f0.1, f0.2.1, f1.1, f1.2.1, y0, y1, HB2.out⟩
                clear f0 f1 y0 y1
                have keep : ∀ a b : World, Below a.heap.size a b → (fun v : World => v.cell? ⟨b0, 0, none⟩ = some (.int .i64 ax) ∧ v.cell? ⟨b0, 1, none⟩ = some (.int .i64 ay) ∧ v.cell? ⟨b1, 0, none⟩ = some (.int .i64 bx) ∧ v.cell? ⟨b1, 1, none⟩ = some (.int .i64 byy) ∧ v.cell? ⟨w.heap.size, 0, none⟩ = some (.int .i64 px) ∧ v.cell? ⟨w.heap.size, 1, none⟩ = some (.int .i64 py) ∧ Below w.heap.size w v) a → (fun v : World => v.cell? ⟨b0, 0, none⟩ = some (.int .i64 ax) ∧ v.cell? ⟨b0, 1, none⟩ = some (.int .i64 ay) ∧ v.cell? ⟨b1, 0, none⟩ = some (.int .i64 bx) ∧ v.cell? ⟨b1, 1, none⟩ = some (.int .i64 byy) ∧ v.cell? ⟨w.heap.size, 0, none⟩ = some (.int .i64 px) ∧ v.cell? ⟨w.heap.size, 1, none⟩ = some (.int .i64 py) ∧ Below w.heap.size w v) b := fun a b hb ⟨h0, h1, h2, h3, h4, h5, h6⟩ => ⟨cell_grew h0 hb, cell_grew h1 hb, cell_grew h2 hb, cell_grew h3 hb, cell_grew h4 hb, cell_grew h5 hb, grow h6 hb⟩
                have drew : ∀ a : World, (fun v : World => v.cell? ⟨b0, 0, none⟩ = some (.int .i64 ax) ∧ v.cell? ⟨b0, 1, none⟩ = some (.int .i64 ay) ∧ v.cell? ⟨b1, 0, none⟩ = some (.int .i64 bx) ∧ v.cell? ⟨b1, 1, none⟩ = some (.int .i64 byy) ∧ v.cell? ⟨w.heap.size, 0, none⟩ = some (.int .i64 px) ∧ v.cell? ⟨w.heap.size, 1, none⟩ = some (.int .i64 py) ∧ Below w.heap.size w v) a → (fun v : World => v.cell? ⟨b0, 0, none⟩ = some (.int .i64 ax) ∧ v.cell? ⟨b0, 1, none⟩ = some (.int .i64 ay) ∧ v.cell? ⟨b1, 0, none⟩ = some (.int .i64 bx) ∧ v.cell? ⟨b1, 1, none⟩ = some (.int .i64 byy) ∧ v.cell? ⟨w.heap.size, 0, none⟩ = some (.int .i64 px) ∧ v.cell? ⟨w.heap.size, 1, none⟩ = some (.int .i64 py) ∧ Below w.heap.size w v) a.drew := fun a ⟨h0, h1, h2, h3, h4, h5, h6⟩ => ⟨h0, h1, h2, h3, h4, h5, h6.drew⟩
                have HD1 := Lib.hid drew
                have alc : ∀ (a : World) (o : Obj), (fun v : World => v.cell? ⟨b0, 0, none⟩ = some (.int .i64 ax) ∧ v.cell? ⟨b0, 1, none⟩ = some (.int .i64 ay) ∧ v.cell? ⟨b1, 0, none⟩ = some (.int .i64 bx) ∧ v.cell? ⟨b1, 1, none⟩ = some (.int .i64 byy) ∧ v.cell? ⟨w.heap.size, 0, none⟩ = some (.int .i64 px) ∧ v.cell? ⟨w.heap.size, 1, none⟩ = some (.int .i64 py) ∧ Below w.heap.size w v) a → (fun v : World => v.cell? ⟨b0, 0, none⟩ = some (.int .i64 ax) ∧ v.cell? ⟨b0, 1, none⟩ = some (.int .i64 ay) ∧ v.cell? ⟨b1, 0, none⟩ = some (.int .i64 bx) ∧ v.cell? ⟨b1, 1, none⟩ = some (.int .i64 byy) ∧ v.cell? ⟨w.heap.size, 0, none⟩ = some (.int .i64 px) ∧ v.cell? ⟨w.heap.size, 1, none⟩ = some (.int .i64 py) ∧ Below w.heap.size w v) (a.alloc o) := fun a o h => keep _ _ ((Below.refl _ a).alloc (Nat.le_refl _) o) h
                have HA1 := Lib.hid alc
                clear keep drew alc
                have HW1 : Hid (w.heap.size < w1.heap.size) := Lib.hid (World.block_lt_of_cell? _ _ hS1.2.2.2.2.1)
                have HL0 : Hid (b0 < w1.heap.size) := Lib.hid (World.block_lt_of_cell? _ _ hS1.1)
                have HL1 : Hid (b1 < w1.heap.size) := Lib.hid (World.block_lt_of_cell? _ _ hS1.2.2.1)
                have rest2 : ∀ (q0 q1 : Nat) (W : World), Blk W q0 #[.int .i64 ax, .int .i64 ay] 24 → Blk W q1 #[.int .i64 bx, .int .i64 byy] 24 → q0 ≠ q1 → w1.heap.size ≤ q0 → w1.heap.size ≤ q1 → (fun v : World => v.cell? ⟨b0, 0, none⟩ = some (.int .i64 ax) ∧ v.cell? ⟨b0, 1, none⟩ = some (.int .i64 ay) ∧ v.cell? ⟨b1, 0, none⟩ = some (.int .i64 bx) ∧ v.cell? ⟨b1, 1, none⟩ = some (.int .i64 byy) ∧ v.cell? ⟨w.heap.size, 0, none⟩ = some (.int .i64 px) ∧ v.cell? ⟨w.heap.size, 1, none⟩ = some (.int .i64 py) ∧ Below w.heap.size w v) W → K13 { tmps := #[.slice (some p) n c, .agg #[.int .i64 px, .int .i64 py], undef, .pointer (some ⟨w.heap.size, 0, none⟩), u4, .bool o, .int .i64 k, .pointer (some ⟨b0, 0, none⟩), .pointer (some ⟨b1, 0, none⟩), .pointer (some ⟨q0, 0, none⟩), .pointer (some ⟨q1, 0, none⟩), .slice (some p) n c, .int .i64 n, .bool false, .int .i64 k, .slice (some p) n c, .int .i64 n, .bool true, u18, u19, .slice (some p) n c, .int .i64 k, .pointer (some (p.add (k * 2))), .agg #[.int .i64 ax, .int .i64 ay], .slice (some p) n c, .pointer (some p), .agg #[.int .i64 fx, .int .i64 fy], .int .i64 k, .int .i64 ((k : Int) + 1), .slice (some p) n c, .int .i64 n, .bool true, .slice (some p) n c, .int .i64 k, .int .i64 ((k : Int) + 1), .pointer (some (p.add ((k + 1) * 2))), .agg #[.int .i64 bx, .int .i64 byy], .agg #[.int .i64 ax, .int .i64 ay], .agg #[.int .i64 bx, .int .i64 byy], .agg #[.int .i64 px, .int .i64 py], .bool false, .pointer (some ⟨b0, 0, none⟩), .int .i64 ax, .pointer (some ⟨w.heap.size, 0, none⟩), .int .i64 px, .bool false, .pointer (some ⟨b1, 0, none⟩), .int .i64 bx, .pointer (some ⟨w.heap.size, 0, none⟩), .int .i64 px, .bool true, .bool false, .agg #[.int .i64 ax, .int .i64 ay], .agg #[.int .i64 bx, .int .i64 byy], u54, u55, u56, u57, u58, u59, u60, u61, u62, u63, u64, u65, u66, u67, undef], defers := [] } W := by
                  intro q0 q1 W Q0 Q1 hq hq0 hq1 cq
                  have m0 := Q0.two
                  have m1 := Q1.two
                  have z0 := cq.2.2.2.2.1
                  have z1 := cq.2.2.2.2.2.1
                  have HB3 := Lib.hid cq.2.2.2.2.2.2
                  have n0 := cq.1
                  have n1 := cq.2.1
                  have n2 := cq.2.2.1
                  have n3 := cq.2.2.2.1
                  clear Q0 Q1 cq
                  go_wp2_with fail
                  refine (KT.out _).mono ?_
                  rintro e w2 ⟨rfl, hb2⟩
                  have HC := Lib.hid (And.intro (cell_grew z0 hb2) (And.intro (cell_grew z1 hb2) (grow HB3.out hb2)))
                  clear hb2 z0 z1
                  by_cases hneg : t < 0
                  · rw [decide_eq_true hneg] at HRES
                    go_wp2
                    go_roundw
                    case rel => exact ⟨k + 1, !o, by omega, val_int (by omega), rfl, HC, by rw [show (!o) = (o != true) by cases o <;> rfl]; exact HRES⟩
                    case measure => simp only [intOf]; omega
                  · rw [decide_eq_false hneg] at HRES
                    go_wp2
                    go_roundw
                    case rel => exact ⟨k + 1, o, by omega, val_int (by omega), rfl, HC, by rw [show (o != false) = o by cases o <;> rfl] at HRES; exact HRES⟩
                    case measure => simp only [intOf]; omega

                have REST2 := Lib.hid rest2
                clear rest2
                go_region_held3 (fun v : World => v.cell? ⟨b0, 0, none⟩ = some (.int .i64 ax) ∧ v.cell? ⟨b0, 1, none⟩ = some (.int .i64 ay) ∧ v.cell? ⟨b1, 0, none⟩ = some (.int .i64 bx) ∧ v.cell? ⟨b1, 1, none⟩ = some (.int .i64 byy) ∧ v.cell? ⟨w.heap.size, 0, none⟩ = some (.int .i64 px) ∧ v.cell? ⟨w.heap.size, 1, none⟩ = some (.int .i64 py) ∧ Below w.heap.size w v) (first | exact HD1.out _ hS1 | exact HA1.out _ _ (by assumption) | exact HA1.out _ _ (HA1.out _ _ (by assumption)) | exact HA1.out _ _ (HD1.out _ hS1) | exact HD1.out _ (HA1.out _ _ (HA1.out _ _ hS1)) | assumption) (fail)
                all_goals
                  refine REST2.out _ _ _ ?_ ?_ (by have := HW1.out; omega) (by have := HW1.out; omega) (by have := HW1.out; omega) (HD1.out _ (HA1.out _ _ (HA1.out _ _ hS1)))
                  all_goals first | exact (two_at w1 rfl _ _ _).1 | exact (two_at w1 rfl _ _ _).2

              · have hx : (o != crossV ⟨ax, ay⟩ ⟨bx, byy⟩ ⟨px, py⟩) = o := by
                  unfold crossV; dsimp only; rw [decide_eq_false hax, decide_eq_false hbx]; cases o <;> rfl
                rw [hx] at HRES
                have da : decide (px < ax) = false := decide_eq_false hax
                have db : decide (px < bx) = false := decide_eq_false hbx
                clear hx hax hbx
                have HC := Lib.hid (And.intro y0 (And.intro y1 HB2.out))
                go_wp2
                go_roundw
                case rel => exact ⟨k + 1, o, by omega, val_int (by omega), rfl, HC, HRES⟩
                case measure => simp only [intOf]; omega

        have REST := Lib.hid rest
        clear rest
        go_region_held3 (fun v : World => v.cell? (p.add (k * 2)) = some (.int .i64 ax) ∧ v.cell? ⟨(p.add (k * 2)).block, (p.add (k * 2)).off + 1, none⟩ = some (.int .i64 ay) ∧ v.cell? (p) = some (.int .i64 fx) ∧ v.cell? ⟨p.block, p.off + 1, none⟩ = some (.int .i64 fy) ∧ v.cell? (p.add ((k + 1) * 2)) = some (.int .i64 bx) ∧ v.cell? ⟨(p.add ((k + 1) * 2)).block, (p.add ((k + 1) * 2)).off + 1, none⟩ = some (.int .i64 byy) ∧ v.cell? ⟨w.heap.size, 0, none⟩ = some (.int .i64 px) ∧ v.cell? ⟨w.heap.size, 1, none⟩ = some (.int .i64 py) ∧ Below w.heap.size w v) (first | exact HD.out _ hS0 | exact HA.out _ _ (by assumption) | exact HA.out _ _ (HA.out _ _ (by assumption)) | exact HA.out _ _ (HD.out _ hS0) | exact HD.out _ (HA.out _ _ (HA.out _ _ hS0)) | assumption) (fail)
        all_goals
          refine REST.out _ _ _ ?_ ?_ (HD.out _ (HA.out _ _ (HA.out _ _ hS0))) (by have := HWR.out; omega) (by have := HWR.out; omega) (by have := HWR.out; omega)
          all_goals first | exact (two_at wr rfl _ _ _).1 | exact (two_at wr rfl _ _ _).2
      · have hkn : (k + 1) % l.length = 0 := by
          have : k + 1 = l.length := by have := HN.out; omega
          rw [this, Nat.mod_self]
        have mb := HL.out l[0] (List.getElem_mem _)
        have hdrop2 : (edgesOf l).drop k = (l[k], l[0]) :: (edgesOf l).drop (k + 1) := by
          rw [hdrop]; simp only [hkn]
        have hS0 := And.intro h1 (And.intro h2 (And.intro h5 (And.intro h6 HW.out)))
        clear hdrop h1 h2 h5 h6 hnext
        generalize l[k] = a at *
        generalize l[0] = b at *
        obtain ⟨ax, ay⟩ := a
        obtain ⟨bx, byy⟩ := b
        dsimp only at hS0
        have HDROP := Lib.hid hdrop2
        have HMA := Lib.hid ma
        have HMB := Lib.hid mb
        have hd31 : decide ((k : Int) + 1 < (n : Int)) = false := decide_eq_false (by omega)
        clear hdrop2 ma mb hPts hkl h0l hkn
        have keep : ∀ a b : World, Below a.heap.size a b → (fun v : World => v.cell? (p.add (k * 2)) = some (.int .i64 ax) ∧ v.cell? ⟨(p.add (k * 2)).block, (p.add (k * 2)).off + 1, none⟩ = some (.int .i64 ay) ∧ v.cell? (p) = some (.int .i64 bx) ∧ v.cell? ⟨p.block, p.off + 1, none⟩ = some (.int .i64 byy) ∧ v.cell? ⟨w.heap.size, 0, none⟩ = some (.int .i64 px) ∧ v.cell? ⟨w.heap.size, 1, none⟩ = some (.int .i64 py) ∧ Below w.heap.size w v) a → (fun v : World => v.cell? (p.add (k * 2)) = some (.int .i64 ax) ∧ v.cell? ⟨(p.add (k * 2)).block, (p.add (k * 2)).off + 1, none⟩ = some (.int .i64 ay) ∧ v.cell? (p) = some (.int .i64 bx) ∧ v.cell? ⟨p.block, p.off + 1, none⟩ = some (.int .i64 byy) ∧ v.cell? ⟨w.heap.size, 0, none⟩ = some (.int .i64 px) ∧ v.cell? ⟨w.heap.size, 1, none⟩ = some (.int .i64 py) ∧ Below w.heap.size w v) b := fun a b hb ⟨h0, h1, h2, h3, h4, h5, h6⟩ => ⟨cell_grew h0 hb, cell_grew h1 hb, cell_grew h2 hb, cell_grew h3 hb, cell_grew h4 hb, cell_grew h5 hb, grow h6 hb⟩
        have KS := Lib.hid keep
        have drew : ∀ a : World, (fun v : World => v.cell? (p.add (k * 2)) = some (.int .i64 ax) ∧ v.cell? ⟨(p.add (k * 2)).block, (p.add (k * 2)).off + 1, none⟩ = some (.int .i64 ay) ∧ v.cell? (p) = some (.int .i64 bx) ∧ v.cell? ⟨p.block, p.off + 1, none⟩ = some (.int .i64 byy) ∧ v.cell? ⟨w.heap.size, 0, none⟩ = some (.int .i64 px) ∧ v.cell? ⟨w.heap.size, 1, none⟩ = some (.int .i64 py) ∧ Below w.heap.size w v) a → (fun v : World => v.cell? (p.add (k * 2)) = some (.int .i64 ax) ∧ v.cell? ⟨(p.add (k * 2)).block, (p.add (k * 2)).off + 1, none⟩ = some (.int .i64 ay) ∧ v.cell? (p) = some (.int .i64 bx) ∧ v.cell? ⟨p.block, p.off + 1, none⟩ = some (.int .i64 byy) ∧ v.cell? ⟨w.heap.size, 0, none⟩ = some (.int .i64 px) ∧ v.cell? ⟨w.heap.size, 1, none⟩ = some (.int .i64 py) ∧ Below w.heap.size w v) a.drew := fun a ⟨h0, h1, h2, h3, h4, h5, h6⟩ => ⟨h0, h1, h2, h3, h4, h5, h6.drew⟩
        have HD := Lib.hid drew
        have alc : ∀ (a : World) (o : Obj), (fun v : World => v.cell? (p.add (k * 2)) = some (.int .i64 ax) ∧ v.cell? ⟨(p.add (k * 2)).block, (p.add (k * 2)).off + 1, none⟩ = some (.int .i64 ay) ∧ v.cell? (p) = some (.int .i64 bx) ∧ v.cell? ⟨p.block, p.off + 1, none⟩ = some (.int .i64 byy) ∧ v.cell? ⟨w.heap.size, 0, none⟩ = some (.int .i64 px) ∧ v.cell? ⟨w.heap.size, 1, none⟩ = some (.int .i64 py) ∧ Below w.heap.size w v) a → (fun v : World => v.cell? (p.add (k * 2)) = some (.int .i64 ax) ∧ v.cell? ⟨(p.add (k * 2)).block, (p.add (k * 2)).off + 1, none⟩ = some (.int .i64 ay) ∧ v.cell? (p) = some (.int .i64 bx) ∧ v.cell? ⟨p.block, p.off + 1, none⟩ = some (.int .i64 byy) ∧ v.cell? ⟨w.heap.size, 0, none⟩ = some (.int .i64 px) ∧ v.cell? ⟨w.heap.size, 1, none⟩ = some (.int .i64 py) ∧ Below w.heap.size w v) (a.alloc o) := fun a o h => keep _ _ ((Below.refl _ a).alloc (Nat.le_refl _) o) h
        have HA := Lib.hid alc
        clear keep drew alc
        obtain ⟨h0, h1, h2, h3, h4, h5, h6⟩ := id hS0
        have HN1 := Lib.hid h6
        clear h6
        have hn1 : 0 < n := by omega
        have HWR : Hid (w.heap.size + 1 ≤ wr.heap.size) := Lib.hid (World.block_lt_of_cell? _ _ HW.out.1)
        go_wp2_with fail
        rename_i KK hKK
        have rest : ∀ (b0 b1 : Nat) (W : World), Blk W b0 #[.int .i64 ax, .int .i64 ay] 24 → Blk W b1 #[.int .i64 bx, .int .i64 byy] 24 → (fun v : World => v.cell? (p.add (k * 2)) = some (.int .i64 ax) ∧ v.cell? ⟨(p.add (k * 2)).block, (p.add (k * 2)).off + 1, none⟩ = some (.int .i64 ay) ∧ v.cell? (p) = some (.int .i64 bx) ∧ v.cell? ⟨p.block, p.off + 1, none⟩ = some (.int .i64 byy) ∧ v.cell? ⟨w.heap.size, 0, none⟩ = some (.int .i64 px) ∧ v.cell? ⟨w.heap.size, 1, none⟩ = some (.int .i64 py) ∧ Below w.heap.size w v) W → b0 ≠ b1 → w.heap.size + 1 ≤ b0 → w.heap.size + 1 ≤ b1 → KK { tmps := #[.slice (some p) n c, .agg #[.int .i64 px, .int .i64 py], undef, .pointer (some ⟨w.heap.size, 0, none⟩), u4, .bool o, .int .i64 k, .pointer (some ⟨b0, 0, none⟩), .pointer (some ⟨b1, 0, none⟩), u9, u10, .slice (some p) n c, .int .i64 n, .bool false, .int .i64 k, .slice (some p) n c, .int .i64 n, .bool true, u18, u19, .slice (some p) n c, .int .i64 k, .pointer (some (p.add (k * 2))), .agg #[.int .i64 ax, .int .i64 ay], .slice (some p) n c, .pointer (some p), .agg #[.int .i64 bx, .int .i64 byy], u27, u28, u29, u30, u31, u32, u33, u34, u35, u36, u37, u38, u39, u40, u41, u42, u43, u44, u45, u46, u47, u48, u49, u50, u51, u52, u53, u54, u55, u56, u57, u58, u59, u60, u61, u62, u63, u64, u65, u66, u67, undef], defers := [] } W := by
          intro b0 b1 W p0 p1 hS hne hb0 hb1
          clear h0 h1 h2 h3 h4 h5 HN1
          obtain ⟨h0, h1, h2, h3, x0, x1, HB⟩ := hS
          have e0 := p0.two
          have e1 := p1.two
          have E0 := Lib.hid p0
          have E1 := Lib.hid p1
          have HB := Lib.hid HB
          have HNE := Lib.hid hne
          clear h0 h1 h2 h3 p0 p1 hne
          have ko := refOn_any ⟨ax, ay⟩ ⟨bx, byy⟩ ⟨px, py⟩ HMA.out HMB.out HP.out
          by_cases hon : onZ ⟨ax, ay⟩ ⟨bx, byy⟩ ⟨px, py⟩
          · rw [decide_eq_true hon] at ko
            have hres : refIn ⟨px, py⟩ (edgesOf l) false = 0 := by
              rw [HG.out, HDROP.out]; unfold refIn; rw [if_pos hon]
            have KO := Lib.hid ko
            have HRES := Lib.hid hres
            clear ko hres hon
            go_wp2_with fail
            refine (KO.out _).mono ?_
            rintro e w1 ⟨rfl, hb1⟩
            have HB2 := Lib.hid (grow HB.out hb1)
            clear hb1
            go_wp2
            go_ret
            exact ⟨ret_int HRES.out.symm, HB2.out⟩
          · rw [decide_eq_false hon] at ko
            have hres : refIn ⟨px, py⟩ (edgesOf l) false = refIn ⟨px, py⟩ ((edgesOf l).drop (k + 1)) (o != crossV ⟨ax, ay⟩ ⟨bx, byy⟩ ⟨px, py⟩) := by
              rw [HG.out, HDROP.out]; conv => lhs; unfold refIn
              rw [if_neg hon]
            have KO := Lib.hid ko
            have HRES := Lib.hid hres
            clear ko hres hon
            go_wp2_with fail
            refine (KO.out _).mono ?_
            rintro e w1 ⟨rfl, hb1⟩
            have f0 := (E0.out.grew hb1).two
            have f1 := (E1.out.grew hb1).two
            have y0 := cell_grew x0 hb1
            have y1 := cell_grew x1 hb1
            have E0' := Lib.hid (E0.out.grew hb1)
            have E1' := Lib.hid (E1.out.grew hb1)
            have HB2 := Lib.hid (grow HB.out hb1)
            clear hb1 e0 e1 x0 x1 HB E0 E1
            by_cases hax : px < ax
            · by_cases hbx : px < bx
              · have hx : (o != crossV ⟨ax, ay⟩ ⟨bx, byy⟩ ⟨px, py⟩) = o := by
                  unfold crossV; dsimp only; rw [decide_eq_true hax, decide_eq_true hbx]; cases o <;> rfl
                rw [hx] at HRES
                have da : decide (px < ax) = true := decide_eq_true hax
                have db : decide (px < bx) = true := decide_eq_true hbx
                clear hx hax hbx
                have HC := Lib.hid (And.intro y0 (And.intro y1 HB2.out))
                go_wp2
                go_roundw
                case rel => exact ⟨k + 1, o, by omega, val_int (by omega), rfl, HC, HRES⟩
                case measure => simp only [intOf]; omega
              · have hx : crossV ⟨ax, ay⟩ ⟨bx, byy⟩ ⟨px, py⟩ = decide (turnZ ⟨bx, byy⟩ ⟨ax, ay⟩ ⟨px, py⟩ < 0) := by
                  unfold crossV; dsimp only; rw [decide_eq_true hax, decide_eq_false hbx, if_neg hbx]; rfl
                rw [hx] at HRES
                have hgt : bx < ax := by omega
                have da : decide (px < ax) = true := decide_eq_true hax
                have db : decide (px < bx) = false := decide_eq_false hbx
                clear hx hax hbx
                have kt := refTurn_any ⟨bx, byy⟩ ⟨ax, ay⟩ ⟨px, py⟩ HMB.out HMA.out HP.out
                generalize turnZ ⟨bx, byy⟩ ⟨ax, ay⟩ ⟨px, py⟩ = t at *
                have KT := Lib.hid kt
                clear kt
                go_wp2_with fail
                rename_i K13 hK13
                have hS1 : (fun v : World => v.cell? ⟨b0, 0, none⟩ = some (.int .i64 ax) ∧ v.cell? ⟨b0, 1, none⟩ = some (.int .i64 ay) ∧ v.cell? ⟨b1, 0, none⟩ = some (.int .i64 bx) ∧ v.cell? ⟨b1, 1, none⟩ = some (.int .i64 byy) ∧ v.cell? ⟨w.heap.size, 0, none⟩ = some (.int .i64 px) ∧ v.cell? ⟨w.heap.size, 1, none⟩ = some (.int .i64 py) ∧ Below w.heap.size w v) w1 := ⟨f0.1, f0.2.1, f1.1, f1.2.1, y0, y1, HB2.out⟩
                clear f0 f1 y0 y1
                have keep : ∀ a b : World, Below a.heap.size a b → (fun v : World => v.cell? ⟨b0, 0, none⟩ = some (.int .i64 ax) ∧ v.cell? ⟨b0, 1, none⟩ = some (.int .i64 ay) ∧ v.cell? ⟨b1, 0, none⟩ = some (.int .i64 bx) ∧ v.cell? ⟨b1, 1, none⟩ = some (.int .i64 byy) ∧ v.cell? ⟨w.heap.size, 0, none⟩ = some (.int .i64 px) ∧ v.cell? ⟨w.heap.size, 1, none⟩ = some (.int .i64 py) ∧ Below w.heap.size w v) a → (fun v : World => v.cell? ⟨b0, 0, none⟩ = some (.int .i64 ax) ∧ v.cell? ⟨b0, 1, none⟩ = some (.int .i64 ay) ∧ v.cell? ⟨b1, 0, none⟩ = some (.int .i64 bx) ∧ v.cell? ⟨b1, 1, none⟩ = some (.int .i64 byy) ∧ v.cell? ⟨w.heap.size, 0, none⟩ = some (.int .i64 px) ∧ v.cell? ⟨w.heap.size, 1, none⟩ = some (.int .i64 py) ∧ Below w.heap.size w v) b := fun a b hb ⟨h0, h1, h2, h3, h4, h5, h6⟩ => ⟨cell_grew h0 hb, cell_grew h1 hb, cell_grew h2 hb, cell_grew h3 hb, cell_grew h4 hb, cell_grew h5 hb, grow h6 hb⟩
                have drew : ∀ a : World, (fun v : World => v.cell? ⟨b0, 0, none⟩ = some (.int .i64 ax) ∧ v.cell? ⟨b0, 1, none⟩ = some (.int .i64 ay) ∧ v.cell? ⟨b1, 0, none⟩ = some (.int .i64 bx) ∧ v.cell? ⟨b1, 1, none⟩ = some (.int .i64 byy) ∧ v.cell? ⟨w.heap.size, 0, none⟩ = some (.int .i64 px) ∧ v.cell? ⟨w.heap.size, 1, none⟩ = some (.int .i64 py) ∧ Below w.heap.size w v) a → (fun v : World => v.cell? ⟨b0, 0, none⟩ = some (.int .i64 ax) ∧ v.cell? ⟨b0, 1, none⟩ = some (.int .i64 ay) ∧ v.cell? ⟨b1, 0, none⟩ = some (.int .i64 bx) ∧ v.cell? ⟨b1, 1, none⟩ = some (.int .i64 byy) ∧ v.cell? ⟨w.heap.size, 0, none⟩ = some (.int .i64 px) ∧ v.cell? ⟨w.heap.size, 1, none⟩ = some (.int .i64 py) ∧ Below w.heap.size w v) a.drew := fun a ⟨h0, h1, h2, h3, h4, h5, h6⟩ => ⟨h0, h1, h2, h3, h4, h5, h6.drew⟩
                have HD1 := Lib.hid drew
                have alc : ∀ (a : World) (o : Obj), (fun v : World => v.cell? ⟨b0, 0, none⟩ = some (.int .i64 ax) ∧ v.cell? ⟨b0, 1, none⟩ = some (.int .i64 ay) ∧ v.cell? ⟨b1, 0, none⟩ = some (.int .i64 bx) ∧ v.cell? ⟨b1, 1, none⟩ = some (.int .i64 byy) ∧ v.cell? ⟨w.heap.size, 0, none⟩ = some (.int .i64 px) ∧ v.cell? ⟨w.heap.size, 1, none⟩ = some (.int .i64 py) ∧ Below w.heap.size w v) a → (fun v : World => v.cell? ⟨b0, 0, none⟩ = some (.int .i64 ax) ∧ v.cell? ⟨b0, 1, none⟩ = some (.int .i64 ay) ∧ v.cell? ⟨b1, 0, none⟩ = some (.int .i64 bx) ∧ v.cell? ⟨b1, 1, none⟩ = some (.int .i64 byy) ∧ v.cell? ⟨w.heap.size, 0, none⟩ = some (.int .i64 px) ∧ v.cell? ⟨w.heap.size, 1, none⟩ = some (.int .i64 py) ∧ Below w.heap.size w v) (a.alloc o) := fun a o h => keep _ _ ((Below.refl _ a).alloc (Nat.le_refl _) o) h
                have HA1 := Lib.hid alc
                clear keep drew alc
                have HW1 : Hid (w.heap.size < w1.heap.size) := Lib.hid (World.block_lt_of_cell? _ _ hS1.2.2.2.2.1)
                have HL0 : Hid (b0 < w1.heap.size) := Lib.hid (World.block_lt_of_cell? _ _ hS1.1)
                have HL1 : Hid (b1 < w1.heap.size) := Lib.hid (World.block_lt_of_cell? _ _ hS1.2.2.1)
                have rest2 : ∀ (q0 q1 : Nat) (W : World), Blk W q0 #[.int .i64 ax, .int .i64 ay] 24 → Blk W q1 #[.int .i64 bx, .int .i64 byy] 24 → q0 ≠ q1 → w1.heap.size ≤ q0 → w1.heap.size ≤ q1 → (fun v : World => v.cell? ⟨b0, 0, none⟩ = some (.int .i64 ax) ∧ v.cell? ⟨b0, 1, none⟩ = some (.int .i64 ay) ∧ v.cell? ⟨b1, 0, none⟩ = some (.int .i64 bx) ∧ v.cell? ⟨b1, 1, none⟩ = some (.int .i64 byy) ∧ v.cell? ⟨w.heap.size, 0, none⟩ = some (.int .i64 px) ∧ v.cell? ⟨w.heap.size, 1, none⟩ = some (.int .i64 py) ∧ Below w.heap.size w v) W → K13 { tmps := #[.slice (some p) n c, .agg #[.int .i64 px, .int .i64 py], undef, .pointer (some ⟨w.heap.size, 0, none⟩), u4, .bool o, .int .i64 k, .pointer (some ⟨b0, 0, none⟩), .pointer (some ⟨b1, 0, none⟩), .pointer (some ⟨q0, 0, none⟩), .pointer (some ⟨q1, 0, none⟩), .slice (some p) n c, .int .i64 n, .bool false, .int .i64 k, .slice (some p) n c, .int .i64 n, .bool true, u18, u19, .slice (some p) n c, .int .i64 k, .pointer (some (p.add (k * 2))), .agg #[.int .i64 ax, .int .i64 ay], .slice (some p) n c, .pointer (some p), .agg #[.int .i64 bx, .int .i64 byy], .int .i64 k, .int .i64 ((k : Int) + 1), .slice (some p) n c, .int .i64 n, .bool false, u32, u33, u34, u35, u36, .agg #[.int .i64 ax, .int .i64 ay], .agg #[.int .i64 bx, .int .i64 byy], .agg #[.int .i64 px, .int .i64 py], .bool false, .pointer (some ⟨b0, 0, none⟩), .int .i64 ax, .pointer (some ⟨w.heap.size, 0, none⟩), .int .i64 px, .bool true, .pointer (some ⟨b1, 0, none⟩), .int .i64 bx, .pointer (some ⟨w.heap.size, 0, none⟩), .int .i64 px, .bool false, .bool false, .agg #[.int .i64 ax, .int .i64 ay], .agg #[.int .i64 bx, .int .i64 byy], u54, u55, u56, u57, u58, u59, u60, u61, u62, u63, u64, u65, u66, u67, undef], defers := [] } W := by
                  intro q0 q1 W Q0 Q1 hq hq0 hq1 cq
                  have m0 := Q0.two
                  have m1 := Q1.two
                  have hq' : q1 ≠ q0 := Ne.symm hq
                  obtain ⟨n0, n1, n2, n3, z0, z1, cb⟩ := id cq
                  have CB := Lib.hid cb
                  have hl0 : b0 < w1.heap.size := HL0.out
                  have hl1 : b1 < w1.heap.size := HL1.out
                  have hw1 : w.heap.size < w1.heap.size := HW1.out
                  have sto : ∀ (a : World) (q : Nat) (i : Nat) (v : Value), w1.heap.size ≤ q → (fun v : World => v.cell? ⟨b0, 0, none⟩ = some (.int .i64 ax) ∧ v.cell? ⟨b0, 1, none⟩ = some (.int .i64 ay) ∧ v.cell? ⟨b1, 0, none⟩ = some (.int .i64 bx) ∧ v.cell? ⟨b1, 1, none⟩ = some (.int .i64 byy) ∧ v.cell? ⟨w.heap.size, 0, none⟩ = some (.int .i64 px) ∧ v.cell? ⟨w.heap.size, 1, none⟩ = some (.int .i64 py) ∧ Below w.heap.size w v) a → (fun v : World => v.cell? ⟨b0, 0, none⟩ = some (.int .i64 ax) ∧ v.cell? ⟨b0, 1, none⟩ = some (.int .i64 ay) ∧ v.cell? ⟨b1, 0, none⟩ = some (.int .i64 bx) ∧ v.cell? ⟨b1, 1, none⟩ = some (.int .i64 byy) ∧ v.cell? ⟨w.heap.size, 0, none⟩ = some (.int .i64 px) ∧ v.cell? ⟨w.heap.size, 1, none⟩ = some (.int .i64 py) ∧ Below w.heap.size w v) (a.setCell ⟨q, i, none⟩ v) := fun a q i v hl ⟨h0, h1, h2, h3, h4, h5, h6⟩ =>
                    ⟨cell_set h0 (by show q ≠ b0; omega), cell_set h1 (by show q ≠ b0; omega), cell_set h2 (by show q ≠ b1; omega), cell_set h3 (by show q ≠ b1; omega), cell_set h4 (by show q ≠ w.heap.size; omega), cell_set h5 (by show q ≠ w.heap.size; omega), h6.setCell (p := ⟨q, i, none⟩) (by show w.heap.size ≤ q; omega) _⟩
                  have ST := Lib.hid sto
                  have HQ0 := Lib.hid hq0
                  have HQB := Lib.hid (And.intro Q0 Q1)
                  have HQ1 := Lib.hid hq1
                  clear sto cb Q0 Q1 hq0 hq1 hl0 hl1 hw1
                  go_wp2_with fail
                  go_region_held3 (fun v : World => v.cell? ⟨b0, 0, none⟩ = some (.int .i64 ax) ∧ v.cell? ⟨b0, 1, none⟩ = some (.int .i64 ay) ∧ v.cell? ⟨b1, 0, none⟩ = some (.int .i64 bx) ∧ v.cell? ⟨b1, 1, none⟩ = some (.int .i64 byy) ∧ v.cell? ⟨w.heap.size, 0, none⟩ = some (.int .i64 px) ∧ v.cell? ⟨w.heap.size, 1, none⟩ = some (.int .i64 py) ∧ Below w.heap.size w v) (first | with_reducible exact HD1.out _ cq | with_reducible exact HD1.out _ (ST.out _ _ _ _ HQ0.out (ST.out _ _ _ _ HQ0.out cq)) | with_reducible exact HD1.out _ (ST.out _ _ _ _ HQ1.out (ST.out _ _ _ _ HQ1.out cq)) | with_reducible exact HD1.out _ (ST.out _ _ _ _ HQ1.out (ST.out _ _ _ _ HQ1.out (ST.out _ _ _ _ HQ0.out (ST.out _ _ _ _ HQ0.out cq)))) | with_reducible exact HD1.out _ (ST.out _ _ _ _ HQ0.out (ST.out _ _ _ _ HQ0.out (ST.out _ _ _ _ HQ1.out (ST.out _ _ _ _ HQ1.out cq))))) (fail)
                  have C5 : (fun v : World => v.cell? ⟨b0, 0, none⟩ = some (.int .i64 ax) ∧ v.cell? ⟨b0, 1, none⟩ = some (.int .i64 ay) ∧ v.cell? ⟨b1, 0, none⟩ = some (.int .i64 bx) ∧ v.cell? ⟨b1, 1, none⟩ = some (.int .i64 byy) ∧ v.cell? ⟨w.heap.size, 0, none⟩ = some (.int .i64 px) ∧ v.cell? ⟨w.heap.size, 1, none⟩ = some (.int .i64 py) ∧ Below w.heap.size w v) ((((W.setCell ⟨q0, 0, none⟩ (.int .i64 bx)).setCell ⟨q0, 1, none⟩ (.int .i64 byy)).setCell ⟨q1, 0, none⟩ (.int .i64 ax)).setCell ⟨q1, 1, none⟩ (.int .i64 ay)).drew := HD1.out _ (ST.out _ _ _ _ HQ1.out (ST.out _ _ _ _ HQ1.out (ST.out _ _ _ _ HQ0.out (ST.out _ _ _ _ HQ0.out cq))))
                  have B0 : Blk ((((W.setCell ⟨q0, 0, none⟩ (.int .i64 bx)).setCell ⟨q0, 1, none⟩ (.int .i64 byy)).setCell ⟨q1, 0, none⟩ (.int .i64 ax)).setCell ⟨q1, 1, none⟩ (.int .i64 ay)).drew q0 #[.int .i64 bx, .int .i64 byy] 24 := ((((HQB.out.1.set 0 _).set 1 _).other (a := ⟨q1, 0, none⟩) hq _).other (a := ⟨q1, 1, none⟩) hq _).drew
                  have B1 : Blk ((((W.setCell ⟨q0, 0, none⟩ (.int .i64 bx)).setCell ⟨q0, 1, none⟩ (.int .i64 byy)).setCell ⟨q1, 0, none⟩ (.int .i64 ax)).setCell ⟨q1, 1, none⟩ (.int .i64 ay)).drew q1 #[.int .i64 ax, .int .i64 ay] 24 := ((((HQB.out.2.other (a := ⟨q0, 0, none⟩) hq' _).other (a := ⟨q0, 1, none⟩) hq' _).set 0 _).set 1 _).drew
                  clear n0 n1 n2 n3 z0 z1 m0 m1 cq
                  generalize ((((W.setCell ⟨q0, 0, none⟩ (.int .i64 bx)).setCell ⟨q0, 1, none⟩ (.int .i64 byy)).setCell ⟨q1, 0, none⟩ (.int .i64 ax)).setCell ⟨q1, 1, none⟩ (.int .i64 ay)).drew = W5 at *
                  obtain ⟨n0, n1, n2, n3, z0, z1, cb⟩ := C5
                  have m0 := B0.two
                  have m1 := B1.two
                  have HB3 := Lib.hid cb
                  clear B0 B1 cb hq hq'
                  go_wp2_with fail
                  refine (KT.out _).mono ?_
                  rintro e w2 ⟨rfl, hb2⟩
                  have HC := Lib.hid (And.intro (cell_grew z0 hb2) (And.intro (cell_grew z1 hb2) (grow HB3.out hb2)))
                  clear hb2 z0 z1
                  by_cases hneg : t < 0
                  · rw [decide_eq_true hneg] at HRES
                    go_wp2
                    go_roundw
                    case rel => exact ⟨k + 1, !o, by omega, val_int (by omega), rfl, HC, by rw [show (!o) = (o != true) by cases o <;> rfl]; exact HRES⟩
                    case measure => simp only [intOf]; omega
                  · rw [decide_eq_false hneg] at HRES
                    go_wp2
                    go_roundw
                    case rel => exact ⟨k + 1, o, by omega, val_int (by omega), rfl, HC, by rw [show (o != false) = o by cases o <;> rfl] at HRES; exact HRES⟩
                    case measure => simp only [intOf]; omega

                have REST2 := Lib.hid rest2
                clear rest2
                go_region_held3 (fun v : World => v.cell? ⟨b0, 0, none⟩ = some (.int .i64 ax) ∧ v.cell? ⟨b0, 1, none⟩ = some (.int .i64 ay) ∧ v.cell? ⟨b1, 0, none⟩ = some (.int .i64 bx) ∧ v.cell? ⟨b1, 1, none⟩ = some (.int .i64 byy) ∧ v.cell? ⟨w.heap.size, 0, none⟩ = some (.int .i64 px) ∧ v.cell? ⟨w.heap.size, 1, none⟩ = some (.int .i64 py) ∧ Below w.heap.size w v) (first | exact HD1.out _ hS1 | exact HA1.out _ _ (by assumption) | exact HA1.out _ _ (HA1.out _ _ (by assumption)) | exact HA1.out _ _ (HD1.out _ hS1) | exact HD1.out _ (HA1.out _ _ (HA1.out _ _ hS1)) | assumption) (fail)
                all_goals
                  refine REST2.out _ _ _ ?_ ?_ (by have := HW1.out; omega) (by have := HW1.out; omega) (by have := HW1.out; omega) (HD1.out _ (HA1.out _ _ (HA1.out _ _ hS1)))
                  all_goals first | exact (two_at w1 rfl _ _ _).1 | exact (two_at w1 rfl _ _ _).2

            · by_cases hbx : px < bx
              · have hx : crossV ⟨ax, ay⟩ ⟨bx, byy⟩ ⟨px, py⟩ = decide (turnZ ⟨ax, ay⟩ ⟨bx, byy⟩ ⟨px, py⟩ < 0) := by
                  unfold crossV; dsimp only; rw [decide_eq_false hax, decide_eq_true hbx, if_pos hbx]; rfl
                rw [hx] at HRES
                have hgt : ¬ bx < ax := by omega
                have da : decide (px < ax) = false := decide_eq_false hax
                have db : decide (px < bx) = true := decide_eq_true hbx
                clear hx hax hbx
                have kt := refTurn_any ⟨ax, ay⟩ ⟨bx, byy⟩ ⟨px, py⟩ HMA.out HMB.out HP.out
                generalize turnZ ⟨ax, ay⟩ ⟨bx, byy⟩ ⟨px, py⟩ = t at *
                have KT := Lib.hid kt
                clear kt
                go_wp2_with fail
                rename_i K13 hK13
                have hS1 : (fun v : World => v.cell? ⟨b0, 0, none⟩ = some (.int .i64 ax) ∧ v.cell? ⟨b0, 1, none⟩ = some (.int .i64 ay) ∧ v.cell? ⟨b1, 0, none⟩ = some (.int .i64 bx) ∧ v.cell? ⟨b1, 1, none⟩ = some (.int .i64 byy) ∧ v.cell? ⟨w.heap.size, 0, none⟩ = some (.int .i64 px) ∧ v.cell? ⟨w.heap.size, 1, none⟩ = some (.int .i64 py) ∧ Below w.heap.size w v) w1 := ⟨f0.1, f0.2.1, f1.1, f1.2.1, y0, y1, HB2.out⟩
                clear f0 f1 y0 y1
                have keep : ∀ a b : World, Below a.heap.size a b → (fun v : World => v.cell? ⟨b0, 0, none⟩ = some (.int .i64 ax) ∧ v.cell? ⟨b0, 1, none⟩ = some (.int .i64 ay) ∧ v.cell? ⟨b1, 0, none⟩ = some (.int .i64 bx) ∧ v.cell? ⟨b1, 1, none⟩ = some (.int .i64 byy) ∧ v.cell? ⟨w.heap.size, 0, none⟩ = some (.int .i64 px) ∧ v.cell? ⟨w.heap.size, 1, none⟩ = some (.int .i64 py) ∧ Below w.heap.size w v) a → (fun v : World => v.cell? ⟨b0, 0, none⟩ = some (.int .i64 ax) ∧ v.cell? ⟨b0, 1, none⟩ = some (.int .i64 ay) ∧ v.cell? ⟨b1, 0, none⟩ = some (.int .i64 bx) ∧ v.cell? ⟨b1, 1, none⟩ = some (.int .i64 byy) ∧ v.cell? ⟨w.heap.size, 0, none⟩ = some (.int .i64 px) ∧ v.cell? ⟨w.heap.size, 1, none⟩ = some (.int .i64 py) ∧ Below w.heap.size w v) b := fun a b hb ⟨h0, h1, h2, h3, h4, h5, h6⟩ => ⟨cell_grew h0 hb, cell_grew h1 hb, cell_grew h2 hb, cell_grew h3 hb, cell_grew h4 hb, cell_grew h5 hb, grow h6 hb⟩
                have drew : ∀ a : World, (fun v : World => v.cell? ⟨b0, 0, none⟩ = some (.int .i64 ax) ∧ v.cell? ⟨b0, 1, none⟩ = some (.int .i64 ay) ∧ v.cell? ⟨b1, 0, none⟩ = some (.int .i64 bx) ∧ v.cell? ⟨b1, 1, none⟩ = some (.int .i64 byy) ∧ v.cell? ⟨w.heap.size, 0, none⟩ = some (.int .i64 px) ∧ v.cell? ⟨w.heap.size, 1, none⟩ = some (.int .i64 py) ∧ Below w.heap.size w v) a → (fun v : World => v.cell? ⟨b0, 0, none⟩ = some (.int .i64 ax) ∧ v.cell? ⟨b0, 1, none⟩ = some (.int .i64 ay) ∧ v.cell? ⟨b1, 0, none⟩ = some (.int .i64 bx) ∧ v.cell? ⟨b1, 1, none⟩ = some (.int .i64 byy) ∧ v.cell? ⟨w.heap.size, 0, none⟩ = some (.int .i64 px) ∧ v.cell? ⟨w.heap.size, 1, none⟩ = some (.int .i64 py) ∧ Below w.heap.size w v) a.drew := fun a ⟨h0, h1, h2, h3, h4, h5, h6⟩ => ⟨h0, h1, h2, h3, h4, h5, h6.drew⟩
                have HD1 := Lib.hid drew
                have alc : ∀ (a : World) (o : Obj), (fun v : World => v.cell? ⟨b0, 0, none⟩ = some (.int .i64 ax) ∧ v.cell? ⟨b0, 1, none⟩ = some (.int .i64 ay) ∧ v.cell? ⟨b1, 0, none⟩ = some (.int .i64 bx) ∧ v.cell? ⟨b1, 1, none⟩ = some (.int .i64 byy) ∧ v.cell? ⟨w.heap.size, 0, none⟩ = some (.int .i64 px) ∧ v.cell? ⟨w.heap.size, 1, none⟩ = some (.int .i64 py) ∧ Below w.heap.size w v) a → (fun v : World => v.cell? ⟨b0, 0, none⟩ = some (.int .i64 ax) ∧ v.cell? ⟨b0, 1, none⟩ = some (.int .i64 ay) ∧ v.cell? ⟨b1, 0, none⟩ = some (.int .i64 bx) ∧ v.cell? ⟨b1, 1, none⟩ = some (.int .i64 byy) ∧ v.cell? ⟨w.heap.size, 0, none⟩ = some (.int .i64 px) ∧ v.cell? ⟨w.heap.size, 1, none⟩ = some (.int .i64 py) ∧ Below w.heap.size w v) (a.alloc o) := fun a o h => keep _ _ ((Below.refl _ a).alloc (Nat.le_refl _) o) h
                have HA1 := Lib.hid alc
                clear keep drew alc
                have HW1 : Hid (w.heap.size < w1.heap.size) := Lib.hid (World.block_lt_of_cell? _ _ hS1.2.2.2.2.1)
                have HL0 : Hid (b0 < w1.heap.size) := Lib.hid (World.block_lt_of_cell? _ _ hS1.1)
                have HL1 : Hid (b1 < w1.heap.size) := Lib.hid (World.block_lt_of_cell? _ _ hS1.2.2.1)
                have rest2 : ∀ (q0 q1 : Nat) (W : World), Blk W q0 #[.int .i64 ax, .int .i64 ay] 24 → Blk W q1 #[.int .i64 bx, .int .i64 byy] 24 → q0 ≠ q1 → w1.heap.size ≤ q0 → w1.heap.size ≤ q1 → (fun v : World => v.cell? ⟨b0, 0, none⟩ = some (.int .i64 ax) ∧ v.cell? ⟨b0, 1, none⟩ = some (.int .i64 ay) ∧ v.cell? ⟨b1, 0, none⟩ = some (.int .i64 bx) ∧ v.cell? ⟨b1, 1, none⟩ = some (.int .i64 byy) ∧ v.cell? ⟨w.heap.size, 0, none⟩ = some (.int .i64 px) ∧ v.cell? ⟨w.heap.size, 1, none⟩ = some (.int .i64 py) ∧ Below w.heap.size w v) W → K13 { tmps := #[.slice (some p) n c, .agg #[.int .i64 px, .int .i64 py], undef, .pointer (some ⟨w.heap.size, 0, none⟩), u4, .bool o, .int .i64 k, .pointer (some ⟨b0, 0, none⟩), .pointer (some ⟨b1, 0, none⟩), .pointer (some ⟨q0, 0, none⟩), .pointer (some ⟨q1, 0, none⟩), .slice (some p) n c, .int .i64 n, .bool false, .int .i64 k, .slice (some p) n c, .int .i64 n, .bool true, u18, u19, .slice (some p) n c, .int .i64 k, .pointer (some (p.add (k * 2))), .agg #[.int .i64 ax, .int .i64 ay], .slice (some p) n c, .pointer (some p), .agg #[.int .i64 bx, .int .i64 byy], .int .i64 k, .int .i64 ((k : Int) + 1), .slice (some p) n c, .int .i64 n, .bool false, u32, u33, u34, u35, u36, .agg #[.int .i64 ax, .int .i64 ay], .agg #[.int .i64 bx, .int .i64 byy], .agg #[.int .i64 px, .int .i64 py], .bool false, .pointer (some ⟨b0, 0, none⟩), .int .i64 ax, .pointer (some ⟨w.heap.size, 0, none⟩), .int .i64 px, .bool false, .pointer (some ⟨b1, 0, none⟩), .int .i64 bx, .pointer (some ⟨w.heap.size, 0, none⟩), .int .i64 px, .bool true, .bool false, .agg #[.int .i64 ax, .int .i64 ay], .agg #[.int .i64 bx, .int .i64 byy], u54, u55, u56, u57, u58, u59, u60, u61, u62, u63, u64, u65, u66, u67, undef], defers := [] } W := by
                  intro q0 q1 W Q0 Q1 hq hq0 hq1 cq
                  have m0 := Q0.two
                  have m1 := Q1.two
                  have z0 := cq.2.2.2.2.1
                  have z1 := cq.2.2.2.2.2.1
                  have HB3 := Lib.hid cq.2.2.2.2.2.2
                  have n0 := cq.1
                  have n1 := cq.2.1
                  have n2 := cq.2.2.1
                  have n3 := cq.2.2.2.1
                  clear Q0 Q1 cq
                  go_wp2_with fail
                  refine (KT.out _).mono ?_
                  rintro e w2 ⟨rfl, hb2⟩
                  have HC := Lib.hid (And.intro (cell_grew z0 hb2) (And.intro (cell_grew z1 hb2) (grow HB3.out hb2)))
                  clear hb2 z0 z1
                  by_cases hneg : t < 0
                  · rw [decide_eq_true hneg] at HRES
                    go_wp2
                    go_roundw
                    case rel => exact ⟨k + 1, !o, by omega, val_int (by omega), rfl, HC, by rw [show (!o) = (o != true) by cases o <;> rfl]; exact HRES⟩
                    case measure => simp only [intOf]; omega
                  · rw [decide_eq_false hneg] at HRES
                    go_wp2
                    go_roundw
                    case rel => exact ⟨k + 1, o, by omega, val_int (by omega), rfl, HC, by rw [show (o != false) = o by cases o <;> rfl] at HRES; exact HRES⟩
                    case measure => simp only [intOf]; omega

                have REST2 := Lib.hid rest2
                clear rest2
                go_region_held3 (fun v : World => v.cell? ⟨b0, 0, none⟩ = some (.int .i64 ax) ∧ v.cell? ⟨b0, 1, none⟩ = some (.int .i64 ay) ∧ v.cell? ⟨b1, 0, none⟩ = some (.int .i64 bx) ∧ v.cell? ⟨b1, 1, none⟩ = some (.int .i64 byy) ∧ v.cell? ⟨w.heap.size, 0, none⟩ = some (.int .i64 px) ∧ v.cell? ⟨w.heap.size, 1, none⟩ = some (.int .i64 py) ∧ Below w.heap.size w v) (first | exact HD1.out _ hS1 | exact HA1.out _ _ (by assumption) | exact HA1.out _ _ (HA1.out _ _ (by assumption)) | exact HA1.out _ _ (HD1.out _ hS1) | exact HD1.out _ (HA1.out _ _ (HA1.out _ _ hS1)) | assumption) (fail)
                all_goals
                  refine REST2.out _ _ _ ?_ ?_ (by have := HW1.out; omega) (by have := HW1.out; omega) (by have := HW1.out; omega) (HD1.out _ (HA1.out _ _ (HA1.out _ _ hS1)))
                  all_goals first | exact (two_at w1 rfl _ _ _).1 | exact (two_at w1 rfl _ _ _).2

              · have hx : (o != crossV ⟨ax, ay⟩ ⟨bx, byy⟩ ⟨px, py⟩) = o := by
                  unfold crossV; dsimp only; rw [decide_eq_false hax, decide_eq_false hbx]; cases o <;> rfl
                rw [hx] at HRES
                have da : decide (px < ax) = false := decide_eq_false hax
                have db : decide (px < bx) = false := decide_eq_false hbx
                clear hx hax hbx
                have HC := Lib.hid (And.intro y0 (And.intro y1 HB2.out))
                go_wp2
                go_roundw
                case rel => exact ⟨k + 1, o, by omega, val_int (by omega), rfl, HC, HRES⟩
                case measure => simp only [intOf]; omega

        have REST := Lib.hid rest
        clear rest
        go_region_held3 (fun v : World => v.cell? (p.add (k * 2)) = some (.int .i64 ax) ∧ v.cell? ⟨(p.add (k * 2)).block, (p.add (k * 2)).off + 1, none⟩ = some (.int .i64 ay) ∧ v.cell? (p) = some (.int .i64 bx) ∧ v.cell? ⟨p.block, p.off + 1, none⟩ = some (.int .i64 byy) ∧ v.cell? ⟨w.heap.size, 0, none⟩ = some (.int .i64 px) ∧ v.cell? ⟨w.heap.size, 1, none⟩ = some (.int .i64 py) ∧ Below w.heap.size w v) (first | exact HD.out _ hS0 | exact HA.out _ _ (by assumption) | exact HA.out _ _ (HA.out _ _ (by assumption)) | exact HA.out _ _ (HD.out _ hS0) | exact HD.out _ (HA.out _ _ (HA.out _ _ hS0)) | assumption) (fail)
        all_goals
          refine REST.out _ _ _ ?_ ?_ (HD.out _ (HA.out _ _ (HA.out _ _ hS0))) (by have := HWR.out; omega) (by have := HWR.out; omega) (by have := HWR.out; omega)
          all_goals first | exact (two_at wr rfl _ _ _).1 | exact (two_at wr rfl _ _ _).2
    · obtain rfl : k = n := by omega
      have hres : refIn ⟨px, py⟩ (edgesOf l) false = if o then 1 else -1 := by
        rw [HG.out, List.drop_eq_nil_of_le (by simp [edgesOf, HN.out])]; rfl
      have HRES := Lib.hid hres
      clear hres
      cases o
      · go_wp2
        go_ret
        exact ⟨ret_int HRES.out.symm, HW.out.2.2⟩
      · go_wp2
        go_ret
        exact ⟨ret_int HRES.out.symm, HW.out.2.2⟩
end Go.Proofs.Ytkneohngbkmlpaa
