/- Walks: strings of bytes; a log of the call's own on a disk of the call's own. -/
import Derived.Test.YtklppnknllbfnaaGreatA1
import Derived.Laws.IdiomStrings
import Derived.Lib.BufferRead
namespace Go.Proofs.YtklppnknllbfnaaGreat
open Go.RowKit Go.Maps
set_option maxRecDepth 8000

theorem Byt.of_own' {w : World} {base : Nat} {p : Addr} {n c : Nat} {l : List Nat} (h : Own w base (.slice (some p) n c) l) : Byt w (.slice (some p) n c) l := by
  refine ⟨h.1, ?_⟩
  rcases h.2.2 with ⟨e, h0⟩ | ⟨g, cap, cur, e, hb, hg, hnc, _⟩
  · cases e
  · exact ⟨_, _, e, hnc, ⟨_, _, hg⟩, fun k hk => World.ownsRow.cells h.2 (g := g) (by rw [e]; rfl) k _ (cells_get hk)⟩

theorem exec_convert {P : Program} {ev : Operand → Value} {o : Oper} (t1 t2 : TypeId) (x : Operand) (ho : o.op = .convert t1 t2 x) {vx r : Value} {w : World} (hx : ev x = vx) (hr : (convert t1 t2 vx).run P w = .ok r w) : (execOp ev o).run P w = .ok (.value r) w := by
  unfold execOp
  simp only [ho, Sem.run_bind, Sem.run_pure, Result.andThen_ok, hx, hr]
theorem Byt.strv {w : World} {p : Addr} {n c : Nat} {l : List Nat} (h : Byt w (.slice (some p) n c) l) : (convert 31 9 (.slice (some p) n c)).run Tryz.prog w = .ok (.string (str l)) w := by
  have e := h.len_val
  subst e
  exact run_str c h.rdv
theorem Byt.strw {w : World} {v : Value} {l : List Nat} (h : Byt w v l) : (convert 31 9 v).run Tryz.prog w = .ok (.string (str l)) w := by
  obtain ⟨p, c, e, _, r⟩ := h.rd
  subst e
  exact run_str c r
theorem IRd.lit (w : World) (x : Int) (h : -9223372036854775808 ≤ x ∧ x ≤ 9223372036854775807) : IRd (w.alloc (.cells #[.int .i64 x] 3)) (some ⟨w.heap.size, 0, none⟩) [x] := by
  refine ⟨by simpa using h, fun _ => ⟨_, rfl, by simp, fun k hk => ?_⟩⟩
  have : k = 0 := by simp at hk; omega
  subst this
  exact (Blk.new' w #[.int .i64 x] 3 rfl).cell 0

/-! ### what an append keeps -/
theorem goApp_keeps : ∀ (g : List (Int × List Nat)) (D : Dsk) (L : Lg), (goApp D L g).2.1.loose.length ≤ D.loose.length + g.length ∧ (goApp D L g).2.1.size = D.size ∧ (goApp D L g).2.1.sectors = D.sectors ∧
    (goApp D L g).2.2.first = L.first ∧ (goApp D L g).2.2.count = L.count ∧ (goApp D L g).2.2.epoch = L.epoch ∧ (goApp D L g).2.2.next ≤ L.next + g.length
  | [], D, L => ⟨Dsk.flush_loose, Dsk.flush_sectors.2, Dsk.flush_sectors.1, rfl, rfl, rfl, Nat.le_refl _⟩
  | c :: r, D, L => by
    have hl := Dsk.put_loose (d := D) ((L.first : Int) + L.next) (secOf D.size L c.1.toNat r.isEmpty c.2)
    have hs := Dsk.put_sectors (d := D) ((L.first : Int) + L.next) (secOf D.size L c.1.toNat r.isEmpty c.2)
    have ih := goApp_keeps r (D.put ((L.first : Int) + L.next) (secOf D.size L c.1.toNat r.isEmpty c.2)) { L with next := L.next + 1 }
    have e : goApp D L (c :: r) = if D.putErr ((L.first : Int) + L.next) (secOf D.size L c.1.toNat r.isEmpty c.2) ≠ 0 then
      (D.putErr ((L.first : Int) + L.next) (secOf D.size L c.1.toNat r.isEmpty c.2), D.put ((L.first : Int) + L.next) (secOf D.size L c.1.toNat r.isEmpty c.2), { L with next := L.next + 1, dead := true })
      else goApp (D.put ((L.first : Int) + L.next) (secOf D.size L c.1.toNat r.isEmpty c.2)) { L with next := L.next + 1 } r := rfl
    rw [e]
    split
    · exact ⟨by simp; omega, hs.2, hs.1, rfl, rfl, rfl, by simp⟩
    · obtain ⟨i1, i2, i3, i4, i5, i6, i7⟩ := ih
      refine ⟨?_, i2.trans hs.2, i3.trans hs.1, i4, i5, i6, ?_⟩
      · simp only [List.length_cons]; omega
      · simp only [List.length_cons] at i7 ⊢; omega
theorem app_keeps (D : Dsk) (L : Lg) (g : List (Int × List Nat)) : (app D L g).2.1.loose.length ≤ D.loose.length + g.length ∧ (app D L g).2.1.size = D.size ∧ (app D L g).2.1.sectors = D.sectors ∧
    (app D L g).2.2.first = L.first ∧ (app D L g).2.2.count = L.count ∧ (app D L g).2.2.epoch = L.epoch ∧ (L.Ok → (app D L g).2.2.Ok) := by
  unfold app
  split
  · rename_i h
    obtain ⟨i1, i2, i3, i4, i5, i6, i7⟩ := goApp_keeps g D L
    refine ⟨i1, i2, i3, i4, i5, i6, fun hL => ⟨by rw [i4]; exact hL.f, by rw [i5]; exact hL.c, by rw [i6]; exact hL.e, ?_⟩⟩
    rw [i5]
    unfold rightE at h
    split at h
    · omega
    · split at h
      · omega
      · split at h
        · omega
        · split at h
          · omega
          · omega
  · exact ⟨by simp, rfl, rfl, rfl, rfl, rfl, id⟩

variable {ι : Type} [Bar ι]
/-- A log in the call's own memory, on a disk there. -/
structure LSt (w0 v : World) (b m : Nat) (vl : Value) (D : Dsk) (G : Nat) (L : Lg) : Prop where
  dk : Dk w0 v b m vl D
  log : LogIn v G b L
  ok : L.Ok
  gl : w0.heap.size ≤ G
section
variable {w0 v v' : World} {b m G n c : Nat} {vl vl' : Value} {D D' : Dsk} {L L' : Lg} {A : Option Addr} {g : List (Int × List Nat)}
theorem LSt.grew (h : LSt w0 v b m vl D G L) (k : Below v.heap.size v v') : LSt w0 v' b m vl D G L := ⟨h.dk.grew k, LogIn.grew h.log k, h.ok, h.gl⟩
theorem LSt.drew (h : LSt w0 v b m vl D G L) : LSt w0 v.drew b m vl D G L := h.grew ⟨rfl, rfl, rfl, Nat.le_refl _, fun _ _ => rfl⟩
theorem LSt.went (h : LSt w0 v b m vl D G L) (hd : DiskAt v' b m vl' D') (hl : LogIn v' G b L') (hok : L'.Ok) (k : Went v v' G b m vl vl') : LSt w0 v' b m vl' D' G L' := by
  refine ⟨⟨hd, h.dk.low.trans (k.1.below h.dk.low.size (fun j hj => ?_)), fun j hj => ?_⟩, hl, hok, h.gl⟩
  · rcases List.mem_cons.1 hj with rfl | hj
    · exact h.gl
    · exact h.dk.lo j hj
  · rcases mem_own.1 hj with e | e | e
    · exact h.dk.lo j (mem_own.2 (.inl e))
    · exact h.dk.lo j (mem_own.2 (.inr (.inl e)))
    · rcases k.2 j e with e | e
      · exact h.dk.lo j (mem_own.2 (.inr (.inr e)))
      · exact Nat.le_trans h.dk.low.size e
/-- Append. -/
theorem Append_st (h : LSt w0 v b m vl D G L) (hn : g.length = n) (hc : Chg v (.slice A n c) g) (hnb : (n : Int) ≤ 1000000) (hL : D.loose.length ≤ 900000000) :
    Calls Tryz.prog 68 #[.pointer (some ⟨G, 0, none⟩), .slice A n c] v fun e v' => e = .returned (.int .i64 (app D L g).1) ∧ ∃ vl', LSt w0 v' b m vl' (app D L g).2.1 G (app D L g).2.2 ∧ Went v v' G b m vl vl' := by
  refine (Append_any h.dk.disk h.log h.ok g n c hn A hc hnb hL _ rfl).mono ?_
  rintro e v' ⟨rfl, vl', h1, h2, h3⟩
  exact ⟨rfl, vl', h.went h1 h2 ((app_keeps D L g).2.2.2.2.2.2 h.ok) h3, h3⟩
theorem Start_st (h : Dk w0 v b m vl D) (f c e : Nat) (hk : okAt D f c = true) (he : okEp e = true) :
    Calls Tryz.prog 81 #[.pointer (some ⟨b, 0, none⟩), .int .i64 f, .int .i64 c, .int .i64 e] v fun r v' => ∃ G, r = .returned (.tuple #[.pointer (some ⟨G, 0, none⟩), .int .i64 0]) ∧ LSt w0 v' b m vl D G ⟨f, c, e, 0, false⟩ ∧ v.heap.size ≤ G ∧ Below v.heap.size v v' := by
  refine (Start_ok h.disk f c e hk he).mono ?_
  rintro r v' ⟨G, rfl, h1, h2, h3⟩
  have hs2 := h.disk.ok.s2
  unfold okAt at hk
  have hk2 := of_decide_eq_true hk
  unfold okEp at he
  have he2 := of_decide_eq_true he
  exact ⟨G, rfl, ⟨h.grew h3, h1, ⟨by show f ≤ _; omega, by show c ≤ _; omega, by show 1 ≤ e ∧ e ≤ _; omega, Nat.zero_le _⟩, Nat.le_trans h.low.size h2⟩, h2, h3⟩
/-- Two changes in a block of their own. -/
theorem Chg.two {w : World} {g : Nat} {x y : Int} {u v : Value} {l k : List Nat} (h : Blk w g #[.int .i64 x, u, .int .i64 y, v] 94) (hu : Byt w u l) (hv : Byt w v k) : Chg w (.slice (some ⟨g, 0, none⟩) 2 2) [(x, l), (y, k)] := by
  refine ⟨[(x, u), (y, v)], rfl, ?_, fun j hj => ?_⟩
  · refine ⟨rfl, .inr ⟨g, 2, _, rfl, Nat.zero_le _, h, by simp, ?_⟩⟩
    simp [wcells]; decide
  · match j, hj with
    | 0, _ => exact ⟨u, rfl, hu⟩
    | 1, _ => exact ⟨v, rfl, hv⟩
/-- The first group's row. -/
theorem Grps.one {w : World} {v : Value} {l : List (Int × List Nat)} {B : Nat} (h : Grps w v [l] B) : ∃ g c u, v = .slice (some ⟨g, 0, none⟩) 1 c ∧ w.cell? ⟨g, 0, none⟩ = some u ∧ Chg w u l := by
  obtain ⟨vs, h1, ho, h2⟩ := h
  obtain ⟨u, e, _, hu, _⟩ := h2 0 (by simp)
  rcases id ho.2 with ⟨_, h0⟩ | ⟨g, cap, cur, rfl, _⟩
  · simp at h0
  · exact ⟨g, cap, u, rfl, World.ownsRow.cells ho (g := g) rfl _ _ e, hu⟩
end
end Go.Proofs.YtklppnknllbfnaaGreat
