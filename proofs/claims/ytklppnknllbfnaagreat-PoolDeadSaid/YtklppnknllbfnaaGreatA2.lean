/- Walks: strings of bytes; a log of the call's own on a disk of the call's own. -/
import Derived.Test.YtklppnknllbfnaaGreatA1
import Derived.Laws.IdiomStrings
import Derived.Lib.BufferRead
namespace Go.Proofs.YtklppnknllbfnaaGreat
open Go.RowKit Go.Maps
set_option maxRecDepth 8000
theorem Byt.of_own' {w : World} {base : Nat} {p : Addr} {n c : Nat} {l : List Nat} (h : Own w base (.slice (some p) n c) l) : Byt w (.slice (some p) n c) l := by
  refine ⟨h.1, ?_⟩
  rcases h.2.2 with ⟨e, h0⟩ | ⟨g, cap, cur, e, hb, hg, hnc, _⟩
  · cases e
  · exact ⟨_, _, e, hnc, ⟨_, _, hg⟩, fun k hk => World.ownsRow.cells h.2 (g := g) (by rw [e]; rfl) k _ (cells_get hk)⟩
theorem exec_convert {P : Program} {ev : Operand → Value} {o : Oper} (t1 t2 : TypeId) (x : Operand) (ho : o.op = .convert t1 t2 x) {vx r : Value} {w : World} (hx : ev x = vx) (hr : (convert t1 t2 vx).run P w = .ok r w) : (execOp ev o).run P w = .ok (.value r) w := by
  unfold execOp
  simp only [ho, Sem.run_bind, Sem.run_pure, Result.andThen_ok, hx, hr]
theorem Byt.strw {w : World} {v : Value} {l : List Nat} (h : Byt w v l) : (convert 31 9 v).run Tryz.prog w = .ok (.string (str l)) w := by
  obtain ⟨p, c, e, _, r⟩ := h.rd
  subst e
  exact run_str c r
theorem IRd.lit (w : World) (x : Int) (h : -9223372036854775808 ≤ x ∧ x ≤ 9223372036854775807) : IRd (w.alloc (.cells #[.int .i64 x] 3)) (some ⟨w.heap.size, 0, none⟩) [x] := by
  refine ⟨by simpa using h, fun _ => ⟨_, rfl, by simp, fun k hk => ?_⟩⟩
  have : k = 0 := by simp at hk; omega
  subst this
  exact (Blk.new' w #[.int .i64 x] 3 rfl).cell 0
/-! ### what an append keeps -/
variable {ι : Type} [Bar ι]
/-- A log in the call's own memory, on a disk there. -/
structure LSt (w0 v : World) (b m : Nat) (vl : Value) (D : Dsk) (G : Nat) (L : Lg) : Prop where
  dk : Dk w0 v b m vl D
  log : LogIn v G b L
  ok : L.Ok
  gl : w0.heap.size ≤ G
section
variable {w0 v v' : World} {b m G n c : Nat} {vl vl' : Value} {D D' : Dsk} {L L' : Lg} {A : Option Addr} {g : List (Int × List Nat)}
theorem LSt.grew (h : LSt w0 v b m vl D G L) (k : Below v.heap.size v v') : LSt w0 v' b m vl D G L := ⟨h.dk.grew k, LogIn.grew h.log k, h.ok, h.gl⟩
theorem LSt.drew (h : LSt w0 v b m vl D G L) : LSt w0 v.drew b m vl D G L := h.grew ⟨rfl, rfl, rfl, Nat.le_refl _, fun _ _ => rfl⟩
theorem LSt.went (h : LSt w0 v b m vl D G L) (hd : DiskAt v' b m vl' D') (hl : LogIn v' G b L') (hok : L'.Ok) (k : Went v v' G b m vl vl') : LSt w0 v' b m vl' D' G L' := by
  refine ⟨⟨hd, h.dk.low.trans (k.1.below h.dk.low.size (fun j hj => ?_)), fun j hj => ?_⟩, hl, hok, h.gl⟩
  · rcases List.mem_cons.1 hj with rfl | hj
    · exact h.gl
    · exact h.dk.lo j hj
  · rcases mem_own.1 hj with e | e | e
    · exact h.dk.lo j (mem_own.2 (.inl e))
    · exact h.dk.lo j (mem_own.2 (.inr (.inl e)))
    · rcases k.2 j e with e | e
      · exact h.dk.lo j (mem_own.2 (.inr (.inr e)))
      · exact Nat.le_trans h.dk.low.size e
/-- Two changes in a block of their own. -/
theorem Chg.two {w : World} {g : Nat} {x y : Int} {u v : Value} {l k : List Nat} (h : Blk w g #[.int .i64 x, u, .int .i64 y, v] 94) (hu : Byt w u l) (hv : Byt w v k) : Chg w (.slice (some ⟨g, 0, none⟩) 2 2) [(x, l), (y, k)] := by
  refine ⟨[(x, u), (y, v)], rfl, ?_, fun j hj => ?_⟩
  · refine ⟨rfl, .inr ⟨g, 2, _, rfl, Nat.zero_le _, h, by simp, ?_⟩⟩
    simp [wcells]; decide
  · match j, hj with
    | 0, _ => exact ⟨u, rfl, hu⟩
    | 1, _ => exact ⟨v, rfl, hv⟩
/-- The first group's row. -/
theorem Grps.one {w : World} {v : Value} {l : List (Int × List Nat)} {B : Nat} (h : Grps w v [l] B) : ∃ g c u, v = .slice (some ⟨g, 0, none⟩) 1 c ∧ w.cell? ⟨g, 0, none⟩ = some u ∧ Chg w u l := by
  obtain ⟨vs, h1, ho, h2⟩ := h
  obtain ⟨u, e, _, hu, _⟩ := h2 0 (by simp)
  rcases id ho.2 with ⟨_, h0⟩ | ⟨g, cap, cur, rfl, _⟩
  · simp at h0
  · exact ⟨g, cap, u, rfl, World.ownsRow.cells ho (g := g) rfl _ _ e, hu⟩
end
end Go.Proofs.YtklppnknllbfnaaGreat
