/- Acts on a live pool on a calm disk; rows of acts. -/
import Derived.Test.YtklppnknllbfnaaGreatC5
namespace Go.Proofs.YtklppnknllbfnaaGreat
open Go.RowKit Go.Maps
set_option maxRecDepth 8000
variable {ι : Type} [Bar ι]
section
variable {w0 v v' : World} {M M' : Mem} {S S' : Pl} {D D' : Dsk}
theorem take_epoch (S : Pl) (D : Dsk) : (S.take D).2.2.epoch = S.epoch := by unfold Pl.take; (repeat' split) <;> rfl
theorem give_epoch (S : Pl) (D : Dsk) (p : Int) : (S.give D p).2.epoch = S.epoch := by unfold Pl.give; (repeat' split) <;> rfl
theorem setRoot_epoch (S : Pl) (k n : Int) : (S.setRoot k n).2.epoch = S.epoch := by unfold Pl.setRoot; (repeat' split) <;> rfl
theorem write_epoch (S : Pl) (D : Dsk) (p : Int) (l : List Nat) : (S.write D p l).2.epoch = S.epoch := by unfold Pl.write; (repeat' split) <;> rfl
/-- What an act leaves of a live pool on a calm disk. -/
def Went1 (w0 v' : World) (M : Mem) (S : Pl) (D : Dsk) : Prop := ∃ M' S' D', Hand M M' ∧ Lp w0 v' M' S' D' ∧ Calm D' ∧ S'.epoch ≤ S.epoch + 1 ∧ D'.sectors = D.sectors ∧ D'.size = D.size
end
/-- An act. -/
structure ActP where
 k : Int
 pg : Int
 ln : Int
 B : Nat
def ActAt (w : World) (q : Addr) (x : ActP) : Prop := x.B < 256 ∧ w.cell? q = some (.int .i64 x.k) ∧ w.cell? (q.add 1) = some (.int .i64 x.pg) ∧ w.cell? (q.add 2) = some (.int .i64 x.ln) ∧ w.cell? (q.add 3) = some (.int .u8 (x.B : Nat))
/-- Acts in a row that lies below N. -/
def Acts (w : World) (N : Nat) (A : Option Addr) (l : List ActP) : Prop := l ≠ [] → ∃ p, A = some p ∧ p.block < N ∧ ∀ k (h : k < l.length), ActAt w (p.add (k * 4)) l[k]
theorem Acts.below {v v' : World} {N : Nat} {A : Option Addr} {l : List ActP} (h : Acts v N A l) (hb : Below N v v') : Acts v' N A l := by
 intro hn
 obtain ⟨p, e, hp, hc⟩ := h hn
 have hcell : ∀ q : Addr, q.block < N → v'.cell? q = v.cell? q := fun q hq => World.cell?_of_block (hb.block _ hq)
 refine ⟨p, e, hp, fun k hk => ?_⟩
 obtain ⟨h0, h1, h2, h3, h4⟩ := hc k hk
 have hq : (p.add (k * 4)).block < N := by rw [add_block]; exact hp
 exact ⟨h0, by rw [hcell _ hq]; exact h1, by rw [hcell _ (by rw [add_block]; exact hq)]; exact h2, by rw [hcell _ (by rw [add_block]; exact hq)]; exact h3, by rw [hcell _ (by rw [add_block]; exact hq)]; exact h4⟩
end Go.Proofs.YtklppnknllbfnaaGreat
