/- A pool, the document's pool and boxes beside one another: what acts leave of them. -/
import Derived.Test.YtklppnknllbfnaaGreatRh
import Derived.Test.YtklppnknllbfnaaGreatC6
namespace Go.Proofs.YtklppnknllbfnaaGreat
open Go.RowKit Go.Maps
set_option maxRecDepth 8000
variable {ι : Type} [Bar ι]
theorem RpAt.blt {w : World} {m : Rm} {R : Rp} (h : RpAt w m R) : ∀ g ∈ m.blocks, g < w.heap.size := fun g hg => by
 rcases mem_blocks.1 hg with e | e | e | e | e
 ·exact (World.ownsRow.lt h.nl g e).2
 ·exact (World.ownsRow.lt h.nf g e).2
 ·exact (World.ownsRow.lt h.wl g e).2
 ·exact (World.ownsRow.lt h.wf g e).2
 ·exact (World.ownsRow.lt h.cv g e).2
structure Qw (w0 v : World) (L : List Bx) (M : Mem) (S : Pl) (D : Dsk) (m : Rm) (R : Rp) : Prop where
 bx : Bxs w0 v L []
 lp : Lp w0 v M S D
 rp : RpAt v m R
 rd : RpD m M.own
 nb : ∀ e ∈ L, e.b ∉ M.own
section
variable {w0 v v' : World} {L L' : List Bx} {M M' : Mem} {S S' : Pl} {D D' : Dsk} {m m' : Rm} {R R' : Rp}
section
variable {ops : Array Oper} {rest : List Oper} {o : Oper} {a : Act} {Q : Exit → Act → World → Prop}
end
/-- A play's state. -/
structure Pw (w0 v : World) (B9 b s : Nat) (E : Nat) (M : Mem) (S : Pl) (D : Dsk) (m : Rm) (R : Rp) : Prop where
 q : Qw w0 v [⟨B9, pc m R, 48⟩] M S D m R
 calm : Calm D
 like : Like S D R
 ep : S.epoch ≤ E
 sec : D.sectors = s
 size : D.size = 512
 hb : M.b = b
theorem Like.keys {rows : List (List (Int × List Nat))} (h : Like S D R) (hi : InvR S D rows) : (S.pend.keys D.sectors).Perm R.ch := by
 refine (List.perm_ext_iff_of_nodup (List.nodup_range.filter _) h.chn).2 fun k => ?_
 show k ∈ S.pend.keys D.sectors ↔ _
 rw [h.ch, mem_keys]
 constructor
 ·rintro ⟨_, l, hl⟩
  refine ⟨fun e => ?_, l, hl⟩
  rw [e, hi.pz] at hl
  cases hl
 ·rintro ⟨_, l, hl⟩
  have := (hi.ok.pend k l hl).1
  unfold Pl.pages at this
  exact ⟨by omega, l, hl⟩
theorem Like.small {rows : List (List (Int × List Nat))} (h : Like S D R) (hi : InvR S D rows) (hs : D.sectors ≤ 900) : (R.now.loads.length ≤ 1000 ∧ R.now.free.length ≤ 1000 ∧ R.ch.length ≤ 1000) ∧ R.room ≤ 5000 ∧ ∀ k ∈ R.now.free, k < R.now.loads.length := by
 have h1 := hi.ok.now.n2
 have h2 := hi.ok.now.len
 have h3 := hi.ok.now.n1
 have h4 := (h.keys hi).length_eq
 have h5 : (S.pend.keys D.sectors).length ≤ D.sectors := keys_lenle
 have h6 := rm_le D
 unfold Pl.pages at h1
 refine ⟨⟨by rw [h.now.len]; omega, by rw [h.now.free]; omega, by omega⟩, by rw [h.room]; omega, fun k hk => ?_⟩
 rw [h.now.free] at hk
 rw [h.now.len]
 exact (hi.ok.now.fb k hk).2
end
end Go.Proofs.YtklppnknllbfnaaGreat
