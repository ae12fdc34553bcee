/- Walks: Crash. -/
import Derived.Test.YtfmdmfiljplkoaaGreatDs
import Derived.Test.YtfmdmfiljplkoaaGreatHeld
import Derived.Test.YtfmdmfiljplkoaaGreatFree
namespace Go.Proofs.YtfmdmfiljplkoaaGreat
open Go.RowKit Go.Maps
variable {ι : Type} [Bar ι]
theorem Byt.rdv {w : World} {p : Addr} {n c : Nat} {l : List Nat} (h : Byt w (.slice (some p) n c) l) : Rd w w.heap.size (some p) l := by
  obtain ⟨p', c', e, _, r⟩ := h.rd
  injection e with e _ _
  injection e with e
  rw [e]; exact r
section
variable {b m : Nat} {vl : Value} {D : Dsk} {w w' : World}
theorem kept_form (a : Int) (h0 : -9223372036854775808 ≤ a) (h1 : a ≤ 9223372036854775807) (h : DiskAt w b m vl D) :
    Calls Tryz.prog 203 #[.pointer (some ⟨b, 0, none⟩), .int .i64 a] w fun e w' => ∃ v, e = .returned v ∧ ∃ p c, v = .slice (some p) D.size c ∧ Byt w' (.slice (some p) D.size c) (D.fast a) ∧ Below w.heap.size w w' := by
  have hl := h.ok.len a
  refine (kept_any a h0 h1 h).mono ?_
  rintro e w' ⟨v, rfl, hb, hw⟩
  obtain ⟨p, c, e, _, _⟩ := hb.rd
  rw [hl] at e
  exact ⟨v, rfl, p, c, e, e ▸ hb, hw⟩
/-- A disk in the middle of a crash, of which w0 was the world ahead; block F holds the fates that are left. -/
structure CrAt (w0 v : World) (b m : Nat) (vl : Value) (D : Dsk) (F : Nat) (fs : List Int) : Prop where
  disk : DiskAt v b m vl D
  turn : Turn (own b m vl) w0 v
  fat : Fat v F (own b m vl) fs
  low : ∀ k ∈ own b m vl, k < w0.heap.size
  hF : w0.heap.size ≤ F
variable {w0 v v' : World} {F : Nat} {fs fs' : List Int}
end
namespace Dsk
/-- When k loose writes have had their fates. -/
def cr (d : Dsk) (fs : List Int) (k : Nat) : Dsk := { d with fast := crashed d.size fs d.fast d.loose k }
end Dsk
end Go.Proofs.YtfmdmfiljplkoaaGreat
