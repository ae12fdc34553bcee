/- Walks: recall. Printed by mk_p29.py. -/
import Derived.Test.YtfmdmfiljplkoaaGreatPD
import Derived.Lib.OwnBridge
namespace Go.Proofs.YtfmdmfiljplkoaaGreat
open Go.RowKit Go.Maps Go.Lib Go.Sort
set_option maxRecDepth 8000
variable {ι : Type} [Bar ι]
/-- What is known of a page without what was seen. -/
def Pl.val (S : Pl) (D : Dsk) (k : Nat) : List Nat := ((S.pend k).or (S.last k)).getD (placeL D S.first k)
/-- What was seen is what lies in the places. -/
def SeenF (S : Pl) (D : Dsk) (f : Pgs) : Prop := ∀ k l, f k = some l → k < S.pages D ∧ l = placeL D S.first k
/-- The page that was given back ahead of the i-th. -/
def prev (l : List Nat) (i : Nat) : Nat := if i = 0 then 0 else l[i - 1]?.getD 0
def R8.upto (s o : R8) : Nat → R8
  | 0 => o
  | k + 1 => (R8.upto s o k).set k (s.get k)
section
variable {w w' : World} {M M' M2 : Mem} {S : Pl} {D D' : Dsk} {b m : Nat} {vl : Value} {f : Pgs} {x : Sta}
theorem SeenF.ok (h : SeenF S D f) (hd : D.Ok) : f.Ok (S.pages D) D.rm := fun k l hk => ⟨(h k l hk).1, by rw [(h k l hk).2]; exact placeL_len hd⟩
theorem SeenF.put (h : SeenF S D f) {k : Nat} (hk : k < S.pages D) : SeenF S D (f.put k (placeL D S.first k)) := by
  intro j l hj
  unfold Pgs.put at hj
  split at hj
  · rename_i e; cases hj; subst e; exact ⟨hk, rfl⟩
  · exact h j l hj
theorem SeenF.none_ : SeenF S D Pgs.none_ := fun k l h => by simp [Pgs.none_] at h
theorem seen_page (h : SeenF S D f) (k : Nat) : ({ S with now := x, seen := f } : Pl).page D k = S.val D k := by
  unfold Pl.page Pl.known Pl.val
  dsimp only
  cases hp : (S.pend k).or (S.last k) with
  | some l => rfl
  | none =>
    cases hf : f k with
    | none => rfl
    | some l => exact (h k l hf).2
theorem seen_loaded (h : SeenF S D f) {k : Nat} (hk : k < S.pages D) : ∃ f', ({ S with now := x, seen := f } : Pl).loaded D k = { S with now := x, seen := f' } ∧ SeenF S D f' := by
  unfold Pl.loaded
  split
  · exact ⟨f, rfl, h⟩
  · refine ⟨_, rfl, ?_⟩
    dsimp only
    split
    · exact SeenF.none_.put hk
    · exact h.put hk
/-- The chain's last j pages, the last one first. -/
def tailJ (l : List Nat) (j : Nat) : List Nat := (l.drop (l.length - j)).reverse
/-- How far the chain still goes from a page. -/
def far (l : List Nat) (x : Nat) : Nat := if x = 0 then 0 else l.idxOf x + 1
end
end Go.Proofs.YtfmdmfiljplkoaaGreat
