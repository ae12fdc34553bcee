/- Walks: Crash. -/
import Derived.Test.YtklppnknllbfnaaGreatDs
import Derived.Test.YtklppnknllbfnaaGreatHeld
import Derived.Test.YtklppnknllbfnaaGreatFree
namespace Go.Proofs.YtklppnknllbfnaaGreat
open Go.RowKit Go.Maps
variable {ι : Type} [Bar ι]
theorem Byt.rdv {w : World} {p : Addr} {n c : Nat} {l : List Nat} (h : Byt w (.slice (some p) n c) l) : Rd w w.heap.size (some p) l := by
  obtain ⟨p', c', e, _, r⟩ := h.rd
  injection e with e _ _
  injection e with e
  rw [e]; exact r
theorem Byt.cap_val {w : World} {p : Addr} {n c : Nat} {l : List Nat} (h : Byt w (.slice (some p) n c) l) : n ≤ c := by
  obtain ⟨_, _, _, e, hc, _⟩ := h
  injection e with _ e2 e3
  omega
section
variable {b m : Nat} {vl : Value} {D : Dsk} {w w' : World}
theorem kept_form (a : Int) (h0 : -9223372036854775808 ≤ a) (h1 : a ≤ 9223372036854775807) (h : DiskAt w b m vl D) :
    Calls Tryz.prog 74 #[.pointer (some ⟨b, 0, none⟩), .int .i64 a] w fun e w' => ∃ v, e = .returned v ∧ ∃ p c, v = .slice (some p) D.size c ∧ Byt w' (.slice (some p) D.size c) (D.fast a) ∧ Below w.heap.size w w' := by
  have hl := h.ok.len a
  refine (kept_any a h0 h1 h).mono ?_
  rintro e w' ⟨v, rfl, hb, hw⟩
  obtain ⟨p, c, e, _, _⟩ := hb.rd
  rw [hl] at e
  exact ⟨v, rfl, p, c, e, e ▸ hb, hw⟩
theorem Fat.turn {F : Nat} {T T' : List Nat} {fs : List Int} (h : Fat w F T fs) (k : Turn T' w w') (hF : F ∉ T') (hT : ∀ j ∈ T', j ∈ T) : Fat w' F T fs := by
  obtain ⟨A, c, hB, hc, hr, ha⟩ := h
  exact ⟨A, c, (k.block F hB.lt hF).trans hB, hc, hr.turn k (fun hn p hp e => (ha hn p hp).1 (hT _ e)), ha⟩
/-- A disk in the middle of a crash, of which w0 was the world ahead; block F holds the fates that are left. -/
structure CrAt (w0 v : World) (b m : Nat) (vl : Value) (D : Dsk) (F : Nat) (fs : List Int) : Prop where
  disk : DiskAt v b m vl D
  turn : Turn (own b m vl) w0 v
  fat : Fat v F (own b m vl) fs
  low : ∀ k ∈ own b m vl, k < w0.heap.size
  hF : w0.heap.size ≤ F
variable {w0 v v' : World} {F : Nat} {fs fs' : List Int}
theorem CrAt.grew (h : CrAt w0 v b m vl D F fs) (k : Below v.heap.size v v') : CrAt w0 v' b m vl D F fs :=
  ⟨h.disk.grew k, h.turn.tail k, h.fat.turn (Turn.of_below k []) (by simp) (by simp), h.low, h.hF⟩
theorem CrAt.drew (h : CrAt w0 v b m vl D F fs) : CrAt w0 v.drew b m vl D F fs := h.grew ⟨rfl, rfl, rfl, Nat.le_refl _, fun _ _ => rfl⟩
theorem CrAt.nobytes (h : CrAt w0 v b m vl D F fs) : NoBytes v [F] := by
  intro k hk cs fz e
  simp at hk; subst hk
  obtain ⟨A, c, hB, _⟩ := h.fat
  unfold Blk at hB
  rw [hB] at e; cases e
theorem CrAt.byt (h : CrAt w0 v b m vl D F fs) (ht : Turn [F] v v') {u : Value} {l : List Nat} (hb : Byt v u l) : Byt v' u l := hb.turn ht h.nobytes
theorem CrAt.fastPut (h : CrAt w0 v b m vl D F fs) {x : Int} (h0 : 0 ≤ x) (h1 : x < D.sectors) {u : Value} {l : List Nat} (hv : BytP v u l) (hl : l.length = D.size) :
    ∃ w', (Instr.mapUpdate 73 (.map (some m)) (.int .i64 x) u).run Tryz.prog v = .ok () w' ∧ CrAt w0 w' b m vl { D with fast := upd D.fast x l } F fs ∧ ∀ {G : Nat} {cs : Array Value} {t : TypeId}, Blk v G cs t → w0.heap.size ≤ G → Blk w' G cs t := by
  obtain ⟨w', hrun, hd, ht⟩ := h.disk.fastPut h0 h1 hv hl
  have hm : m ∈ own b m vl := mem_own.2 (.inr (.inl rfl))
  refine ⟨w', hrun, ⟨hd, h.turn.trans ht (fun j hj _ => by simp at hj; subst hj; exact hm), h.fat.turn ht (by simp; have h1 := h.low m hm; have h2 := h.hF; omega) (by simp; exact hm), h.low, h.hF⟩, fun hB hG => (ht.block _ hB.lt (by simp; have h1 := h.low m hm; omega)).trans hB⟩
end
namespace Dsk
/-- When k loose writes have had their fates. -/
def cr (d : Dsk) (fs : List Int) (k : Nat) : Dsk := { d with fast := crashed d.size fs d.fast d.loose k }
end Dsk
end Go.Proofs.YtklppnknllbfnaaGreat
