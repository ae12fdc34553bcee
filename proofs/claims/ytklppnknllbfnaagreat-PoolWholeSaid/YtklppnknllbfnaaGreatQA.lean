/- Plain laws: what heads, pages and slots tell; a disk that is clean; what a write that was flushed leaves. Plain laws: what a live pool keeps to on a clean disk; Format makes such a one. Plain laws: what changes pages and roots in memory keeps a pool alive. Plain laws: a checkpoint on a calm disk. Plain laws: a commit on a calm disk. Plain laws: Commit and Checkpoint on a calm disk. Plain laws: Open on a calm disk. -/
import Derived.Test.YtklppnknllbfnaaGreatP31
import Derived.Test.YtklppnknllbfnaaGreatLD
namespace Go.Proofs.YtklppnknllbfnaaGreat
open Go.RowKit Go.Maps
section
variable {D D' : Dsk} {S : Pl}
theorem lt_zeros {z : Nat} : ∀ b ∈ List.replicate z 0, b < 256 := fun b h => by rw [List.eq_of_mem_replicate h]; omega
theorem readErr_bad {s : List Nat} (h : readOk s = false) : readErr s = 5 := by unfold readErr; rw [h]; rfl
theorem headZ_bad {s : List Nat} (h : readOk s = false) (a : Int) : headZ s a = 0 := by
 unfold headZ
 rw [readErr_bad h, if_neg (by omega)]
theorem headZ_zeros {z : Nat} (h : 64 ≤ z) (a : Int) : headZ (List.replicate z 0) a = 0 := headZ_bad (readOk_zeros h) a
theorem head_reads (h : D.Ok) {e : Nat} (h1 : 1 ≤ e) (h2 : e ≤ 1099511627776) : readOk (headL D e) = true ∧ readMark (headL D e) = (e : Nat) ∧ readErr (headL D e) = 0 := by
 have hz := h.z1
 have := sector_reads D.size e [] hz h1 (by omega) (by simp; omega) (by simp)
 exact ⟨this.1, this.2.1, this.2.2.2⟩
theorem headZ_head (h : D.Ok) {e : Nat} (h1 : 1 ≤ e) (h2 : e ≤ 1099511627776) {a : Nat} (ha : e % 2 = a) : headZ (headL D e) (a : Nat) = e := by
 obtain ⟨r1, r2, r3⟩ := head_reads h h1 h2
 have ht : ((e : Nat) : Int).tmod 2 = (a : Nat) := by
  rw [Int.tmod_eq_emod_of_nonneg (by omega)]
  omega
 unfold headZ
 rw [r2, r3, if_pos ⟨rfl, ht, by omega⟩]
theorem headsZ_two (D : Dsk) : headsZ D 2 = max (headZ (D.tells 0) 0) (headZ (D.tells 1) 1) := by
 show max (max 0 (headZ (D.tells 0) 0)) (headZ (D.tells 1) 1) = _
 have := headZ_in (D.tells 0) 0
 omega
/-- The heads: the epoch's own, the other one of an elder epoch. -/
theorem headsZ_own {D : Dsk} {E : Nat} (h1 : headZ (D.tells ((E % 2 : Nat) : Int)) ((E % 2 : Nat) : Int) = E) (h2 : headZ (D.tells (((E + 1) % 2 : Nat) : Int)) (((E + 1) % 2 : Nat) : Int) ≤ E) : headsZ D 2 = E := by
 rw [headsZ_two]
 rcases Nat.mod_two_eq_zero_or_one E with e | e
 ·have e' : (E + 1) % 2 = 1 := by omega
  rw [e] at h1
  rw [e'] at h2
  simp only [show ((0 : Nat) : Int) = 0 from rfl, show ((1 : Nat) : Int) = 1 from rfl] at h1 h2
  omega
 ·have e' : (E + 1) % 2 = 0 := by omega
  rw [e] at h1
  rw [e'] at h2
  simp only [show ((0 : Nat) : Int) = 0 from rfl, show ((1 : Nat) : Int) = 1 from rfl] at h1 h2
  omega
theorem rm_size (h : D.Ok) (hz : 512 ≤ D.size) : D.rm + 45 = D.size := by
 have h2 := h.z2
 have h3 := lroom_rm D
 have hk : okSize D.size = true := by simp [okSize]; omega
 unfold lroom room at h3
 rw [if_pos hk] at h3
 omega
theorem widen_lt {r : Nat} {l : List Nat} (h : ∀ b ∈ l, b < 256) : ∀ b ∈ widen r l, b < 256 := by
 intro b hb
 rcases List.mem_append.1 hb with h1 | h1
 ·exact h b h1
 ·exact lt_zeros b h1
theorem widen_self {r : Nat} {l : List Nat} (h : l.length = r) : widen r l = l := by
 unfold widen
 rw [h, Nat.sub_self]
 simp
/-- A page's sector is read as it was laid. -/
theorem place_read (h : D.Ok) (hz : 512 ≤ D.size) {first k : Nat} {l : List Nat} (hl : l.length ≤ D.rm) (hb : ∀ b ∈ l, b < 256) (hk : k ≤ 1048576) (ht : D.tells ((first : Int) + k) = sectL D k l) : placeL D first k = widen D.rm l := by
 have hs := rm_size h hz
 have hw := widen_length hl
 obtain ⟨r1, r2, r3, r4⟩ := sector_reads D.size (k + 1) (widen D.rm l) h.z1 (by omega) (by omega) (by omega) (widen_lt hb)
 unfold placeL
 rw [ht]
 unfold sectL
 dsimp only
 rw [r2, r3, r4, if_pos ⟨rfl, rfl⟩, List.take_left' hw]
theorem place_same {first k : Nat} (h1 : D'.size = D.size) (h2 : D'.tells ((first : Int) + k) = D.tells ((first : Int) + k)) : placeL D' first k = placeL D first k := by
 unfold placeL
 rw [h2, rm_same h1]
/-- A write, flushed, on a calm disk with nothing loose. -/
theorem Calm.put_flush (h : Calm D) (hl : D.loose = []) (ok : D.Ok) {a : Int} {l : List Nat} (h0 : 0 ≤ a) (h1 : a < (D.sectors : Int)) (hn : l.length = D.size) (hb : ∀ b ∈ l, b < 256) :
  Calm (D.put a l).flush ∧ (D.put a l).flush.loose = [] ∧ (D.put a l).flush.Ok ∧ (D.put a l).flush.sectors = D.sectors ∧ (D.put a l).flush.size = D.size ∧ ∀ x, (D.put a l).flush.tells x = if x = a then l else D.tells x := by
 have hp := h.put h0 h1 hn
 have hf := hp.2.2.flush
 refine ⟨hf.2.2, by rw [hf.2.1], (ok.put a l hb).flush, Dsk.flush_sectors.1.trans (Dsk.put_sectors a l).1, Dsk.flush_sectors.2.trans (Dsk.put_sectors a l).2, fun x => ?_⟩
 rw [hf.2.1, hp.2.1, hl]
 unfold Dsk.tells
 dsimp only
 rw [hl]
 show ((none : Option (List Nat))).getD (settle D.fast ([] ++ [(a, l)]) x) = if x = a then l else (none : Option (List Nat)).getD (D.fast x)
 show upd D.fast a l x = _
 rfl
theorem flush_nothing (h : Calm D) (hl : D.loose = []) : D.flush = D := by
 rw [h.flush.2.1, hl]
 obtain ⟨a, b, c, d, e, f⟩ := D
 simp only at hl
 subst hl
 rfl
/-- What may lie in a slot: nothing, or a change of an epoch up to E. -/
def SlotOk (D : Dsk) (E i : Nat) (s : List Nat) : Prop := s = List.replicate D.size 0 ∨ ∃ e x, 1 ≤ e ∧ e ≤ E ∧ ChOk D.size x.1 ∧ s = secAt D.size e i x
/-- What may lie in the other head. -/
def HeadOk (D : Dsk) (E : Nat) (s : List Nat) : Prop := s = List.replicate D.size 0 ∨ ∃ e, 1 ≤ e ∧ e < E ∧ e % 2 = (E + 1) % 2 ∧ s = headL D e
def Dsk.slots (D : Dsk) : Nat := (D.sectors - 2) / 4
/-- A clean disk in epoch E (0: no pool was on it). -/
structure Cln (D : Dsk) (E : Nat) : Prop where
 ok : D.Ok
 up : D.down = false
 s : 24 ≤ D.sectors
 z : 512 ≤ D.size
 lose : D.loose = []
 own : if E = 0 then D.tells 0 = List.replicate D.size 0 else D.tells ((E % 2 : Nat) : Int) = headL D E
 oth : HeadOk D E (D.tells (((E + 1) % 2 : Nat) : Int))
 sl : ∀ i : Nat, i < D.slots → SlotOk D E i (D.tells (((2 : Nat) : Int) + i))
theorem SlotOk.ep {E i : Nat} {s : List Nat} (h : SlotOk D E i s) (ok : D.Ok) (hE : E ≤ 1000000000000) (hi : i ≤ 1048576) : 0 ≤ slotEp s i ∧ slotEp s i ≤ E ∧ isTorn s i = false := by
 rcases h with rfl | ⟨e, x, h1, h2, h3, rfl⟩
 ·have hb := readOk_zeros ok.z1
  have hk : slotOk (List.replicate D.size 0) i = false := by unfold slotOk; rw [readErr_bad hb]; rfl
  refine ⟨by rw [slot_bad hb]; omega, by rw [slot_bad hb]; omega, ?_⟩
  unfold isTorn
  rw [(slot_no hk).2.2]
  have : nzB (List.replicate D.size 0) = false := by
   unfold nzB
   rw [List.any_eq_false]
   intro x hx
   rw [List.eq_of_mem_replicate hx]; simp
  rw [this]
  simp
 ·obtain ⟨s1, s2, _⟩ := secAt_slot h3 ok.z1 ⟨h1, by omega⟩ hi
  refine ⟨by rw [s2]; omega, by rw [s2]; omega, ?_⟩
  unfold isTorn
  rw [s2]
  have : ((e : Int) == 0) = false := by simp; omega
  rw [this]
  rfl
theorem SlotOk.mono {E E' i : Nat} {s : List Nat} (h : SlotOk D E i s) (hE : E ≤ E') : SlotOk D E' i s := by
 rcases h with h | ⟨e, x, h1, h2, h3, h4⟩
 ·exact .inl h
 ·exact .inr ⟨e, x, h1, by omega, h3, h4⟩
theorem SlotOk.same {E i : Nat} {s : List Nat} (h : SlotOk D E i s) (hz : D'.size = D.size) : SlotOk D' E i s := by
 unfold SlotOk at *
 rw [hz]
 exact h
theorem head_same (hz : D'.size = D.size) (e : Nat) : headL D' e = headL D e := by unfold headL; rw [hz]
theorem sect_same (hz : D'.size = D.size) (k : Nat) (l : List Nat) : sectL D' k l = sectL D k l := by unfold sectL; rw [hz, rm_same hz]
theorem HeadOk.same {E : Nat} {s : List Nat} (h : HeadOk D E s) (hz : D'.size = D.size) : HeadOk D' E s := by
 unfold HeadOk at *
 simp only [head_same hz]
 rw [hz]
 exact h
theorem HeadOk.le {E : Nat} {s : List Nat} (h : HeadOk D E s) (ok : D.Ok) (hE : E ≤ 1000000000000) : headZ s (((E + 1) % 2 : Nat) : Int) ≤ E := by
 rcases h with rfl | ⟨e, h1, h2, h3, rfl⟩
 ·rw [headZ_zeros ok.z1]; omega
 ·rw [headZ_head ok h1 (by omega) h3]; omega
theorem Cln.heads {E : Nat} (h : Cln D E) (hE : E ≤ 1000000000000) : headsZ D 2 = E := by
 have ho := h.own
 by_cases h0 : E = 0
 ·subst h0
  rw [if_pos rfl] at ho
  refine headsZ_own ?_ (h.oth.le h.ok hE)
  rw [show ((0 % 2 : Nat) : Int) = 0 from rfl, ho, headZ_zeros h.ok.z1]
 ·rw [if_neg h0] at ho
  refine headsZ_own ?_ (h.oth.le h.ok hE)
  rw [ho]
  exact headZ_head h.ok (by omega) (by omega) rfl
theorem Cln.slots_le {E : Nat} (h : Cln D E) : D.slots ≤ 1048576 ∧ 2 + D.slots < D.sectors := by
 have h1 := h.ok.s2
 have h2 := h.s
 unfold Dsk.slots
 omega
theorem Cln.lat {E : Nat} (h : Cln D E) (hE : E ≤ 1000000000000) : ∀ k, k ≤ D.slots → latV D 2 k ≤ E
 | 0, _ => by simp [latV]
 | k + 1, hk => by
  have ih := Cln.lat h hE k (by omega)
  have hs := h.slots_le
  have := ((h.sl k (by omega)).ep h.ok hE (by omega)).2.1
  simp only [latV]
  omega
theorem Cln.torn {E : Nat} (h : Cln D E) (hE : E ≤ 1000000000000) : ∀ k, k ≤ D.slots → tornL D 2 k = []
 | 0, _ => rfl
 | k + 1, hk => by
  have hs := h.slots_le
  have := ((h.sl k (by omega)).ep h.ok hE (by omega)).2.2
  unfold tornL
  rw [this]
  exact Cln.torn h hE k (by omega)
/-- A head of the next epoch. -/
theorem Cln.next {E : Nat} (h : Cln D E) (hz : D'.size = D.size) (hs : D'.sectors = D.sectors) (ok : D'.Ok) (up : D'.down = false) (hl : D'.loose = []) (ht : D'.tells (((E + 1) % 2 : Nat) : Int) = headL D (E + 1)) (ht2 : D'.tells ((E % 2 : Nat) : Int) = D.tells ((E % 2 : Nat) : Int))
  (hsl : ∀ i : Nat, i < D.slots → D'.tells (((2 : Nat) : Int) + i) = D.tells (((2 : Nat) : Int) + i)) : Cln D' (E + 1) := by
 refine ⟨ok, up, by rw [hs]; exact h.s, by rw [hz]; exact h.z, hl, ?_, ?_, fun i hi => ?_⟩
 ·rw [if_neg (by omega), ht, head_same hz]
 ·have e : (E + 1 + 1) % 2 = E % 2 := by omega
  rw [e, ht2]
  have ho := h.own
  by_cases h0 : E = 0
  ·subst h0
   rw [if_pos rfl] at ho
   left
   rw [show ((0 % 2 : Nat) : Int) = 0 from rfl, ho, hz]
  ·rw [if_neg h0] at ho
   right
   exact ⟨E, by omega, by omega, by omega, by rw [ho, head_same hz]⟩
 ·unfold Dsk.slots at hi hsl
  rw [hs] at hi
  rw [hsl i hi]
  exact ((h.sl i hi).mono (by omega)).same hz
theorem Cln.new {s z : Nat} (h1 : 24 ≤ s) (h2 : s ≤ 1048576) (h3 : 512 ≤ z) (h4 : z ≤ 4096) : Cln (Dsk.new s z) 0 :=
 ⟨Dsk.Ok.new (by omega) h2 (by omega) h4, rfl, h1, h3, rfl, by rw [if_pos rfl]; rfl, .inl rfl, fun i _ => .inl rfl⟩
end
end Go.Proofs.YtklppnknllbfnaaGreat
namespace Go.Proofs.YtklppnknllbfnaaGreat
open Go.RowKit Go.Maps
/-- A page as it was committed. -/
def Pl.valC (S : Pl) (D : Dsk) (k : Nat) : List Nat := (S.last k).getD (placeL D S.first k)
/-- A chain of pages that were given back. -/
def Chain (D : Dsk) (val : Nat → List Nat) (l : List Nat) : Prop := ∀ i (h : i < l.length), val l[i] = widen D.rm (lebZ (prev l i : Nat) 4)
def Pl.lg (S : Pl) (n : Nat) : Lg := ⟨2, S.slots, S.epoch, n, false⟩
structure InvR (S : Pl) (D : Dsk) (rows : List (List (Int × List Nat))) : Prop where
 cl : Cln D S.epoch
 e1 : 1 ≤ S.epoch
 ok : S.Ok D
 dead : S.dead = false
 log : ∃ n, S.log = some (S.lg n) ∧ LogHas D (S.lg n) rows
 rl : putR Pgs.none_ rows = S.last
 rp : ∀ g ∈ rows, ∀ c ∈ g, c.1.toNat < S.pages D
 seen : SeenF S D S.seen
 mv : S.moved = false → S.now = S.was
 p0 : S.valC D 0 = widen D.rm S.was.metaL
 cw : Chain D (S.valC D) S.was.free
 cn : Chain D (S.val D) S.now.free
 pz : S.pend 0 = none
 bp : ∀ k l, S.pend k = some l → ∀ b ∈ l, b < 256
 bl : ∀ k l, S.last k = some l → ∀ b ∈ l, b < 256
section
variable {D D' : Dsk} {S : Pl} {E : Nat}
theorem metaR_lt (r : R8) : ∀ k, ∀ b ∈ metaR r k, b < 256
 | 0, b, h => by simp [metaR] at h
 | k + 1, b, h => by
  rw [metaR_succ] at h
  rcases List.mem_append.1 h with h | h
  ·exact metaR_lt r k b h
  ·exact lebZ_lt _ _ b h
theorem metaL_lt (s : Sta) : ∀ b ∈ s.metaL, b < 256 := by
 intro b h
 unfold Sta.metaL at h
 rcases List.mem_append.1 h with h | h
 ·rcases List.mem_append.1 h with h | h
  ·exact metaR_lt _ _ b h
  ·exact lebZ_lt _ _ b h
 ·exact lebZ_lt _ _ b h
theorem sectL_lt (D : Dsk) (k : Nat) {l : List Nat} (h : ∀ b ∈ l, b < 256) : ∀ b ∈ sectL D k l, b < 256 := sector_lt (widen_lt h)
theorem headL_lt (D : Dsk) (e : Nat) : ∀ b ∈ headL D e, b < 256 := sector_lt (by simp)
theorem Cln.cleaned (h : Cln D E) (hc : Calm D) (hE : E ≤ 1000000000000) : cleaned D 2 D.slots = D := by
 unfold YtklppnknllbfnaaGreat.cleaned
 rw [h.torn hE _ (Nat.le_refl _)]
 exact flush_nothing hc h.lose
theorem Cln.formEp (h : Cln D E) (hE : E ≤ 1000000000000) : formEp D = E + 1 := by
 have h1 := h.heads hE
 have h2 := h.lat hE D.slots (Nat.le_refl _)
 have h3 := latV_in D 2 D.slots
 unfold YtklppnknllbfnaaGreat.formEp
 show (max (headsZ D 2) (latV D 2 D.slots)).toNat + 1 = E + 1
 omega
/-- What a write and a head, both flushed, leave. -/
theorem two_heads (E : Nat) : (((E + 1) % 2 : Nat) : Int) ≠ ((E % 2 : Nat) : Int) ∧ 0 ≤ (((E + 1) % 2 : Nat) : Int) ∧ (((E + 1) % 2 : Nat) : Int) < 2 ∧ 0 ≤ ((E % 2 : Nat) : Int) ∧ ((E % 2 : Nat) : Int) < 2 := by omega
theorem formed_is (h : Cln D E) (hc : Calm D) (hE : E ≤ 1000000000000) :
  Calm (formed D) ∧ (formed D).loose = [] ∧ (formed D).Ok ∧ (formed D).sectors = D.sectors ∧ (formed D).size = D.size ∧
   ∀ x, (formed D).tells x = if x = (((E + 1) % 2 : Nat) : Int) then headL D (E + 1) else if x = ((2 + D.slots : Nat) : Int) then sectL D 0 (⟨1, [], R8.zero⟩ : Sta).metaL else D.tells x := by
 have hsl := h.slots_le
 have hrm := rm_size h.ok h.z
 have hm := metaL_length ⟨1, [], R8.zero⟩
 have e0 : formed0 D = (D.put ((2 + D.slots : Nat) : Int) (sectL D 0 (⟨1, [], R8.zero⟩ : Sta).metaL)).flush := by
  unfold formed0
  show ((YtklppnknllbfnaaGreat.cleaned D 2 D.slots).put ((2 + D.slots : Nat) : Int) (sectL (YtklppnknllbfnaaGreat.cleaned D 2 D.slots) 0 _)).flush = _
  rw [h.cleaned hc hE]
 have hz := h.z
 obtain ⟨a1, a2, a3, a4, a5, a6⟩ := hc.put_flush h.lose h.ok (a := ((2 + D.slots : Nat) : Int)) (l := sectL D 0 (⟨1, [], R8.zero⟩ : Sta).metaL) (by omega) (by omega) (sectL_length h.ok (by omega)) (sectL_lt D 0 (metaL_lt _))
 rw [← e0] at a1 a2 a3 a4 a5 a6
 have e1 : formed D = ((formed0 D).put (((E + 1) % 2 : Nat) : Int) (headL (formed0 D) (E + 1))).flush := by
  unfold formed
  rw [h.formEp hE]
 have h2 := two_heads E
 obtain ⟨b1, b2, b3, b4, b5, b6⟩ := a1.put_flush a2 a3 (a := (((E + 1) % 2 : Nat) : Int)) (l := headL (formed0 D) (E + 1)) (by omega) (by rw [a4]; have := h.s; omega) (headL_len a3 _) (headL_lt _ _)
 rw [← e1] at b1 b2 b3 b4 b5 b6
 refine ⟨b1, b2, b3, b4.trans a4, b5.trans a5, fun x => ?_⟩
 rw [b6, a6, head_same a5]
/-- Format makes a live pool. -/
theorem Format_inv (h : Cln D E) (hc : Calm D) (hE : E ≤ 900000000000) : InvR ((Pl.laid D 0).begun (formEp D)) (formed D) [] ∧ Calm (formed D) := by
 obtain ⟨b1, b2, b3, b4, b5, b6⟩ := formed_is h hc (by omega)
 have hep := h.formEp (by omega)
 have h2 := two_heads E
 have hsl := h.slots_le
 have hz := h.z
 have hs := h.s
 rw [hep]
 have hcl : Cln (formed D) (E + 1) := h.next b5 b4 b3 b1.1 b2 (by rw [b6, if_pos rfl]) (by rw [b6, if_neg (by omega), if_neg (by omega)]) (fun i hi => by rw [b6, if_neg (by omega), if_neg (by omega)])
 have hok : ((Pl.laid D 0).begun (E + 1)).Ok (formed D) := by
  have h1 := (laid_ok h.ok hs hz 0).same b4 b5
  exact ⟨h1.z, h1.s, h1.s2, h1.slots, h1.first, h1.now, h1.was, h1.last, h1.pend, h1.seen⟩
 have hlg : LogHas (formed D) ⟨2, D.slots, E + 1, 0, false⟩ [] := by
  refine LogHas.start b1.1 (by rw [b4]; dsimp only; omega) ⟨by show 2 ≤ 1048576; omega, hsl.1, ⟨by show 1 ≤ E + 1; omega, by show E + 1 ≤ 1099511627776; omega⟩, Nat.zero_le _⟩ rfl (by omega) (fun i hi => ?_)
  dsimp only at hi ⊢
  rw [b6, if_neg (by omega), if_neg (by omega)]
  have := ((h.sl i hi).ep h.ok (by omega) (by omega)).2.1
  omega
 have hp0 : ((Pl.laid D 0).begun (E + 1)).valC (formed D) 0 = widen (formed D).rm (⟨1, [], R8.zero⟩ : Sta).metaL := by
  unfold Pl.valC
  show ((Pgs.none_ 0).getD (placeL (formed D) (2 + D.slots) 0)) = _
  show placeL (formed D) (2 + D.slots) 0 = _
  refine place_read b3 (by omega) ?_ (metaL_lt _) (by omega) ?_
  ·have := rm_size b3 (by omega)
   rw [metaL_length]; omega
  ·rw [b6, if_neg (by omega), if_pos (by omega), sect_same b5]
 exact ⟨⟨hcl, by show 1 ≤ E + 1; omega, hok, rfl, ⟨0, rfl, hlg⟩, rfl, by simp, SeenF.none_, fun _ => rfl, hp0, fun i hi => by simp [Pl.begun, Pl.laid] at hi, fun i hi => by simp [Pl.begun, Pl.laid] at hi, rfl, fun k l hk => by simp [Pl.begun, Pl.laid, Pgs.none_] at hk, fun k l hk => by simp [Pl.begun, Pl.laid, Pgs.none_] at hk⟩, b1⟩
end
end Go.Proofs.YtklppnknllbfnaaGreat
namespace Go.Proofs.YtklppnknllbfnaaGreat
open Go.RowKit Go.Maps
section
variable {D D' : Dsk} {S : Pl} {rows : List (List (Int × List Nat))}
theorem val_put (S : Pl) (D : Dsk) (k : Nat) (l : List Nat) (j : Nat) {x : Sta} {f : Pgs} {m : Bool} : ({ S with now := x, pend := S.pend.put k l, seen := f, moved := m } : Pl).val D j = if j = k then l else S.val D j := by
 unfold Pl.val Pgs.put
 dsimp only
 by_cases h : j = k
 ·rw [if_pos h, if_pos h]; rfl
 ·rw [if_neg h, if_neg h]
theorem Pl.Ok.putp (h : S.Ok D) {k : Nat} {l : List Nat} (hk : k < S.pages D) (hl : l.length = D.rm) {x : Sta} (hx : x.Ok (S.pages D)) {f : Pgs} (hf : f.Ok (S.pages D) D.rm) {m : Bool} : ({ S with now := x, pend := S.pend.put k l, seen := f, moved := m } : Pl).Ok D :=
 ⟨h.z, h.s, h.s2, h.slots, h.first, hx, h.was, h.last, h.pend.put hk hl, hf⟩
/-- One page has another load. -/
theorem InvR.putp (h : InvR S D rows) {k : Nat} {l : List Nat} (hk : k < S.pages D) (h0 : k ≠ 0) (hl : l.length = D.rm) (hb : ∀ b ∈ l, b < 256) {x : Sta} (hx : x.Ok (S.pages D)) {f : Pgs} (hf : SeenF S D f) {m : Bool} (hm : m = false → x = S.was)
  (hc : Chain D (fun j => if j = k then l else S.val D j) x.free) : InvR { S with now := x, pend := S.pend.put k l, seen := f, moved := m } D rows := by
 refine ⟨h.cl, h.e1, h.ok.putp hk hl hx (hf.ok h.cl.ok), h.dead, h.log, h.rl, h.rp, hf, hm, h.p0, h.cw, ?_, ?_, ?_, h.bl⟩
 ·intro i hi
  rw [val_put]
  exact hc i hi
 ·show S.pend.put k l 0 = none
  unfold Pgs.put
  rw [if_neg (Ne.symm h0)]
  exact h.pz
 ·intro j u hj
  have hj : S.pend.put k l j = some u := hj
  unfold Pgs.put at hj
  split at hj
  ·cases hj; exact hb
  ·exact h.bp j u hj
theorem widen_zero_lt (r : Nat) : ∀ b ∈ widen r [], b < 256 := widen_lt (by simp)
theorem InvR.write (h : InvR S D rows) {k : Nat} (ht : S.now.taken k = true) {l : List Nat} (hl : l.length ≤ D.rm) (hb : ∀ b ∈ l, b < 256) : InvR { S with pend := S.pend.put k (widen D.rm l) } D rows := by
 obtain ⟨j, e, h1, h2, h3, h4, h5⟩ := taken_bounds h.ok ht
 obtain rfl : k = j := by omega
 refine h.putp (x := S.now) (f := S.seen) (m := S.moved) h4 (by omega) (widen_length hl) (widen_lt hb) h.ok.now h.seen h.mv (fun i hi => ?_)
 have hne : S.now.free[i] ≠ k := fun e => h5 (by rw [← e]; exact List.getElem_mem hi)
 show (if S.now.free[i] = k then _ else _) = _
 rw [if_neg hne]
 exact h.cn i hi
theorem InvR.rm (h : InvR S D rows) : 460 ≤ D.rm := h.ok.rm1 h.cl.ok
/-- A page given back is taken. -/
theorem dropLast_free {s : Sta} {P : Nat} (h : s.Ok P) : Sta.Ok { s with free := s.free.dropLast } P :=
 ⟨h.n1, h.n2, h.nd.sublist (List.dropLast_sublist _), fun k hk => h.fb k ((List.dropLast_sublist _).subset hk), h.rt⟩
theorem prev_dropLast (l : List Nat) (i : Nat) (h : i < l.dropLast.length) : prev l.dropLast i = prev l i := by
 unfold prev
 by_cases h0 : i = 0
 ·rw [if_pos h0, if_pos h0]
 ·rw [if_neg h0, if_neg h0]
  have hl : l.dropLast.length = l.length - 1 := by simp
  rw [List.getElem?_eq_getElem (by omega), List.getElem?_eq_getElem (by omega), List.getElem_dropLast]
theorem top_mem {s : Sta} (h : s.free ≠ []) : ∃ hk : s.free.length - 1 < s.free.length, s.top = s.free[s.free.length - 1] := by
 rcases last_cases s.free with ⟨h1, _⟩ | ⟨k, h1, hk, h2⟩
 ·exact absurd (List.eq_nil_of_length_eq_zero h1) h
 ·have e : s.free.length - 1 = k := by omega
  refine ⟨by omega, ?_⟩
  unfold Sta.top
  rw [h2]
  congr 1
  exact e.symm
theorem InvR.takeFree (h : InvR S D rows) (hf : S.now.free ≠ []) : InvR (S.tookFree D) D rows := by
 obtain ⟨hk, ht⟩ := top_mem hf
 have hb := h.ok.now.fb _ (List.getElem_mem hk)
 have hn2 := h.ok.now.n2
 unfold Pl.tookFree
 rw [ht]
 refine h.putp (k := S.now.free[S.now.free.length - 1]) (x := { S.now with free := S.now.free.dropLast }) (f := S.seen) (m := true) (by omega) (by omega) (widen_length (Nat.zero_le _)) (widen_zero_lt _) (dropLast_free h.ok.now) h.seen (by simp) (fun i hi => ?_)
 have hl : S.now.free.dropLast.length = S.now.free.length - 1 := by simp
 have hi' : i < S.now.free.length := by dsimp only at hi; omega
 have hi2 : i < S.now.free.length - 1 := by dsimp only at hi; omega
 dsimp only at hi ⊢
 rw [prev_dropLast _ _ hi, List.getElem_dropLast]
 have hne : S.now.free[i] ≠ S.now.free[S.now.free.length - 1] := by
  intro e
  have := (List.getElem_inj h.ok.now.nd).1 e
  omega
 rw [if_neg hne]
 exact h.cn i hi'
theorem InvR.takeNew (h : InvR S D rows) (hn : S.now.next < S.pages D) : InvR (S.tookNew D) D rows := by
 have hx : Sta.Ok { S.now with next := S.now.next + 1 } (S.pages D) := ⟨by show 1 ≤ S.now.next + 1; omega, by show S.now.next + 1 ≤ S.pages D; omega, h.ok.now.nd, fun k hk => by have := h.ok.now.fb k hk; exact ⟨this.1, by show k < S.now.next + 1; omega⟩, h.ok.now.rt⟩
 refine h.putp (k := S.now.next) (x := { S.now with next := S.now.next + 1 }) (f := S.seen) (m := true) hn (by have := h.ok.now.n1; omega) (widen_length (Nat.zero_le _)) (widen_zero_lt _) hx h.seen (by simp) (fun i hi => ?_)
 dsimp only at hi ⊢
 have := h.ok.now.fb _ (List.getElem_mem hi)
 rw [if_neg (by omega)]
 exact h.cn i hi
theorem prev_snoc (l : List Nat) (x i : Nat) (h : i ≤ l.length) : prev (l ++ [x]) i = prev l i := by
 unfold prev
 by_cases h0 : i = 0
 ·rw [if_pos h0, if_pos h0]
 ·rw [if_neg h0, if_neg h0, List.getElem?_append_left (by omega)]
theorem InvR.give (h : InvR S D rows) {k : Nat} (ht : S.now.taken k = true) : InvR (S.gave D k) D rows := by
 obtain ⟨j, e, h1, h2, h3, h4, h5⟩ := taken_bounds h.ok ht
 obtain rfl : k = j := by omega
 have hrm := h.rm
 have hx : Sta.Ok { S.now with free := S.now.free ++ [k] } (S.pages D) := by
  refine ⟨h.ok.now.n1, h.ok.now.n2, ?_, fun j hj => ?_, h.ok.now.rt⟩
  ·refine List.nodup_append.2 ⟨h.ok.now.nd, by simp, fun a ha b hb hab => ?_⟩
   simp at hb
   subst hb; subst hab
   exact h5 ha
  ·dsimp only at hj ⊢
   rcases List.mem_append.1 hj with h | hj
   ·exact ‹InvR S D rows›.ok.now.fb j h
   ·simp at hj; omega
 have hsf : SeenF S D (S.seen.del k) := fun j l hj => by
  unfold Pgs.del at hj
  split at hj
  ·cases hj
  ·exact h.seen j l hj
 refine h.putp (k := k) (x := { S.now with free := S.now.free ++ [k] }) (f := S.seen.del k) (m := true) h4 (by omega) (widen_length (by simp; omega)) (widen_lt (lebZ_lt _ _)) hx hsf (by simp) (fun i hi => ?_)
 dsimp only at hi ⊢
 have hl : (S.now.free ++ [k]).length = S.now.free.length + 1 := by simp
 rw [prev_snoc _ _ _ (by omega)]
 by_cases hlt : i < S.now.free.length
 ·rw [List.getElem_append_left hlt]
  have hne : S.now.free[i] ≠ k := fun e => h5 (by rw [← e]; exact List.getElem_mem hlt)
  rw [if_neg hne]
  exact h.cn i hlt
 ·have e : i = S.now.free.length := by omega
  subst e
  rw [List.getElem_append_right (Nat.le_refl _)]
  simp only [Nat.sub_self, List.getElem_cons_zero, if_true]
  rw [prev_top]
theorem R8.set_bd (r : R8) (k : Nat) (n : Int) {P : Int → Prop} (h : ∀ j, P (r.get j)) (hn : P n) : ∀ j, P ((r.set k n).get j) := by
 intro j
 unfold R8.set
 have h0 : P r.r0 := h 0
 have h1 : P r.r1 := h 1
 have h2 : P r.r2 := h 2
 have h3 : P r.r3 := h 3
 have h4 : P r.r4 := h 4
 have h5 : P r.r5 := h 5
 have h6 : P r.r6 := h 6
 have h7 : P r.r7 := h 7
 have h8 : P 0 := h 8
 split <;> (unfold R8.get; split <;> assumption)
theorem InvR.setRoot (h : InvR S D rows) {k n : Int} (hk : ¬ (k < 0 ∨ 8 ≤ k ∨ n < 0 ∨ 2147483647 < n)) : InvR { S with now := { S.now with roots := S.now.roots.set k.toNat n }, moved := true } D rows := by
 have hx : Sta.Ok { S.now with roots := S.now.roots.set k.toNat n } (S.pages D) :=
  ⟨h.ok.now.n1, h.ok.now.n2, h.ok.now.nd, h.ok.now.fb, R8.set_bd _ _ _ (P := fun x => 0 ≤ x ∧ x ≤ 2147483647) h.ok.now.rt (by omega)⟩
 exact ⟨h.cl, h.e1, ⟨h.ok.z, h.ok.s, h.ok.s2, h.ok.slots, h.ok.first, hx, h.ok.was, h.ok.last, h.ok.pend, h.ok.seen⟩, h.dead, h.log, h.rl, h.rp, h.seen, by simp, h.p0, h.cw, h.cn, h.pz, h.bp, h.bl⟩
theorem InvR.back (h : InvR S D rows) : InvR S.backed D rows := by
 refine ⟨h.cl, h.e1, ⟨h.ok.z, h.ok.s, h.ok.s2, h.ok.slots, h.ok.first, h.ok.was, h.ok.was, h.ok.last, Pgs.Ok.none_, h.ok.seen⟩, h.dead, h.log, h.rl, h.rp, h.seen, fun _ => rfl, h.p0, h.cw, ?_, rfl, fun k l hk => by simp [Pl.backed, Pgs.none_] at hk, h.bl⟩
 intro i hi
 exact h.cw i hi
/-- What was seen only. -/
theorem InvR.loaded (h : InvR S D rows) {k : Nat} (hk : k < S.pages D) : InvR (S.loaded D k) D rows ∧ ∃ f, S.loaded D k = { S with seen := f } ∧ SeenF S D f := by
 obtain ⟨f, e, hf⟩ := seen_loaded (S := S) (x := S.now) (f := S.seen) h.seen hk
 have e' : S.loaded D k = { S with seen := f } := e
 refine ⟨?_, f, e', hf⟩
 rw [e']
 exact ⟨h.cl, h.e1, ⟨h.ok.z, h.ok.s, h.ok.s2, h.ok.slots, h.ok.first, h.ok.now, h.ok.was, h.ok.last, h.ok.pend, hf.ok h.cl.ok⟩, h.dead, h.log, h.rl, h.rp, hf, h.mv, h.p0, h.cw, h.cn, h.pz, h.bp, h.bl⟩
theorem InvR.page (h : InvR S D rows) (k : Nat) : S.page D k = S.val D k := seen_page (S := S) (x := S.now) h.seen k
end
end Go.Proofs.YtklppnknllbfnaaGreat
namespace Go.Proofs.YtklppnknllbfnaaGreat
open Go.RowKit Go.Maps
/-- The writes of a checkpoint's pages. -/
def layW (D : Dsk) (first : Nat) (f : Pgs) (ks : List Nat) : List (Int × List Nat) := ks.map fun k : Nat => ((first : Int) + k, sectL D k ((f k).getD []))
section
variable {D D' : Dsk} {S : Pl} {rows : List (List (Int × List Nat))}
theorem layAll_calm (first : Nat) (f : Pgs) : ∀ (ks : List Nat) (D : Dsk), Calm D → D.Ok → (∀ k ∈ ks, first + k < D.sectors ∧ ((f k).getD []).length ≤ D.rm ∧ ∀ b ∈ (f k).getD [], b < 256) →
  layAll first f D ks = (0, { D with loose := D.loose ++ layW D first f ks })
 | [], D, _, _, _ => by simp [layAll, layW]
 | k :: r, D, h, ok, hk => by
  have h1 := hk k (by simp)
  have hp := h.put (a := (first : Int) + k) (l := sectL D k ((f k).getD [])) (by omega) (by omega) (sectL_length ok h1.2.1)
  have ih := layAll_calm first f r (D.put ((first : Int) + k) (sectL D k ((f k).getD []))) hp.2.2 (ok.put _ _ (sectL_lt _ _ h1.2.2)) (fun j hj => by
   rw [(Dsk.put_sectors _ _).1, rm_same (Dsk.put_sectors _ _).2]
   exact hk j (by simp [hj]))
  unfold layAll
  rw [hp.1, if_neg (by simp), ih, hp.2.1]
  have e : layW { D with loose := D.loose ++ [((first : Int) + k, sectL D k ((f k).getD []))] } first f r = layW D first f r := rfl
  rw [e]
  simp [layW]
theorem last_lay (D : Dsk) (first : Nat) (f : Pgs) (k : Nat) : ∀ (ks : List Nat), ks.Nodup → k ∈ ks → last ((first : Int) + k) (layW D first f ks) = some (sectL D k ((f k).getD []))
 | [], _, h => by simp at h
 | j :: r, hn, h => by
  have hn' := List.nodup_cons.1 hn
  show last _ (((first : Int) + j, sectL D j ((f j).getD [])) :: layW D first f r) = _
  rw [last_cons]
  by_cases hk : k ∈ r
  ·rw [last_lay D first f k r hn'.2 hk]; rfl
  ·rcases List.mem_cons.1 h with rfl | h
   ·have : last ((first : Int) + k) (layW D first f r) = none := last_none _ _ (fun e he => by
     unfold layW at he
     obtain ⟨i, hi, rfl⟩ := List.mem_map.1 he
     intro e
     exact hn'.1 (by have : i = k := (by omega); rw [← this]; exact hi))
    rw [this]
    simp
   ·exact absurd h hk
theorem last_lay_none (D : Dsk) (first : Nat) (f : Pgs) (x : Int) (ks : List Nat) (h : ∀ k ∈ ks, x ≠ (first : Int) + k) : last x (layW D first f ks) = none := by
 refine last_none _ _ (fun e he => ?_)
 unfold layW at he
 obtain ⟨i, hi, rfl⟩ := List.mem_map.1 he
 exact Ne.symm (h i hi)
theorem tells_flush (h : Calm D) (hl : D.loose = []) (W : List (Int × List Nat)) (x : Int) : ({ D with loose := D.loose ++ W } : Dsk).flush.tells x = (last x W).getD (D.tells x) := by
 have hc : Calm ({ D with loose := D.loose ++ W } : Dsk) := h
 rw [hc.flush.2.1]
 unfold Dsk.tells
 dsimp only
 rw [hl]
 show (none : Option (List Nat)).getD (settle D.fast ([] ++ W) x) = (last x W).getD ((none : Option (List Nat)).getD (D.fast x))
 rw [List.nil_append]
 exact settle_last x W D.fast
theorem keys_nd {N : Nat} {f : Pgs} : (f.keys N).Nodup := by
 have : (f.keys N).Pairwise (fun a b => a < b) := List.Pairwise.filter _ List.pairwise_lt_range
 exact this.imp fun h => by omega
theorem flush_ok_calm (ok : D.Ok) (hl : D.loose = []) {W : List (Int × List Nat)} (hw : ∀ e ∈ W, 0 ≤ e.1 ∧ e.1 < (D.sectors : Int) ∧ e.2.length = D.size ∧ ∀ b ∈ e.2, b < 256) : ({ D with loose := D.loose ++ W } : Dsk).Ok :=
 ⟨ok.s1, ok.s2, ok.z1, ok.z2, ok.len, ok.byt, fun e he => by
  dsimp only at he
  rw [hl, List.nil_append] at he
  exact hw e he, ok.arm0, ok.arm1⟩
theorem InvR.lastK (h : InvR S D rows) {k : Nat} {l : List Nat} (hk : S.last k = some l) : S.first + k < D.sectors ∧ l.length = D.rm ∧ k < S.pages D := by
 have h1 := h.ok.last k l hk
 unfold Pl.pages at h1
 exact ⟨by omega, h1.2, h1.1⟩
theorem InvR.keysK (h : InvR S D rows) : ∀ k ∈ S.last.keys D.sectors, S.first + k < D.sectors ∧ ((S.last k).getD []).length ≤ D.rm ∧ ∀ b ∈ (S.last k).getD [], b < 256 := by
 intro k hk
 obtain ⟨_, l, hl⟩ := mem_keys.1 hk
 have h1 := h.lastK hl
 rw [hl]
 exact ⟨h1.1, by show l.length ≤ D.rm; omega, h.bl k l hl⟩
/-- The disk behind a checkpoint. -/
theorem point_is (h : InvR S D rows) (hc : Calm D) : ∃ D', point S D = (0, S.pointed, D') ∧ Calm D' ∧ D'.loose = [] ∧ D'.Ok ∧ D'.sectors = D.sectors ∧ D'.size = D.size ∧
  ∀ x, D'.tells x = if x = (((S.epoch + 1) % 2 : Nat) : Int) then headL D (S.epoch + 1) else (last x (layW D S.first S.last (S.last.keys D.sectors))).getD (D.tells x) := by
 have hla := layAll_calm S.first S.last (S.last.keys D.sectors) D hc h.cl.ok h.keysK
 have hok := flush_ok_calm h.cl.ok h.cl.lose (W := layW D S.first S.last (S.last.keys D.sectors)) (fun e he => by
  unfold layW at he
  obtain ⟨k, hk, rfl⟩ := List.mem_map.1 he
  have h1 := h.keysK k hk
  exact ⟨by dsimp only; omega, by dsimp only; omega, sectL_length h.cl.ok h1.2.1, sectL_lt _ _ h1.2.2⟩)
 obtain ⟨W, hW⟩ : ∃ W, W = layW D S.first S.last (S.last.keys D.sectors) := ⟨_, rfl⟩
 rw [← hW] at hla hok ⊢
 have hc1 : Calm ({ D with loose := D.loose ++ W } : Dsk) := hc
 have hf := hc1.flush
 have ht := tells_flush hc h.cl.lose W
 have hs1 := Dsk.flush_sectors (d := ({ D with loose := D.loose ++ W } : Dsk))
 have hl1 : ({ D with loose := D.loose ++ W } : Dsk).flush.loose = [] := by rw [hf.2.1]
 obtain ⟨D1, hD1⟩ : ∃ D1, D1 = ({ D with loose := D.loose ++ W } : Dsk).flush := ⟨_, rfl⟩
 have hok1 := hok.flush
 rw [← hD1] at hf ht hs1 hok1 hl1
 have h2 := two_heads S.epoch
 have hs := h.cl.s
 have hb := beg_calm (S := S) hf.2.2 hok1 (by rw [hs1.1]; show 2 ≤ D.sectors; omega) (S.epoch + 1)
 obtain ⟨b1, b2, b3, b4, b5, b6⟩ := hf.2.2.put_flush hl1 hok1 (a := (((S.epoch + 1) % 2 : Nat) : Int)) (l := headL D1 (S.epoch + 1)) (by omega) (by rw [hs1.1]; show _ < (D.sectors : Int); omega) (headL_len hok1 _) (headL_lt _ _)
 refine ⟨(D1.put (((S.epoch + 1) % 2 : Nat) : Int) (headL D1 (S.epoch + 1))).flush, ?_, b1, b2, b3, b4.trans hs1.1, b5.trans hs1.2, fun x => ?_⟩
 ·unfold point pointed
  rw [hla]
  dsimp only
  rw [if_neg (by simp), hc1.flush.1, if_neg (by simp), ← hD1, hb.1]
  dsimp only
  rw [if_neg (by simp)]
  rfl
 ·rw [b6, ht, head_same hs1.2]
  rfl
theorem valC_lt {k : Nat} (hk : k < S.pages D) : S.first + k < D.sectors := by
 unfold Pl.pages at hk; omega
/-- A checkpoint keeps a pool alive, and its pages. -/
theorem point_inv (h : InvR S D rows) (hc : Calm D) (hE : S.epoch ≤ 900000000000) : ∃ D', point S D = (0, S.pointed, D') ∧ Calm D' ∧ InvR S.pointed D' [] ∧ (∀ k, k < S.pages D → S.pointed.valC D' k = S.valC D k) ∧ (∀ k, k < S.pages D → S.pointed.val D' k = S.val D k) ∧ D'.sectors = D.sectors ∧ D'.size = D.size := by
 obtain ⟨D', e, c, l, ok, s, z, t⟩ := point_is h hc
 have h2 := two_heads S.epoch
 have hfi := h.ok.first
 have hsl : S.slots = D.slots := h.ok.slots
 have hs2 := h.ok.s2
 have hsec := h.cl.s
 have hzz := h.cl.z
 have hlow : ∀ x : Int, x < S.first → last x (layW D S.first S.last (S.last.keys D.sectors)) = none := fun x hx => last_lay_none _ _ _ _ _ (fun k _ => by omega)
 have hvC : ∀ k, k < S.pages D → placeL D' S.first k = S.valC D k := by
  intro k hk
  have hsk := valC_lt hk
  unfold Pl.valC
  cases hl : S.last k with
  | some u =>
   have h1 := h.lastK hl
   have hm : k ∈ S.last.keys D.sectors := mem_keys.2 ⟨by omega, u, hl⟩
   have ht : D'.tells ((S.first : Int) + k) = sectL D' k u := by
    rw [t, if_neg (by omega), last_lay D S.first S.last k _ keys_nd hm, hl, sect_same z]
    rfl
   rw [place_read ok (by omega) (by rw [rm_same z]; omega) (h.bl k u hl) (by omega) ht, rm_same z, widen_self h1.2.1]
   rfl
  | none =>
   have ht : D'.tells ((S.first : Int) + k) = D.tells ((S.first : Int) + k) := by
    rw [t, if_neg (by omega), last_lay_none _ _ _ _ _ (fun j hj e => ?_)]
    ·rfl
    ·obtain ⟨_, u, hu⟩ := mem_keys.1 hj
     have : j = k := by omega
     rw [this, hl] at hu; cases hu
   rw [place_same z ht]
   rfl
 have hpg : S.pointed.pages D' = S.pages D := by unfold Pl.pages; rw [s]; rfl
 have hvP : ∀ k, k < S.pages D → S.pointed.valC D' k = S.valC D k := fun k hk => hvC k hk
 have hv : ∀ k, k < S.pages D → S.pointed.val D' k = S.val D k := by
  intro k hk
  have h1 := hvC k hk
  unfold Pl.val
  show ((S.pend k).or none).getD (placeL D' S.first k) = _
  rw [h1]
  unfold Pl.valC
  cases S.pend k <;> simp
 have hcl : Cln D' (S.epoch + 1) := h.cl.next z s ok c.1 l (by rw [t, if_pos rfl]) (by rw [t, if_neg (by omega), hlow _ (by omega)]; rfl) (fun i hi => by rw [t, if_neg (by omega), hlow _ (by omega)]; rfl)
 have hrm : D'.rm = D.rm := rm_same z
 have hok : S.pointed.Ok D' := by
  have h1 := h.ok.same s z
  exact ⟨h1.z, h1.s, h1.s2, h1.slots, h1.first, h1.now, h1.was, Pgs.Ok.none_, h1.pend, Pgs.Ok.none_⟩
 have hlg : LogHas D' (S.pointed.lg 0) [] := by
  refine LogHas.start c.1 ?_ ⟨by show 2 ≤ 1048576; omega, by show S.slots ≤ 1048576; rw [hsl]; exact h.cl.slots_le.1, ⟨by show 1 ≤ S.epoch + 1; omega, by show S.epoch + 1 ≤ 1099511627776; omega⟩, Nat.zero_le _⟩ rfl (by omega) (fun i hi => ?_)
  ·show 2 + S.slots ≤ D'.sectors
   rw [s, hsl]
   have := h.cl.slots_le.2
   omega
  ·have hi : i < S.slots := hi
   show slotEp (D'.tells (((2 : Nat) : Int) + i)) i ≠ ((S.epoch + 1 : Nat) : Int)
   rw [t, if_neg (by omega), hlow _ (by omega)]
   show slotEp (D.tells _) i ≠ _
   have := ((h.cl.sl i (by omega)).ep h.cl.ok (by omega) (by have := h.cl.slots_le.1; omega)).2.1
   omega
 have n1 := h.ok.now.n2
 have n2 := h.ok.was.n2
 have n3 := h.ok.now.n1
 refine ⟨D', e, c, ⟨hcl, by show 1 ≤ S.epoch + 1; omega, hok, h.dead, ⟨0, rfl, hlg⟩, rfl, by simp, SeenF.none_, h.mv, ?_, fun i hi => ?_, fun i hi => ?_, h.pz, h.bp, fun k l hk => by simp [Pl.pointed, Pl.fresh, Pgs.none_] at hk⟩, hvP, hv, s, z⟩
 ·rw [hvP 0 (by omega), h.p0, hrm]; rfl
 ·have hi : i < S.was.free.length := hi
  show S.pointed.valC D' S.was.free[i] = _
  have := h.ok.was.fb _ (List.getElem_mem hi)
  rw [hvP _ (by omega), h.cw i hi, hrm]; rfl
 ·have hi : i < S.now.free.length := hi
  show S.pointed.val D' S.now.free[i] = _
  have := h.ok.now.fb _ (List.getElem_mem hi)
  rw [hv _ (by omega), h.cn i hi, hrm]; rfl
end
end Go.Proofs.YtklppnknllbfnaaGreat
namespace Go.Proofs.YtklppnknllbfnaaGreat
open Go.RowKit Go.Maps
section
variable {D D' : Dsk} {S : Pl} {rows : List (List (Int × List Nat))} {P : Pgs}
theorem goApp_ok : ∀ (g : List (Int × List Nat)) (D : Dsk) (L : Lg), D.Ok → (∀ c ∈ g, ∀ b ∈ c.2, b < 256) → (goApp D L g).2.1.Ok
 | [], D, L, h, _ => h.flush
 | c :: r, D, L, h, hb => by
  have hp := h.put ((L.first : Int) + L.next) (secOf D.size L c.1.toNat r.isEmpty c.2) (sector_lt (by
   intro b hx
   rcases List.mem_append.1 hx with hx | hx
   ·rcases List.mem_append.1 hx with hx | hx
    ·exact leb_lt _ _ b hx
    ·simp at hx; subst hx; split <;> omega
   ·exact hb c (by simp) b hx))
  unfold goApp
  split
  ·exact hp
  ·exact goApp_ok r _ _ hp (fun d hd => hb d (by simp [hd]))
theorem app_ok {g : List (Int × List Nat)} {L : Lg} (h : D.Ok) (hb : ∀ c ∈ g, ∀ b ∈ c.2, b < 256) : (app D L g).2.1.Ok := by
 unfold app
 split
 ·exact goApp_ok g D L h hb
 ·exact h
theorem putG_grp (f : Pgs) (P : Pgs) : ∀ (ks : List Nat), (∀ k ∈ ks, ∃ l, P k = some l) → ∀ j, putG f (grpOf P ks) j = if j ∈ ks then P j else f j
 | [], _, j => by simp [putG, grpOf]
 | k :: r, hk, j => by
  obtain ⟨l, hl⟩ := hk k (by simp)
  have ih := putG_grp (f.put k l) P r (fun i hi => hk i (by simp [hi])) j
  have e : putG f (grpOf P (k :: r)) = putG (f.put k l) (grpOf P r) := by
   unfold putG grpOf
   simp only [List.map_cons, List.foldl_cons, hl, Option.getD_some, Int.toNat_natCast]
  rw [e, ih]
  by_cases hj : j ∈ r
  ·rw [if_pos hj, if_pos (by simp [hj])]
  ·rw [if_neg hj]
   unfold Pgs.put
   by_cases e : j = k
   ·subst e
    rw [if_pos rfl, if_pos (by simp), hl]
   ·rw [if_neg e, if_neg (by simp [e, hj])]
theorem putG_over (f : Pgs) {N : Nat} (hP : ∀ k l, P k = some l → k < N) : putG f (grpOf P (P.keys N)) = P.over f := by
 funext j
 rw [putG_grp f P _ (fun k hk => (mem_keys.1 hk).2)]
 unfold Pgs.over
 cases h : P j with
 | some l => rw [if_pos (mem_keys.2 ⟨hP j l h, l, h⟩)]
 | none =>
  rw [if_neg (fun hm => ?_)]
  obtain ⟨_, l, hl⟩ := mem_keys.1 hm
  rw [h] at hl; cases hl
theorem grp_mem {ks : List Nat} {c : Int × List Nat} (h : c ∈ grpOf P ks) : ∃ k ∈ ks, c = ((k : Int), (P k).getD []) := by
 unfold grpOf at h
 obtain ⟨k, hk, rfl⟩ := List.mem_map.1 h
 exact ⟨k, hk, rfl⟩
theorem rows_put (f : Pgs) (rows : List (List (Int × List Nat))) (g : List (Int × List Nat)) : putR f (rows ++ [g]) = putG (putR f rows) g := by
 unfold putR
 rw [List.foldl_append]
 rfl
/-- A group of a commit may be appended. -/
theorem right_zero (h : InvR S D rows) {n : Nat} (hl : S.log = some (S.lg n)) (hP : P.Ok (S.pages D) D.rm) (h1 : 0 < (P.keys D.sectors).length) (h2 : ((P.keys D.sectors).length : Int) ≤ S.room) : rightE D (S.lg n) (grpOf P (P.keys D.sectors)) = 0 := by
 have hroom : S.room = (S.slots : Int) - n := by unfold Pl.room; rw [hl]; rfl
 have hg : (grpOf P (P.keys D.sectors)).length = (P.keys D.sectors).length := by unfold grpOf; simp
 have hz2 := h.cl.ok.z2
 have hz := h.cl.z
 have hs2 := h.ok.s2
 have hr := rm_size h.cl.ok h.cl.z
 unfold rightE
 rw [if_neg (by show ¬ (false = true); simp), if_neg, if_neg, if_neg]
 ·rw [hg]
  show ¬ ((S.slots : Int) - n < _)
  omega
 ·intro hb
  obtain ⟨c, hc, hbad⟩ := List.any_eq_true.1 hb
  obtain ⟨k, hk, rfl⟩ := grp_mem hc
  obtain ⟨_, l, hl⟩ := mem_keys.1 hk
  have h3 := (hP k l hl).2
  unfold badLen at hbad
  have h4 := of_decide_eq_true hbad
  rw [hl, lroom_rm D] at h4
  exact h4 (by show ((l.length : Nat) : Int) = _; rw [h3])
 ·intro hb
  rcases Bool.or_eq_true _ _ |>.mp hb with hb | hb
  ·have := List.isEmpty_iff.1 hb
   rw [this] at hg
   simp at hg
   omega
  ·obtain ⟨c, hc, hbad⟩ := List.any_eq_true.1 hb
   obtain ⟨k, hk, rfl⟩ := grp_mem hc
   obtain ⟨hkl, _⟩ := mem_keys.1 hk
   unfold badPage at hbad
   have h4 := of_decide_eq_true hbad
   dsimp only at h4
   omega
/-- The pages that a commit writes. -/
structure PendOk (S : Pl) (D : Dsk) (P : Pgs) : Prop where
 ok : P.Ok (S.pages D) D.rm
 byt : ∀ k l, P k = some l → ∀ b ∈ l, b < 256
 same : ∀ k, k ≠ 0 → P k = S.pend k
 zero : P 0 = if S.moved then some (widen D.rm S.now.metaL) else none
theorem InvR.pendOk (h : InvR S D rows) : PendOk S D (S.meta0 D).pend := by
 have h1 := h.ok.meta0 h.cl.ok
 have hpg : (S.meta0 D).pages D = S.pages D := by unfold Pl.meta0; split <;> rfl
 have h2 := h1.pend
 rw [hpg] at h2
 refine ⟨h2, fun k l hk => ?_, fun k hk => ?_, ?_⟩
 ·unfold Pl.meta0 at hk
  split at hk
  ·have hk : S.pend.put 0 (widen D.rm S.now.metaL) k = some l := hk
   unfold Pgs.put at hk
   split at hk
   ·cases hk; exact widen_lt (metaL_lt _)
   ·exact h.bp k l hk
  ·exact h.bp k l hk
 ·unfold Pl.meta0
  split
  ·show S.pend.put 0 _ k = _
   unfold Pgs.put
   rw [if_neg hk]
  ·rfl
 ·unfold Pl.meta0
  split
  ·rfl
  ·exact h.pz
/-- A group of changes is appended to a live pool's log. -/
theorem append_inv (h : InvR S D rows) (hc : Calm D) (hP : PendOk S D P) (hE : S.epoch ≤ 1000000000000) (h1 : 0 < (P.keys D.sectors).length) (h2 : ((P.keys D.sectors).length : Int) ≤ S.room) : ∃ D' n, appended { S with pend := P } D = (0, ({ S with pend := P } : Pl).done (S.lg n), D') ∧ Calm D' ∧ InvR (({ S with pend := P } : Pl).done (S.lg n)) D' (rows ++ [grpOf P (P.keys D.sectors)]) ∧
  (∀ k, (({ S with pend := P } : Pl).done (S.lg n)).valC D' k = ((P k).or (S.last k)).getD (placeL D S.first k)) ∧ D'.sectors = D.sectors ∧ D'.size = D.size := by
 obtain ⟨n, hl, hlh⟩ := h.log
 have hr0 := right_zero h hl hP.ok h1 h2
 obtain ⟨g, hg⟩ : ∃ g, g = grpOf P (P.keys D.sectors) := ⟨_, rfl⟩
 rw [← hg] at hr0 ⊢
 have hgl : g.length = (P.keys D.sectors).length := by rw [hg]; unfold grpOf; simp
 have hgc : ∀ c ∈ g, ∃ (k : Nat) (l : List Nat), c = ((k : Int), l) ∧ P k = some l ∧ k < D.sectors := fun c hc => by
  rw [hg] at hc
  obtain ⟨k, hk, rfl⟩ := grp_mem hc
  obtain ⟨hkl, l, hl⟩ := mem_keys.1 hk
  exact ⟨k, l, by rw [hl]; rfl, hl, hkl⟩
 have hgb : ∀ c ∈ g, ∀ b ∈ c.2, b < 256 := fun c hc => by
  obtain ⟨k, l, rfl, hl, _⟩ := hgc c hc
  exact hP.byt k l hl
 have hz2 := h.cl.ok.z2
 rcases hlh.apps (by have := hc.2; omega) hz2 hgb hr0 with ⟨a1, a2, a3, a4, a5, a6, a7, a8, a9⟩ | ⟨_, hx, _⟩
 ·have e : appended { S with pend := P } D = (0, ({ S with pend := P } : Pl).done (S.lg (n + g.length)), (app D (S.lg n) g).2.1) := by
   unfold appended
   show (match S.log with | none => _ | some L => _) = _
   rw [hl]
   dsimp only
   rw [← hg, a1, if_neg (by simp), a8]
   rfl
  have hsl : S.slots = D.slots := h.ok.slots
  have hsle := h.cl.slots_le
  have hfi := h.ok.first
  have hnx := a2.nx
  have hnl := a2.lok.n
  rw [a8] at hnx hnl
  have hnx : n + g.length = (flat (rows ++ [g])).length := hnx
  have hnl : n + g.length ≤ S.slots := hnl
  have hc' : Calm (app D (S.lg n) g).2.1 := ⟨a2.up, a4 hc.2⟩
  have hout : ∀ a : Int, (a < 2 ∨ (2 : Int) + S.slots ≤ a) → (app D (S.lg n) g).2.1.tells a = D.tells a := fun a ha => a9 a (fun k hk => by show a ≠ ((2 : Nat) : Int) + ((n + k : Nat) : Int); omega)
  have hpl : ∀ k, placeL (app D (S.lg n) g).2.1 S.first k = placeL D S.first k := fun k => place_same a6 (hout _ (by omega))
  have hok : (app D (S.lg n) g).2.1.Ok := app_ok h.cl.ok hgb
  have h2h := two_heads S.epoch
  have hcl : Cln (app D (S.lg n) g).2.1 S.epoch := by
   refine ⟨hok, a2.up, by rw [a7]; exact h.cl.s, by rw [a6]; exact h.cl.z, a3, ?_, ?_, fun i hi => ?_⟩
   ·have := h.cl.own
    have he := h.e1
    rw [if_neg (by omega)] at this ⊢
    rw [hout _ (by omega), this, head_same a6]
   ·rw [hout _ (by omega)]
    exact h.cl.oth.same a6
   ·have hi : i < D.slots := by unfold Dsk.slots at hi ⊢; rw [a7] at hi; exact hi
    by_cases hin : i < (flat (rows ++ [g])).length
    ·right
     refine ⟨S.epoch, (flat (rows ++ [g]))[i], h.e1, Nat.le_refl _, a2.ch _ (List.getElem_mem hin), ?_⟩
     have := a2.slots i hin
     rw [a8] at this
     exact this
    ·rw [a9 _ (fun k hk => by show ((2 : Nat) : Int) + (i : Int) ≠ ((2 : Nat) : Int) + ((n + k : Nat) : Int); omega)]
     exact (h.cl.sl i hi).same a6
  have hPb : ∀ k l, P k = some l → k < D.sectors := fun k l hk => by have := (hP.ok k l hk).1; unfold Pl.pages at this; omega
  have hvC : ∀ k, (({ S with pend := P } : Pl).done (S.lg (n + g.length))).valC (app D (S.lg n) g).2.1 k = ((P k).or (S.last k)).getD (placeL D S.first k) := fun k => by
   unfold Pl.valC
   show ((P.over S.last) k).getD (placeL _ S.first k) = _
   rw [hpl]
   unfold Pgs.over
   cases P k <;> rfl
  have hvn : ∀ k, k ≠ 0 → ((P k).or (S.last k)).getD (placeL D S.first k) = S.val D k := fun k hk => by
   rw [hP.same k hk]
   rfl
  have hrm : (app D (S.lg n) g).2.1.rm = D.rm := rm_same a6
  have hpg : (({ S with pend := P } : Pl).done (S.lg (n + g.length))).pages (app D (S.lg n) g).2.1 = S.pages D := by unfold Pl.pages; rw [a7]; rfl
  have hov : (P.over S.last).Ok (S.pages D) D.rm := fun k l hk => by
   unfold Pgs.over at hk
   cases hp : P k with
   | some u => rw [hp] at hk; dsimp only at hk; cases hk; exact hP.ok k _ hp
   | none => rw [hp] at hk; exact h.ok.last k l hk
  have hokS : (({ S with pend := P } : Pl).done (S.lg (n + g.length))).Ok (app D (S.lg n) g).2.1 := by
   have hs : (({ S with pend := P } : Pl).done (S.lg (n + g.length))).Ok D := ⟨h.ok.z, h.ok.s, h.ok.s2, h.ok.slots, h.ok.first, h.ok.now, h.ok.now, hov, Pgs.Ok.none_, h.ok.seen⟩
   exact hs.same a7 a6
  have hchain : Chain (app D (S.lg n) g).2.1 (fun k => ((P k).or (S.last k)).getD (placeL D S.first k)) S.now.free := fun i hi => by
   have hf := h.ok.now.fb _ (List.getElem_mem hi)
   show ((P S.now.free[i]).or (S.last S.now.free[i])).getD (placeL D S.first S.now.free[i]) = _
   rw [hvn _ (by omega), h.cn i hi, hrm]
  refine ⟨_, n + g.length, e, hc', ⟨hcl, h.e1, hokS, h.dead, ⟨n + g.length, rfl, ?_⟩, ?_, ?_, ?_, fun _ => rfl, ?_, ?_, ?_, rfl, fun k l hk => by simp [Pl.done, Pgs.none_] at hk, ?_⟩, hvC, a7, a6⟩
  ·rw [a8] at a2
   exact a2
  ·rw [rows_put, h.rl, hg]
   exact putG_over _ hPb
  ·intro q hq c hcq
   rw [hpg]
   rcases List.mem_append.1 hq with hq | hq
   ·exact h.rp q hq c hcq
   ·simp at hq
    subst hq
    obtain ⟨k, l, rfl, hl, _⟩ := hgc c hcq
    have := (hP.ok k l hl).1
    dsimp only
    omega
  ·intro k l hk
   have := h.seen k l hk
   rw [hpg]
   exact ⟨this.1, by rw [this.2]; exact (hpl k).symm⟩
  ·rw [hvC, hrm]
   show _ = widen D.rm S.now.metaL
   rw [hP.zero]
   cases hm : S.moved with
   | true => rfl
   | false =>
    have := h.p0
    rw [h.mv hm, ← this]
    rfl
  ·intro i hi
   rw [hvC]
   exact hchain i hi
  ·intro i hi
   show (({ S with pend := P } : Pl).done (S.lg (n + g.length))).val (app D (S.lg n) g).2.1 S.now.free[i] = _
   have e : (({ S with pend := P } : Pl).done (S.lg (n + g.length))).val (app D (S.lg n) g).2.1 S.now.free[i] = (({ S with pend := P } : Pl).done (S.lg (n + g.length))).valC (app D (S.lg n) g).2.1 S.now.free[i] := by
    unfold Pl.val Pl.valC
    rfl
   rw [e, hvC]
   exact hchain i hi
  ·intro k l hk
   have hk : P.over S.last k = some l := hk
   unfold Pgs.over at hk
   cases hp : P k with
   | some u => rw [hp] at hk; dsimp only at hk; cases hk; exact hP.byt k _ hp
   | none => rw [hp] at hk; exact h.bl k l hk
 ·have := hc.2; omega
end
end Go.Proofs.YtklppnknllbfnaaGreat
namespace Go.Proofs.YtklppnknllbfnaaGreat
open Go.RowKit Go.Maps
section
variable {D D' : Dsk} {S : Pl} {rows : List (List (Int × List Nat))} {P : Pgs}
theorem beg_pend (S : Pl) (P : Pgs) (D : Dsk) (ep : Nat) : beg { S with pend := P } D ep = ((beg S D ep).1, { (beg S D ep).2.1 with pend := P }, (beg S D ep).2.2) := by
 unfold beg
 split
 ·rfl
 ·split <;> rfl
theorem point_pend (S : Pl) (P : Pgs) (D : Dsk) : point { S with pend := P } D = ((point S D).1, { (point S D).2.1 with pend := P }, (point S D).2.2) := by
 unfold point
 dsimp only
 generalize layAll S.first S.last D (S.last.keys D.sectors) = Y
 unfold pointed
 dsimp only
 rw [beg_pend]
 dsimp only
 split
 ·rfl
 ·split
  ·rfl
  ·split <;> rfl
theorem meta0_is (S : Pl) (D : Dsk) : S.meta0 D = { S with pend := (S.meta0 D).pend } := by
 unfold Pl.meta0
 split <;> rfl
def Pl.nPend (S : Pl) (D : Dsk) : Nat := ((S.meta0 D).pend.keys D.sectors).length
theorem commit_full (h : S.slots < S.nPend D) : committed (S.meta0 D) D = (6, S.backed, D) := by
 have e := meta0_is S D
 unfold Pl.nPend at h
 obtain ⟨P, hP⟩ : ∃ P, P = (S.meta0 D).pend := ⟨_, rfl⟩
 rw [← hP] at h e
 rw [e]
 unfold committed
 dsimp only
 rw [if_neg (by omega), if_pos h]
 rfl
theorem commit_inv (h : InvR S D rows) (hc : Calm D) (hE : S.epoch ≤ 800000000000) (hn : S.nPend D ≤ S.slots) :
  ∃ S' D' rows', committed (S.meta0 D) D = (0, S', D') ∧ InvR S' D' rows' ∧ Calm D' ∧ S'.now = S.now ∧ S'.was = S.now ∧ S'.moved = false ∧ S'.pend = Pgs.none_ ∧ S'.epoch ≤ S.epoch + 1 ∧ S'.slots = S.slots ∧ S'.first = S.first ∧ (∀ k, k ≠ 0 → k < S.pages D → S'.valC D' k = S.val D k) ∧ D'.sectors = D.sectors ∧ D'.size = D.size := by
 have hP := h.pendOk
 have e := meta0_is S D
 unfold Pl.nPend at hn
 obtain ⟨P, hPE⟩ : ∃ P, P = (S.meta0 D).pend := ⟨_, rfl⟩
 rw [← hPE] at hn hP e
 have hsl : S.slots = D.slots := h.ok.slots
 have hvn : ∀ k, k ≠ 0 → ((P k).or (S.last k)).getD (placeL D S.first k) = S.val D k := fun k hk => by
  rw [hP.same k hk]
  rfl
 by_cases h0 : (P.keys D.sectors).length = 0
 ·have hnone : ∀ k, P k = none := fun k => by
   cases hk : P k with
   | none => rfl
   | some l =>
    have h1 := (hP.ok k l hk).1
    have : k ∈ P.keys D.sectors := mem_keys.2 ⟨by unfold Pl.pages at h1; omega, l, hk⟩
    rw [List.eq_nil_of_length_eq_zero h0] at this
    simp at this
  have hm : S.moved = false := by
   cases hm : S.moved with
   | false => rfl
   | true =>
    have := hP.zero
    rw [hnone, hm] at this
    cases this
  have hp : S.pend = Pgs.none_ := by
   funext k
   by_cases hk : k = 0
   ·subst hk; exact h.pz
   ·rw [← hP.same k hk, hnone]; rfl
  have e2 : S.meta0 D = S := by unfold Pl.meta0; rw [hm]; rfl
  refine ⟨S, D, rows, ?_, h, hc, rfl, (h.mv hm).symm, hm, hp, by omega, rfl, rfl, fun k _ _ => ?_, rfl, rfl⟩
  ·rw [e2]
   unfold committed
   rw [if_pos (by rw [hp]; have : P = Pgs.none_ := funext hnone; rw [← this]; exact h0)]
  ·unfold Pl.val Pl.valC
   rw [hp]
   rfl
 ·have hgr : committed (S.meta0 D) D = (if S.room < (P.keys D.sectors).length then (if (point { S with pend := P } D).1 ≠ 0 then point { S with pend := P } D else appended (point { S with pend := P } D).2.1 (point { S with pend := P } D).2.2) else appended { S with pend := P } D) := by
   rw [e]
   unfold committed
   dsimp only
   rw [if_neg h0, if_neg (by omega)]
   rfl
  rw [hgr]
  by_cases hr : S.room < (P.keys D.sectors).length
  ·rw [if_pos hr, point_pend]
   obtain ⟨D1, p1, p2, p3, p4, p5, p6, p7⟩ := point_inv h hc (by omega)
   rw [p1]
   dsimp only
   rw [if_neg (by simp)]
   have hP1 : PendOk S.pointed D1 P := by
    refine ⟨?_, hP.byt, hP.same, ?_⟩
    ·have hpg : S.pointed.pages D1 = S.pages D := by unfold Pl.pages; rw [p6]; rfl
     rw [hpg, rm_same p7]
     exact hP.ok
    ·rw [rm_same p7]
     exact hP.zero
   have hroom : S.pointed.room = (S.slots : Int) := by
    unfold Pl.room Pl.pointed Pl.begun Pl.fresh
    dsimp only
    omega
   obtain ⟨D2, n2, a1, a2, a3, a4, a5, a6⟩ := append_inv p3 p2 hP1 (by show S.epoch + 1 ≤ _; omega) (by rw [p6]; omega) (by rw [p6, hroom]; omega)
   refine ⟨_, D2, _, a1, a3, a2, rfl, rfl, rfl, rfl, Nat.le_refl _, rfl, rfl, fun k hk hkp => ?_, a5.trans p6, a6.trans p7⟩
   rw [a4, ← p5 k hkp, hP.same k hk]
   rfl
  ·rw [if_neg hr]
   obtain ⟨D2, n2, a1, a2, a3, a4, a5, a6⟩ := append_inv h hc hP (by omega) (by omega) (by omega)
   refine ⟨_, D2, _, a1, a3, a2, rfl, rfl, rfl, rfl, by show S.epoch ≤ _; omega, rfl, rfl, fun k hk _ => ?_, a5, a6⟩
   rw [a4, hvn k hk]
end
end Go.Proofs.YtklppnknllbfnaaGreat
namespace Go.Proofs.YtklppnknllbfnaaGreat
open Go.RowKit Go.Maps
/-- What Open asks of a disk. -/
structure Opens (D : Dsk) (E : Nat) (R : List (List (Int × List Nat))) (s : Sta) : Prop where
 h : headsZ D 2 = (E : Int)
 e1 : 1 ≤ E
 g : grp D 2 E ((D.sectors - 2) / 4) 0 [] [] = R
 r1 : ∀ g ∈ R, ∀ c ∈ g, 0 ≤ c.1 ∧ c.1.toNat < (Pl.laid D 0).pages D ∧ c.2.length = D.rm
 r2 : R.length ≤ 1048576
 r3 : ∀ g ∈ R, g.length ≤ 1048576
 ok : s.Ok ((Pl.laid D 0).pages D)
 p0 : (Pl.found D E R s).val D 0 = widen D.rm s.metaL
 ch : Chain D ((Pl.found D E R s).val D) s.free
def Pl.reset (S : Pl) : Pl := { S with now := S.was, pend := Pgs.none_, seen := Pgs.none_, moved := false }
section
variable {D D' : Dsk} {S : Pl} {rows : List (List (Int × List Nat))}
theorem flat_mem {rows : List (List (Int × List Nat))} {g : List (Int × List Nat)} {c : Int × List Nat} (hg : g ∈ rows) (hc : c ∈ g) : ∃ f, (c, f) ∈ flat rows := by
 have : ∀ (g : List (Int × List Nat)), c ∈ g → ∃ f, (c, f) ∈ fl g := by
  intro g
  induction g with
  | nil => intro h; simp at h
  | cons a r ih =>
   intro h
   rcases List.mem_cons.1 h with rfl | h
   ·exact ⟨r.isEmpty, by simp [fl]⟩
   ·obtain ⟨f, hf⟩ := ih h
    exact ⟨f, by simp [fl, hf]⟩
 obtain ⟨f, hf⟩ := this g hc
 exact ⟨f, List.mem_flatMap.2 ⟨g, hg, hf⟩⟩
theorem flat_len_cons (g : List (Int × List Nat)) (rows : List (List (Int × List Nat))) : (flat (g :: rows)).length = g.length + (flat rows).length := by
 have e : flat (g :: rows) = fl g ++ flat rows := by simp [flat]
 rw [e, List.length_append, fl_length]
theorem flat_ge : ∀ (rows : List (List (Int × List Nat))), (∀ g ∈ rows, g ≠ []) → rows.length ≤ (flat rows).length ∧ ∀ g ∈ rows, g.length ≤ (flat rows).length
 | [], _ => ⟨Nat.zero_le _, by simp⟩
 | g :: r, h => by
  have ih := flat_ge r (fun x hx => h x (by simp [hx]))
  have hg := List.length_pos_iff.2 (h g (by simp))
  rw [flat_len_cons]
  refine ⟨by simp only [List.length_cons]; omega, fun x hx => ?_⟩
  rcases List.mem_cons.1 hx with rfl | hx
  ·omega
  ·have := ih.2 x hx; omega
theorem InvR.reset (h : InvR S D rows) : InvR S.reset D rows := by
 refine ⟨h.cl, h.e1, ⟨h.ok.z, h.ok.s, h.ok.s2, h.ok.slots, h.ok.first, h.ok.was, h.ok.was, h.ok.last, Pgs.Ok.none_, Pgs.Ok.none_⟩, h.dead, h.log, h.rl, h.rp, SeenF.none_, fun _ => rfl, h.p0, h.cw, fun i hi => h.cw i hi, rfl, fun k l hk => by simp [Pl.reset, Pgs.none_] at hk, h.bl⟩
theorem laid_pages (h : InvR S D rows) : (Pl.laid D 0).pages D = S.pages D := by
 have h1 := h.ok.first
 have h2 := h.ok.slots
 unfold Pl.pages
 rw [h1, h2]
 rfl
theorem found_val (h : InvR S D rows) (k : Nat) : (Pl.found D S.epoch rows S.was).val D k = S.valC D k := by
 have h1 := h.ok.first
 have h2 := h.ok.slots
 unfold Pl.val Pl.valC
 show ((none : Option (List Nat)).or (putR Pgs.none_ rows k)).getD (placeL D (2 + (D.sectors - 2) / 4) k) = _
 rw [h.rl, h1, h2]
 rfl
theorem InvR.opens (h : InvR S D rows) (hE : S.epoch ≤ 900000000000) : Opens D S.epoch rows S.was := by
 obtain ⟨n, hl, hlh⟩ := h.log
 have hsl : S.slots = D.slots := h.ok.slots
 have hge := flat_ge rows hlh.ne
 have hle := hlh.le
 have hcnt : (S.lg n).count = S.slots := rfl
 have hsle := h.cl.slots_le
 refine ⟨h.cl.heads (by omega), h.e1, ?_, fun g hg c hc => ?_, by omega, fun g hg => by have := hge.2 g hg; omega, ?_, ?_, fun i hi => ?_⟩
 ·have := hlh.groups
  show grp D 2 S.epoch D.slots 0 [] [] = rows
  rw [← hsl]
  exact this
 ·obtain ⟨f, hf⟩ := flat_mem hg hc
  have h1 := hlh.ch _ hf
  have h2 := rm_size h.cl.ok h.cl.z
  have h3 := h1.len
  rw [laid_pages h]
  exact ⟨h1.p0, h.rp g hg c hc, by dsimp only at h3; omega⟩
 ·rw [laid_pages h]; exact h.ok.was
 ·rw [found_val h]; exact h.p0
 ·rw [found_val h]; exact h.cw i hi
theorem beg_log (S : Pl) (x : Option Lg) (D : Dsk) (ep : Nat) : (beg { S with log := x } D ep).1 = (beg S D ep).1 ∧ (beg { S with log := x } D ep).2.2 = (beg S D ep).2.2 := by
 unfold beg
 split
 ·exact ⟨rfl, rfl⟩
 ·split <;> exact ⟨rfl, rfl⟩
theorem point_log (S : Pl) (x : Option Lg) (D : Dsk) : (point { S with log := x } D).1 = (point S D).1 ∧ (point { S with log := x } D).2.2 = (point S D).2.2 := by
 unfold point
 dsimp only
 generalize layAll S.first S.last D (S.last.keys D.sectors) = Y
 unfold pointed
 dsimp only
 have hb := beg_log S x Y.2.flush (S.epoch + 1)
 split
 ·exact ⟨rfl, rfl⟩
 ·split
  ·exact ⟨rfl, rfl⟩
  ·rw [hb.1]
   split
   ·exact ⟨rfl, hb.2⟩
   ·exact ⟨rfl, hb.2⟩
theorem found_is (h : InvR S D rows) : Pl.found D S.epoch rows S.was = { S.reset with log := none } := by
 have h1 := h.ok.first
 have h2 := h.ok.slots
 unfold Pl.found Pl.reset Pl.laid
 rw [h.rl, h1, h2, h.dead]
/-- Open finds a live pool again. -/
theorem open_inv (h : InvR S D rows) (hc : Calm D) (hE : S.epoch ≤ 900000000000) : ∃ D', opened D S.epoch rows S.was = (0, S.reset.pointed, D') ∧ Calm D' ∧ InvR S.reset.pointed D' [] ∧ (∀ k, k < S.pages D → S.reset.pointed.valC D' k = S.valC D k) ∧ D'.sectors = D.sectors ∧ D'.size = D.size := by
 obtain ⟨D1, p1, p2, p3, p4, p5, p6, p7⟩ := point_inv h.reset hc hE
 refine ⟨D1, ?_, p2, p3, fun k hk => (p4 k hk).trans rfl, p6, p7⟩
 have ht : tornL D 2 ((D.sectors - 2) / 4) = [] := h.cl.torn (by omega) _ (Nat.le_refl _)
 have hg : goWipe 2 D [] = (0, D) := by
  unfold goWipe
  rw [hc.flush.1, flush_nothing hc h.cl.lose]
 unfold opened
 rw [ht, hg]
 dsimp only
 rw [if_neg (by simp), found_is h]
 have hl := point_log S.reset none D
 rw [p1] at hl
 have hf := (point_facts { S.reset with log := none } D).2.2.2 hl.1
 have e : point { S.reset with log := none } D = ((point { S.reset with log := none } D).1, (point { S.reset with log := none } D).2.1, (point { S.reset with log := none } D).2.2) := rfl
 rw [e, hl.1, hl.2, hf]
 rfl
end
end Go.Proofs.YtklppnknllbfnaaGreat
