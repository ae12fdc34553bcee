/- Plain laws: what heads, pages and slots tell; a disk that is clean; what a write that was flushed leaves. Plain laws: what a live pool keeps to on a clean disk; Format makes such a one. Plain laws: what changes pages and roots in memory keeps a pool alive. Plain laws: a checkpoint on a calm disk. Plain laws: a commit on a calm disk. Plain laws: Commit and Checkpoint on a calm disk. Plain laws: Open on a calm disk. -/
import Derived.Test.YtfmdmfiljplkoaaGreatP31
import Derived.Test.YtfmdmfiljplkoaaGreatLD
namespace Go.Proofs.YtfmdmfiljplkoaaGreat
open Go.RowKit Go.Maps
section
variable {D D' : Dsk} {S : Pl}
theorem lt_zeros {z : Nat} : ∀ b ∈ List.replicate z 0, b < 256 := fun b h => by rw [List.eq_of_mem_replicate h]; omega
theorem readErr_bad {s : List Nat} (h : readOk s = false) : readErr s = 5 := by unfold readErr; rw [h]; rfl
theorem headZ_bad {s : List Nat} (h : readOk s = false) (a : Int) : headZ s a = 0 := by
  unfold headZ
  rw [readErr_bad h, if_neg (by omega)]
theorem headZ_zeros {z : Nat} (h : 64 ≤ z) (a : Int) : headZ (List.replicate z 0) a = 0 := headZ_bad (readOk_zeros h) a
theorem head_reads (h : D.Ok) {e : Nat} (h1 : 1 ≤ e) (h2 : e ≤ 1099511627776) : readOk (headL D e) = true ∧ readMark (headL D e) = (e : Nat) ∧ readErr (headL D e) = 0 := by
  have hz := h.z1
  have := sector_reads D.size e [] hz h1 (by omega) (by simp; omega) (by simp)
  exact ⟨this.1, this.2.1, this.2.2.2⟩
theorem headZ_head (h : D.Ok) {e : Nat} (h1 : 1 ≤ e) (h2 : e ≤ 1099511627776) {a : Nat} (ha : e % 2 = a) : headZ (headL D e) (a : Nat) = e := by
  obtain ⟨r1, r2, r3⟩ := head_reads h h1 h2
  have ht : ((e : Nat) : Int).tmod 2 = (a : Nat) := by
    rw [Int.tmod_eq_emod_of_nonneg (by omega)]
    omega
  unfold headZ
  rw [r2, r3, if_pos ⟨rfl, ht, by omega⟩]
theorem headsZ_two (D : Dsk) : headsZ D 2 = max (headZ (D.tells 0) 0) (headZ (D.tells 1) 1) := by
  show max (max 0 (headZ (D.tells 0) 0)) (headZ (D.tells 1) 1) = _
  have := headZ_in (D.tells 0) 0
  omega
/-- The heads: the epoch's own, the other one of an elder epoch. -/
theorem headsZ_own {D : Dsk} {E : Nat} (h1 : headZ (D.tells ((E % 2 : Nat) : Int)) ((E % 2 : Nat) : Int) = E) (h2 : headZ (D.tells (((E + 1) % 2 : Nat) : Int)) (((E + 1) % 2 : Nat) : Int) ≤ E) : headsZ D 2 = E := by
  rw [headsZ_two]
  rcases Nat.mod_two_eq_zero_or_one E with e | e
  · have e' : (E + 1) % 2 = 1 := by omega
    rw [e] at h1
    rw [e'] at h2
    simp only [show ((0 : Nat) : Int) = 0 from rfl, show ((1 : Nat) : Int) = 1 from rfl] at h1 h2
    omega
  · have e' : (E + 1) % 2 = 0 := by omega
    rw [e] at h1
    rw [e'] at h2
    simp only [show ((0 : Nat) : Int) = 0 from rfl, show ((1 : Nat) : Int) = 1 from rfl] at h1 h2
    omega
theorem rm_size (h : D.Ok) (hz : 512 ≤ D.size) : D.rm + 45 = D.size := by
  have h2 := h.z2
  have h3 := lroom_rm D
  have hk : okSize D.size = true := by simp [okSize]; omega
  unfold lroom room at h3
  rw [if_pos hk] at h3
  omega
theorem widen_lt {r : Nat} {l : List Nat} (h : ∀ b ∈ l, b < 256) : ∀ b ∈ widen r l, b < 256 := by
  intro b hb
  rcases List.mem_append.1 hb with h1 | h1
  · exact h b h1
  · exact lt_zeros b h1
/-- A page's sector is read as it was laid. -/
theorem place_read (h : D.Ok) (hz : 512 ≤ D.size) {first k : Nat} {l : List Nat} (hl : l.length ≤ D.rm) (hb : ∀ b ∈ l, b < 256) (hk : k ≤ 1048576) (ht : D.tells ((first : Int) + k) = sectL D k l) : placeL D first k = widen D.rm l := by
  have hs := rm_size h hz
  have hw := widen_length hl
  obtain ⟨r1, r2, r3, r4⟩ := sector_reads D.size (k + 1) (widen D.rm l) h.z1 (by omega) (by omega) (by omega) (widen_lt hb)
  unfold placeL
  rw [ht]
  unfold sectL
  dsimp only
  rw [r2, r3, r4, if_pos ⟨rfl, rfl⟩, List.take_left' hw]
/-- A write, flushed, on a calm disk with nothing loose. -/
theorem Calm.put_flush (h : Calm D) (hl : D.loose = []) (ok : D.Ok) {a : Int} {l : List Nat} (h0 : 0 ≤ a) (h1 : a < (D.sectors : Int)) (hn : l.length = D.size) (hb : ∀ b ∈ l, b < 256) :
    Calm (D.put a l).flush ∧ (D.put a l).flush.loose = [] ∧ (D.put a l).flush.Ok ∧ (D.put a l).flush.sectors = D.sectors ∧ (D.put a l).flush.size = D.size ∧ ∀ x, (D.put a l).flush.tells x = if x = a then l else D.tells x := by
  have hp := h.put h0 h1 hn
  have hf := hp.2.2.flush
  refine ⟨hf.2.2, by rw [hf.2.1], (ok.put a l hb).flush, Dsk.flush_sectors.1.trans (Dsk.put_sectors a l).1, Dsk.flush_sectors.2.trans (Dsk.put_sectors a l).2, fun x => ?_⟩
  rw [hf.2.1, hp.2.1, hl]
  unfold Dsk.tells
  dsimp only
  rw [hl]
  show ((none : Option (List Nat))).getD (settle D.fast ([] ++ [(a, l)]) x) = if x = a then l else (none : Option (List Nat)).getD (D.fast x)
  show upd D.fast a l x = _
  rfl
theorem flush_nothing (h : Calm D) (hl : D.loose = []) : D.flush = D := by
  rw [h.flush.2.1, hl]
  obtain ⟨a, b, c, d, e, f⟩ := D
  simp only at hl
  subst hl
  rfl
/-- What may lie in a slot: nothing, or a change of an epoch up to E. -/
def SlotOk (D : Dsk) (E i : Nat) (s : List Nat) : Prop := s = List.replicate D.size 0 ∨ ∃ e x, 1 ≤ e ∧ e ≤ E ∧ ChOk D.size x.1 ∧ s = secAt D.size e i x
/-- What may lie in the other head. -/
def HeadOk (D : Dsk) (E : Nat) (s : List Nat) : Prop := s = List.replicate D.size 0 ∨ ∃ e, 1 ≤ e ∧ e < E ∧ e % 2 = (E + 1) % 2 ∧ s = headL D e
def Dsk.slots (D : Dsk) : Nat := (D.sectors - 2) / 4
/-- A clean disk in epoch E (0: no pool was on it). -/
structure Cln (D : Dsk) (E : Nat) : Prop where
  ok : D.Ok
  up : D.down = false
  s : 24 ≤ D.sectors
  z : 512 ≤ D.size
  lose : D.loose = []
  own : if E = 0 then D.tells 0 = List.replicate D.size 0 else D.tells ((E % 2 : Nat) : Int) = headL D E
  oth : HeadOk D E (D.tells (((E + 1) % 2 : Nat) : Int))
  sl : ∀ i : Nat, i < D.slots → SlotOk D E i (D.tells (((2 : Nat) : Int) + i))
theorem SlotOk.ep {E i : Nat} {s : List Nat} (h : SlotOk D E i s) (ok : D.Ok) (hE : E ≤ 1000000000000) (hi : i ≤ 1048576) : 0 ≤ slotEp s i ∧ slotEp s i ≤ E ∧ isTorn s i = false := by
  rcases h with rfl | ⟨e, x, h1, h2, h3, rfl⟩
  · have hb := readOk_zeros ok.z1
    have hk : slotOk (List.replicate D.size 0) i = false := by unfold slotOk; rw [readErr_bad hb]; rfl
    refine ⟨by rw [slot_bad hb]; omega, by rw [slot_bad hb]; omega, ?_⟩
    unfold isTorn
    rw [(slot_no hk).2.2]
    have : nzB (List.replicate D.size 0) = false := by
      unfold nzB
      rw [List.any_eq_false]
      intro x hx
      rw [List.eq_of_mem_replicate hx]; simp
    rw [this]
    simp
  · obtain ⟨s1, s2, _⟩ := secAt_slot h3 ok.z1 ⟨h1, by omega⟩ hi
    refine ⟨by rw [s2]; omega, by rw [s2]; omega, ?_⟩
    unfold isTorn
    rw [s2]
    have : ((e : Int) == 0) = false := by simp; omega
    rw [this]
    rfl
theorem SlotOk.mono {E E' i : Nat} {s : List Nat} (h : SlotOk D E i s) (hE : E ≤ E') : SlotOk D E' i s := by
  rcases h with h | ⟨e, x, h1, h2, h3, h4⟩
  · exact .inl h
  · exact .inr ⟨e, x, h1, by omega, h3, h4⟩
theorem SlotOk.same {E i : Nat} {s : List Nat} (h : SlotOk D E i s) (hz : D'.size = D.size) : SlotOk D' E i s := by
  unfold SlotOk at *
  rw [hz]
  exact h
theorem head_same (hz : D'.size = D.size) (e : Nat) : headL D' e = headL D e := by unfold headL; rw [hz]
theorem sect_same (hz : D'.size = D.size) (k : Nat) (l : List Nat) : sectL D' k l = sectL D k l := by unfold sectL; rw [hz, rm_same hz]
theorem HeadOk.le {E : Nat} {s : List Nat} (h : HeadOk D E s) (ok : D.Ok) (hE : E ≤ 1000000000000) : headZ s (((E + 1) % 2 : Nat) : Int) ≤ E := by
  rcases h with rfl | ⟨e, h1, h2, h3, rfl⟩
  · rw [headZ_zeros ok.z1]; omega
  · rw [headZ_head ok h1 (by omega) h3]; omega
theorem Cln.heads {E : Nat} (h : Cln D E) (hE : E ≤ 1000000000000) : headsZ D 2 = E := by
  have ho := h.own
  by_cases h0 : E = 0
  · subst h0
    rw [if_pos rfl] at ho
    refine headsZ_own ?_ (h.oth.le h.ok hE)
    rw [show ((0 % 2 : Nat) : Int) = 0 from rfl, ho, headZ_zeros h.ok.z1]
  · rw [if_neg h0] at ho
    refine headsZ_own ?_ (h.oth.le h.ok hE)
    rw [ho]
    exact headZ_head h.ok (by omega) (by omega) rfl
theorem Cln.slots_le {E : Nat} (h : Cln D E) : D.slots ≤ 1048576 ∧ 2 + D.slots < D.sectors := by
  have h1 := h.ok.s2
  have h2 := h.s
  unfold Dsk.slots
  omega
theorem Cln.lat {E : Nat} (h : Cln D E) (hE : E ≤ 1000000000000) : ∀ k, k ≤ D.slots → latV D 2 k ≤ E
  | 0, _ => by simp [latV]
  | k + 1, hk => by
    have ih := Cln.lat h hE k (by omega)
    have hs := h.slots_le
    have := ((h.sl k (by omega)).ep h.ok hE (by omega)).2.1
    simp only [latV]
    omega
theorem Cln.torn {E : Nat} (h : Cln D E) (hE : E ≤ 1000000000000) : ∀ k, k ≤ D.slots → tornL D 2 k = []
  | 0, _ => rfl
  | k + 1, hk => by
    have hs := h.slots_le
    have := ((h.sl k (by omega)).ep h.ok hE (by omega)).2.2
    unfold tornL
    rw [this]
    exact Cln.torn h hE k (by omega)
/-- A head of the next epoch. -/
theorem Cln.next {E : Nat} (h : Cln D E) (hz : D'.size = D.size) (hs : D'.sectors = D.sectors) (ok : D'.Ok) (up : D'.down = false) (hl : D'.loose = []) (ht : D'.tells (((E + 1) % 2 : Nat) : Int) = headL D (E + 1)) (ht2 : D'.tells ((E % 2 : Nat) : Int) = D.tells ((E % 2 : Nat) : Int))
    (hsl : ∀ i : Nat, i < D.slots → D'.tells (((2 : Nat) : Int) + i) = D.tells (((2 : Nat) : Int) + i)) : Cln D' (E + 1) := by
  refine ⟨ok, up, by rw [hs]; exact h.s, by rw [hz]; exact h.z, hl, ?_, ?_, fun i hi => ?_⟩
  · rw [if_neg (by omega), ht, head_same hz]
  · have e : (E + 1 + 1) % 2 = E % 2 := by omega
    rw [e, ht2]
    have ho := h.own
    by_cases h0 : E = 0
    · subst h0
      rw [if_pos rfl] at ho
      left
      rw [show ((0 % 2 : Nat) : Int) = 0 from rfl, ho, hz]
    · rw [if_neg h0] at ho
      right
      exact ⟨E, by omega, by omega, by omega, by rw [ho, head_same hz]⟩
  · unfold Dsk.slots at hi hsl
    rw [hs] at hi
    rw [hsl i hi]
    exact ((h.sl i hi).mono (by omega)).same hz
theorem Cln.new {s z : Nat} (h1 : 24 ≤ s) (h2 : s ≤ 1048576) (h3 : 512 ≤ z) (h4 : z ≤ 4096) : Cln (Dsk.new s z) 0 :=
  ⟨Dsk.Ok.new (by omega) h2 (by omega) h4, rfl, h1, h3, rfl, by rw [if_pos rfl]; rfl, .inl rfl, fun i _ => .inl rfl⟩
end
end Go.Proofs.YtfmdmfiljplkoaaGreat
namespace Go.Proofs.YtfmdmfiljplkoaaGreat
open Go.RowKit Go.Maps
/-- A page as it was committed. -/
def Pl.valC (S : Pl) (D : Dsk) (k : Nat) : List Nat := (S.last k).getD (placeL D S.first k)
/-- A chain of pages that were given back. -/
def Chain (D : Dsk) (val : Nat → List Nat) (l : List Nat) : Prop := ∀ i (h : i < l.length), val l[i] = widen D.rm (lebZ (prev l i : Nat) 4)
def Pl.lg (S : Pl) (n : Nat) : Lg := ⟨2, S.slots, S.epoch, n, false⟩
structure InvR (S : Pl) (D : Dsk) (rows : List (List (Int × List Nat))) : Prop where
  cl : Cln D S.epoch
  e1 : 1 ≤ S.epoch
  ok : S.Ok D
  dead : S.dead = false
  log : ∃ n, S.log = some (S.lg n) ∧ LogHas D (S.lg n) rows
  rl : putR Pgs.none_ rows = S.last
  rp : ∀ g ∈ rows, ∀ c ∈ g, c.1.toNat < S.pages D
  seen : SeenF S D S.seen
  mv : S.moved = false → S.now = S.was
  p0 : S.valC D 0 = widen D.rm S.was.metaL
  cw : Chain D (S.valC D) S.was.free
  cn : Chain D (S.val D) S.now.free
  pz : S.pend 0 = none
  bp : ∀ k l, S.pend k = some l → ∀ b ∈ l, b < 256
  bl : ∀ k l, S.last k = some l → ∀ b ∈ l, b < 256
section
variable {D D' : Dsk} {S : Pl} {E : Nat}
theorem metaR_lt (r : R8) : ∀ k, ∀ b ∈ metaR r k, b < 256
  | 0, b, h => by simp [metaR] at h
  | k + 1, b, h => by
    rw [metaR_succ] at h
    rcases List.mem_append.1 h with h | h
    · exact metaR_lt r k b h
    · exact lebZ_lt _ _ b h
theorem metaL_lt (s : Sta) : ∀ b ∈ s.metaL, b < 256 := by
  intro b h
  unfold Sta.metaL at h
  rcases List.mem_append.1 h with h | h
  · rcases List.mem_append.1 h with h | h
    · exact metaR_lt _ _ b h
    · exact lebZ_lt _ _ b h
  · exact lebZ_lt _ _ b h
theorem sectL_lt (D : Dsk) (k : Nat) {l : List Nat} (h : ∀ b ∈ l, b < 256) : ∀ b ∈ sectL D k l, b < 256 := sector_lt (widen_lt h)
theorem headL_lt (D : Dsk) (e : Nat) : ∀ b ∈ headL D e, b < 256 := sector_lt (by simp)
theorem Cln.cleaned (h : Cln D E) (hc : Calm D) (hE : E ≤ 1000000000000) : cleaned D 2 D.slots = D := by
  unfold YtfmdmfiljplkoaaGreat.cleaned
  rw [h.torn hE _ (Nat.le_refl _)]
  exact flush_nothing hc h.lose
theorem Cln.formEp (h : Cln D E) (hE : E ≤ 1000000000000) : formEp D = E + 1 := by
  have h1 := h.heads hE
  have h2 := h.lat hE D.slots (Nat.le_refl _)
  have h3 := latV_in D 2 D.slots
  unfold YtfmdmfiljplkoaaGreat.formEp
  show (max (headsZ D 2) (latV D 2 D.slots)).toNat + 1 = E + 1
  omega
/-- What a write and a head, both flushed, leave. -/
theorem two_heads (E : Nat) : (((E + 1) % 2 : Nat) : Int) ≠ ((E % 2 : Nat) : Int) ∧ 0 ≤ (((E + 1) % 2 : Nat) : Int) ∧ (((E + 1) % 2 : Nat) : Int) < 2 ∧ 0 ≤ ((E % 2 : Nat) : Int) ∧ ((E % 2 : Nat) : Int) < 2 := by omega
theorem formed_is (h : Cln D E) (hc : Calm D) (hE : E ≤ 1000000000000) :
    Calm (formed D) ∧ (formed D).loose = [] ∧ (formed D).Ok ∧ (formed D).sectors = D.sectors ∧ (formed D).size = D.size ∧
      ∀ x, (formed D).tells x = if x = (((E + 1) % 2 : Nat) : Int) then headL D (E + 1) else if x = ((2 + D.slots : Nat) : Int) then sectL D 0 (⟨1, [], R8.zero⟩ : Sta).metaL else D.tells x := by
  have hsl := h.slots_le
  have hrm := rm_size h.ok h.z
  have hm := metaL_length ⟨1, [], R8.zero⟩
  have e0 : formed0 D = (D.put ((2 + D.slots : Nat) : Int) (sectL D 0 (⟨1, [], R8.zero⟩ : Sta).metaL)).flush := by
    unfold formed0
    show ((YtfmdmfiljplkoaaGreat.cleaned D 2 D.slots).put ((2 + D.slots : Nat) : Int) (sectL (YtfmdmfiljplkoaaGreat.cleaned D 2 D.slots) 0 _)).flush = _
    rw [h.cleaned hc hE]
  have hz := h.z
  obtain ⟨a1, a2, a3, a4, a5, a6⟩ := hc.put_flush h.lose h.ok (a := ((2 + D.slots : Nat) : Int)) (l := sectL D 0 (⟨1, [], R8.zero⟩ : Sta).metaL) (by omega) (by omega) (sectL_length h.ok (by omega)) (sectL_lt D 0 (metaL_lt _))
  rw [← e0] at a1 a2 a3 a4 a5 a6
  have e1 : formed D = ((formed0 D).put (((E + 1) % 2 : Nat) : Int) (headL (formed0 D) (E + 1))).flush := by
    unfold formed
    rw [h.formEp hE]
  have h2 := two_heads E
  obtain ⟨b1, b2, b3, b4, b5, b6⟩ := a1.put_flush a2 a3 (a := (((E + 1) % 2 : Nat) : Int)) (l := headL (formed0 D) (E + 1)) (by omega) (by rw [a4]; have := h.s; omega) (headL_len a3 _) (headL_lt _ _)
  rw [← e1] at b1 b2 b3 b4 b5 b6
  refine ⟨b1, b2, b3, b4.trans a4, b5.trans a5, fun x => ?_⟩
  rw [b6, a6, head_same a5]
/-- Format makes a live pool. -/
theorem Format_inv (h : Cln D E) (hc : Calm D) (hE : E ≤ 900000000000) : InvR ((Pl.laid D 0).begun (formEp D)) (formed D) [] ∧ Calm (formed D) := by
  obtain ⟨b1, b2, b3, b4, b5, b6⟩ := formed_is h hc (by omega)
  have hep := h.formEp (by omega)
  have h2 := two_heads E
  have hsl := h.slots_le
  have hz := h.z
  have hs := h.s
  rw [hep]
  have hcl : Cln (formed D) (E + 1) := h.next b5 b4 b3 b1.1 b2 (by rw [b6, if_pos rfl]) (by rw [b6, if_neg (by omega), if_neg (by omega)]) (fun i hi => by rw [b6, if_neg (by omega), if_neg (by omega)])
  have hok : ((Pl.laid D 0).begun (E + 1)).Ok (formed D) := by
    have h1 := (laid_ok h.ok hs hz 0).same b4 b5
    exact ⟨h1.z, h1.s, h1.s2, h1.slots, h1.first, h1.now, h1.was, h1.last, h1.pend, h1.seen⟩
  have hlg : LogHas (formed D) ⟨2, D.slots, E + 1, 0, false⟩ [] := by
    refine LogHas.start b1.1 (by rw [b4]; dsimp only; omega) ⟨by show 2 ≤ 1048576; omega, hsl.1, ⟨by show 1 ≤ E + 1; omega, by show E + 1 ≤ 1099511627776; omega⟩, Nat.zero_le _⟩ rfl (by omega) (fun i hi => ?_)
    dsimp only at hi ⊢
    rw [b6, if_neg (by omega), if_neg (by omega)]
    have := ((h.sl i hi).ep h.ok (by omega) (by omega)).2.1
    omega
  have hp0 : ((Pl.laid D 0).begun (E + 1)).valC (formed D) 0 = widen (formed D).rm (⟨1, [], R8.zero⟩ : Sta).metaL := by
    unfold Pl.valC
    show ((Pgs.none_ 0).getD (placeL (formed D) (2 + D.slots) 0)) = _
    show placeL (formed D) (2 + D.slots) 0 = _
    refine place_read b3 (by omega) ?_ (metaL_lt _) (by omega) ?_
    · have := rm_size b3 (by omega)
      rw [metaL_length]; omega
    · rw [b6, if_neg (by omega), if_pos (by omega), sect_same b5]
  exact ⟨⟨hcl, by show 1 ≤ E + 1; omega, hok, rfl, ⟨0, rfl, hlg⟩, rfl, by simp, SeenF.none_, fun _ => rfl, hp0, fun i hi => by simp [Pl.begun, Pl.laid] at hi, fun i hi => by simp [Pl.begun, Pl.laid] at hi, rfl, fun k l hk => by simp [Pl.begun, Pl.laid, Pgs.none_] at hk, fun k l hk => by simp [Pl.begun, Pl.laid, Pgs.none_] at hk⟩, b1⟩
end
end Go.Proofs.YtfmdmfiljplkoaaGreat
namespace Go.Proofs.YtfmdmfiljplkoaaGreat
open Go.RowKit Go.Maps
section
variable {D D' : Dsk} {S : Pl} {rows : List (List (Int × List Nat))}
theorem val_put (S : Pl) (D : Dsk) (k : Nat) (l : List Nat) (j : Nat) {x : Sta} {f : Pgs} {m : Bool} : ({ S with now := x, pend := S.pend.put k l, seen := f, moved := m } : Pl).val D j = if j = k then l else S.val D j := by
  unfold Pl.val Pgs.put
  dsimp only
  by_cases h : j = k
  · rw [if_pos h, if_pos h]; rfl
  · rw [if_neg h, if_neg h]
theorem Pl.Ok.putp (h : S.Ok D) {k : Nat} {l : List Nat} (hk : k < S.pages D) (hl : l.length = D.rm) {x : Sta} (hx : x.Ok (S.pages D)) {f : Pgs} (hf : f.Ok (S.pages D) D.rm) {m : Bool} : ({ S with now := x, pend := S.pend.put k l, seen := f, moved := m } : Pl).Ok D :=
  ⟨h.z, h.s, h.s2, h.slots, h.first, hx, h.was, h.last, h.pend.put hk hl, hf⟩
/-- One page has another load. -/
theorem InvR.putp (h : InvR S D rows) {k : Nat} {l : List Nat} (hk : k < S.pages D) (h0 : k ≠ 0) (hl : l.length = D.rm) (hb : ∀ b ∈ l, b < 256) {x : Sta} (hx : x.Ok (S.pages D)) {f : Pgs} (hf : SeenF S D f) {m : Bool} (hm : m = false → x = S.was)
    (hc : Chain D (fun j => if j = k then l else S.val D j) x.free) : InvR { S with now := x, pend := S.pend.put k l, seen := f, moved := m } D rows := by
  refine ⟨h.cl, h.e1, h.ok.putp hk hl hx (hf.ok h.cl.ok), h.dead, h.log, h.rl, h.rp, hf, hm, h.p0, h.cw, ?_, ?_, ?_, h.bl⟩
  · intro i hi
    rw [val_put]
    exact hc i hi
  · show S.pend.put k l 0 = none
    unfold Pgs.put
    rw [if_neg (Ne.symm h0)]
    exact h.pz
  · intro j u hj
    have hj : S.pend.put k l j = some u := hj
    unfold Pgs.put at hj
    split at hj
    · cases hj; exact hb
    · exact h.bp j u hj
theorem widen_zero_lt (r : Nat) : ∀ b ∈ widen r [], b < 256 := widen_lt (by simp)
theorem InvR.write (h : InvR S D rows) {k : Nat} (ht : S.now.taken k = true) {l : List Nat} (hl : l.length ≤ D.rm) (hb : ∀ b ∈ l, b < 256) : InvR { S with pend := S.pend.put k (widen D.rm l) } D rows := by
  obtain ⟨j, e, h1, h2, h3, h4, h5⟩ := taken_bounds h.ok ht
  obtain rfl : k = j := by omega
  refine h.putp (x := S.now) (f := S.seen) (m := S.moved) h4 (by omega) (widen_length hl) (widen_lt hb) h.ok.now h.seen h.mv (fun i hi => ?_)
  have hne : S.now.free[i] ≠ k := fun e => h5 (by rw [← e]; exact List.getElem_mem hi)
  show (if S.now.free[i] = k then _ else _) = _
  rw [if_neg hne]
  exact h.cn i hi
theorem InvR.rm (h : InvR S D rows) : 460 ≤ D.rm := h.ok.rm1 h.cl.ok
/-- A page given back is taken. -/
theorem dropLast_free {s : Sta} {P : Nat} (h : s.Ok P) : Sta.Ok { s with free := s.free.dropLast } P :=
  ⟨h.n1, h.n2, h.nd.sublist (List.dropLast_sublist _), fun k hk => h.fb k ((List.dropLast_sublist _).subset hk), h.rt⟩
theorem prev_dropLast (l : List Nat) (i : Nat) (h : i < l.dropLast.length) : prev l.dropLast i = prev l i := by
  unfold prev
  by_cases h0 : i = 0
  · rw [if_pos h0, if_pos h0]
  · rw [if_neg h0, if_neg h0]
    have hl : l.dropLast.length = l.length - 1 := by simp
    rw [List.getElem?_eq_getElem (by omega), List.getElem?_eq_getElem (by omega), List.getElem_dropLast]
theorem top_mem {s : Sta} (h : s.free ≠ []) : ∃ hk : s.free.length - 1 < s.free.length, s.top = s.free[s.free.length - 1] := by
  rcases last_cases s.free with ⟨h1, _⟩ | ⟨k, h1, hk, h2⟩
  · exact absurd (List.eq_nil_of_length_eq_zero h1) h
  · have e : s.free.length - 1 = k := by omega
    refine ⟨by omega, ?_⟩
    unfold Sta.top
    rw [h2]
    congr 1
    exact e.symm
theorem InvR.takeFree (h : InvR S D rows) (hf : S.now.free ≠ []) : InvR (S.tookFree D) D rows := by
  obtain ⟨hk, ht⟩ := top_mem hf
  have hb := h.ok.now.fb _ (List.getElem_mem hk)
  have hn2 := h.ok.now.n2
  unfold Pl.tookFree
  rw [ht]
  refine h.putp (k := S.now.free[S.now.free.length - 1]) (x := { S.now with free := S.now.free.dropLast }) (f := S.seen) (m := true) (by omega) (by omega) (widen_length (Nat.zero_le _)) (widen_zero_lt _) (dropLast_free h.ok.now) h.seen (by simp) (fun i hi => ?_)
  have hl : S.now.free.dropLast.length = S.now.free.length - 1 := by simp
  have hi' : i < S.now.free.length := by dsimp only at hi; omega
  have hi2 : i < S.now.free.length - 1 := by dsimp only at hi; omega
  dsimp only at hi ⊢
  rw [prev_dropLast _ _ hi, List.getElem_dropLast]
  have hne : S.now.free[i] ≠ S.now.free[S.now.free.length - 1] := by
    intro e
    have := (List.getElem_inj h.ok.now.nd).1 e
    omega
  rw [if_neg hne]
  exact h.cn i hi'
theorem InvR.takeNew (h : InvR S D rows) (hn : S.now.next < S.pages D) : InvR (S.tookNew D) D rows := by
  have hx : Sta.Ok { S.now with next := S.now.next + 1 } (S.pages D) := ⟨by show 1 ≤ S.now.next + 1; omega, by show S.now.next + 1 ≤ S.pages D; omega, h.ok.now.nd, fun k hk => by have := h.ok.now.fb k hk; exact ⟨this.1, by show k < S.now.next + 1; omega⟩, h.ok.now.rt⟩
  refine h.putp (k := S.now.next) (x := { S.now with next := S.now.next + 1 }) (f := S.seen) (m := true) hn (by have := h.ok.now.n1; omega) (widen_length (Nat.zero_le _)) (widen_zero_lt _) hx h.seen (by simp) (fun i hi => ?_)
  dsimp only at hi ⊢
  have := h.ok.now.fb _ (List.getElem_mem hi)
  rw [if_neg (by omega)]
  exact h.cn i hi
theorem InvR.back (h : InvR S D rows) : InvR S.backed D rows := by
  refine ⟨h.cl, h.e1, ⟨h.ok.z, h.ok.s, h.ok.s2, h.ok.slots, h.ok.first, h.ok.was, h.ok.was, h.ok.last, Pgs.Ok.none_, h.ok.seen⟩, h.dead, h.log, h.rl, h.rp, h.seen, fun _ => rfl, h.p0, h.cw, ?_, rfl, fun k l hk => by simp [Pl.backed, Pgs.none_] at hk, h.bl⟩
  intro i hi
  exact h.cw i hi
/-- What was seen only. -/
theorem InvR.loaded (h : InvR S D rows) {k : Nat} (hk : k < S.pages D) : InvR (S.loaded D k) D rows ∧ ∃ f, S.loaded D k = { S with seen := f } ∧ SeenF S D f := by
  obtain ⟨f, e, hf⟩ := seen_loaded (S := S) (x := S.now) (f := S.seen) h.seen hk
  have e' : S.loaded D k = { S with seen := f } := e
  refine ⟨?_, f, e', hf⟩
  rw [e']
  exact ⟨h.cl, h.e1, ⟨h.ok.z, h.ok.s, h.ok.s2, h.ok.slots, h.ok.first, h.ok.now, h.ok.was, h.ok.last, h.ok.pend, hf.ok h.cl.ok⟩, h.dead, h.log, h.rl, h.rp, hf, h.mv, h.p0, h.cw, h.cn, h.pz, h.bp, h.bl⟩
theorem InvR.page (h : InvR S D rows) (k : Nat) : S.page D k = S.val D k := seen_page (S := S) (x := S.now) h.seen k
end
end Go.Proofs.YtfmdmfiljplkoaaGreat
namespace Go.Proofs.YtfmdmfiljplkoaaGreat
open Go.RowKit Go.Maps
/-- The writes of a checkpoint's pages. -/
def layW (D : Dsk) (first : Nat) (f : Pgs) (ks : List Nat) : List (Int × List Nat) := ks.map fun k : Nat => ((first : Int) + k, sectL D k ((f k).getD []))
section
variable {D D' : Dsk} {S : Pl} {rows : List (List (Int × List Nat))}
end
end Go.Proofs.YtfmdmfiljplkoaaGreat
namespace Go.Proofs.YtfmdmfiljplkoaaGreat
open Go.RowKit Go.Maps
section
variable {D D' : Dsk} {S : Pl} {rows : List (List (Int × List Nat))} {P : Pgs}
/-- The pages that a commit writes. -/
structure PendOk (S : Pl) (D : Dsk) (P : Pgs) : Prop where
  ok : P.Ok (S.pages D) D.rm
  byt : ∀ k l, P k = some l → ∀ b ∈ l, b < 256
  same : ∀ k, k ≠ 0 → P k = S.pend k
  zero : P 0 = if S.moved then some (widen D.rm S.now.metaL) else none
end
end Go.Proofs.YtfmdmfiljplkoaaGreat
namespace Go.Proofs.YtfmdmfiljplkoaaGreat
open Go.RowKit Go.Maps
section
variable {D D' : Dsk} {S : Pl} {rows : List (List (Int × List Nat))} {P : Pgs}
def Pl.nPend (S : Pl) (D : Dsk) : Nat := ((S.meta0 D).pend.keys D.sectors).length
end
end Go.Proofs.YtfmdmfiljplkoaaGreat
namespace Go.Proofs.YtfmdmfiljplkoaaGreat
open Go.RowKit Go.Maps
/-- What Open asks of a disk. -/
structure Opens (D : Dsk) (E : Nat) (R : List (List (Int × List Nat))) (s : Sta) : Prop where
  h : headsZ D 2 = (E : Int)
  e1 : 1 ≤ E
  g : grp D 2 E ((D.sectors - 2) / 4) 0 [] [] = R
  r1 : ∀ g ∈ R, ∀ c ∈ g, 0 ≤ c.1 ∧ c.1.toNat < (Pl.laid D 0).pages D ∧ c.2.length = D.rm
  r2 : R.length ≤ 1048576
  r3 : ∀ g ∈ R, g.length ≤ 1048576
  ok : s.Ok ((Pl.laid D 0).pages D)
  p0 : (Pl.found D E R s).val D 0 = widen D.rm s.metaL
  ch : Chain D ((Pl.found D E R s).val D) s.free
def Pl.reset (S : Pl) : Pl := { S with now := S.was, pend := Pgs.none_, seen := Pgs.none_, moved := false }
section
variable {D D' : Dsk} {S : Pl} {rows : List (List (Int × List Nat))}
end
end Go.Proofs.YtfmdmfiljplkoaaGreat
