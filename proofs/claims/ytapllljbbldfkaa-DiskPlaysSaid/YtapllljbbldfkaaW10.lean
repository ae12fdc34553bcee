/- A disk of the call's own; what a step leaves standing. -/
import Derived.Test.YtapllljbbldfkaaW9
namespace Go.Proofs.Ytapllljbbldfkaa
open Go.RowKit Go.Maps
variable {ι : Type} [Bar ι]

/-- A disk that lies in the call's own memory. -/
structure Dk (w0 v : World) (b m : Nat) (vl : Value) (D : Dsk) : Prop where
  disk : DiskAt v b m vl D
  low : Below w0.heap.size w0 v
  lo : ∀ k ∈ own b m vl, w0.heap.size ≤ k

/-- A step that turns the blocks T alone; those of T' are of them, or new. -/
structure Step (v v' : World) (T T' : List Nat) : Prop where
  turn : Turn T v v'
  nb : NoBytes v T
  new : ∀ k ∈ T', k ∈ T ∨ v.heap.size ≤ k
  old : ∀ k ∈ T', k < v'.heap.size

section
variable {w0 v v' : World} {b m : Nat} {vl vl' u : Value} {D D' : Dsk} {T T' : List Nat} {l : List Nat}
theorem Step.byt (h : Step v v' T T') (k : Byt v u l) : Byt v' u l := k.turn h.turn h.nb
theorem Step.disk (h : Step v v' T T') {b2 m2 : Nat} {vl2 : Value} {D2 : Dsk} (k : DiskAt v b2 m2 vl2 D2) (hd : ∀ j ∈ own b2 m2 vl2, j ∉ T) : DiskAt v' b2 m2 vl2 D2 ∧ ∀ j ∈ own b2 m2 vl2, j ∉ T' :=
  ⟨k.turn h.turn h.nb hd, fun j hj hT => by
    rcases h.new j hT with h1 | h1
    · exact hd j hj h1
    · have := k.lt j hj; omega⟩
theorem Step.dk (h : Step v v' T T') {b2 m2 : Nat} {vl2 : Value} {D2 : Dsk} (k : Dk w0 v b2 m2 vl2 D2) (hd : ∀ j ∈ own b2 m2 vl2, j ∉ T) (hT : ∀ j ∈ T, w0.heap.size ≤ j) : Dk w0 v' b2 m2 vl2 D2 ∧ ∀ j ∈ own b2 m2 vl2, j ∉ T' :=
  ⟨⟨(h.disk k.disk hd).1, k.low.trans (h.turn.below k.low.size hT), k.lo⟩, (h.disk k.disk hd).2⟩

theorem Dk.grew (h : Dk w0 v b m vl D) (k : Below v.heap.size v v') : Dk w0 v' b m vl D := ⟨h.disk.grew k, grow h.low k, h.lo⟩
theorem Dk.drew (h : Dk w0 v b m vl D) : Dk w0 v.drew b m vl D := h.grew ⟨rfl, rfl, rfl, Nat.le_refl _, fun _ _ => rfl⟩
theorem Dk.stepped (h : Dk w0 v b m vl D) (hd : DiskAt v' b m vl' D') (ht : Turn (own b m vl) v v') (hg : ∀ g, vl'.ownBlock = some g → vl.ownBlock = some g ∨ v.heap.size ≤ g) :
    Dk w0 v' b m vl' D' ∧ Step v v' (own b m vl) (own b m vl') := by
  have hn : ∀ k ∈ own b m vl', k ∈ own b m vl ∨ v.heap.size ≤ k := by
    intro k hk
    rcases mem_own.1 hk with e | e | e
    · exact .inl (mem_own.2 (.inl e))
    · exact .inl (mem_own.2 (.inr (.inl e)))
    · rcases hg k e with h | h
      · exact .inl (mem_own.2 (.inr (.inr h)))
      · exact .inr h
  refine ⟨⟨hd, h.low.trans (ht.below h.low.size h.lo), fun k hk => ?_⟩, ht, h.disk.nobytes, hn, hd.lt⟩
  rcases hn k hk with h1 | h1
  · exact h.lo k h1
  · exact Nat.le_trans h.low.size h1

theorem New_dk (w0 : World) (s z : Nat) (hbar : ∀ k, v.heap.size ≤ k → Bar.P k) (h0 : Below w0.heap.size w0 v) (h1 : (1 : Int) ≤ s) (h2 : (s : Int) ≤ 1048576) (h3 : (64 : Int) ≤ z) (h4 : (z : Int) ≤ 4096) :
    Calls Try.prog 8 #[.int .i64 s, .int .i64 z] v fun e v' => ∃ b m, e = .returned (.pointer (some ⟨b, 0, none⟩)) ∧ Dk w0 v' b m nilv (Dsk.new s z) ∧ Below v.heap.size v v' := by
  refine (New_any s z v hbar h1 h2 h3 h4).mono ?_
  rintro e v' ⟨b, m, rfl, hd, hb, h5, h6⟩
  refine ⟨b, m, rfl, ⟨hd, grow h0 hb, fun k hk => ?_⟩, hb⟩
  have := h0.size
  rcases mem_own.1 hk with e | e | e
  · omega
  · omega
  · simp [nilv, Value.ownBlock] at e
theorem Flush_dk (h : Dk w0 v b m vl D) (hL : D.loose.length ≤ 1000000000) :
    Calls Try.prog 10 #[.pointer (some ⟨b, 0, none⟩)] v fun e v' => e = .returned (.int .i64 D.flushErr) ∧ ∃ vl', Dk w0 v' b m vl' D.flush ∧ Step v v' (own b m vl) (own b m vl') := by
  refine (Flush_any b m vl D v h.disk hL).mono ?_
  rintro e v' ⟨rfl, vl', hd, ht, hg⟩
  exact ⟨rfl, vl', h.stepped hd ht (fun g e => .inl (hg g e))⟩
theorem Arm_dk (h : Dk w0 v b m vl D) (n : Int) (hn : n ≤ 9223372036854775807) :
    Calls Try.prog 21 #[.pointer (some ⟨b, 0, none⟩), .int .i64 n] v fun e v' => e = .returned (.tuple #[]) ∧ Dk w0 v' b m vl (D.arm n) ∧ Step v v' (own b m vl) (own b m vl) := by
  refine (Arm_any n hn h.disk).mono ?_
  rintro e v' ⟨rfl, hd, ht⟩
  exact ⟨rfl, h.stepped hd (ht.mono (fun k hk _ => mem_own.2 (.inl (by simpa using hk)))) (fun g e => .inl e)⟩
theorem Write_dk (h : Dk w0 v b m vl D) (a : Int) {p : Addr} {n c : Nat} (hb : Byt v (.slice (some p) n c) l) (hL : D.loose.length ≤ 1000000000) :
    Calls Try.prog 24 #[.pointer (some ⟨b, 0, none⟩), .int .i64 a, .slice (some p) n c] v fun e v' => e = .returned (.int .i64 (D.putErr a l)) ∧ ∃ vl', Dk w0 v' b m vl' (D.put a l) ∧ Step v v' (own b m vl) (own b m vl') := by
  refine (Write_any a p c n l b m vl D v h.disk hb hb.len_val hL).mono ?_
  rintro e v' ⟨rfl, vl', hd, ht, hg⟩
  exact ⟨rfl, vl', h.stepped hd ht hg⟩
theorem Crash_dk (h : Dk w0 v b m vl D) (fs : List Int) (A : Option Addr) (cf n : Nat) (hn : fs.length = n) (hL : D.loose.length ≤ 1000000000) (hcf : n ≤ cf) (hf : IRd v A fs) (ha : fs ≠ [] → ∀ p, A = some p → p.block < v.heap.size ∧ p.block ∉ own b m vl) :
    Calls Try.prog 14 #[.pointer (some ⟨b, 0, none⟩), .slice A n cf] v fun e v' => e = .returned (.tuple #[]) ∧ ∃ vl', Dk w0 v' b m vl' (D.crash fs) ∧ Step v v' (own b m vl) (own b m vl') := by
  subst hn
  refine (Crash_any b m vl D fs A cf v h.disk hL hcf hf ha).mono ?_
  rintro e v' ⟨rfl, hd, ht⟩
  exact ⟨rfl, nilv, h.stepped hd ht (fun g e => by simp [nilv, Value.ownBlock] at e)⟩

theorem take_len (n : Nat) (l : List Nat) (h : l.length = n) : l.take n = l := by rw [List.take_of_length_le (by omega)]

/-- Read, its bytes in a new row. -/
theorem Read_dk (h : Dk w0 v b m vl D) (a : Int) (hL : D.loose.length ≤ 1000000000) (hr : D.ready a = 0) :
    Calls Try.prog 13 #[.pointer (some ⟨b, 0, none⟩), .int .i64 a] v fun e v' => ∃ g c, e = .returned (.tuple #[.slice (some ⟨g, 0, none⟩) D.size c, .int .i64 0]) ∧ Own v' v.heap.size (.slice (some ⟨g, 0, none⟩) D.size c) (D.tells a) ∧ Dk w0 v' b m vl D ∧ Below v.heap.size v v' := by
  have hlen := (Dsk.tells_ok h.disk.ok a).1
  have hz := h.disk.ok.z1
  refine (Read_yes a h.disk hr hL).mono ?_
  rintro e v' ⟨u, rfl, ho, hb⟩
  rcases ho.2.2 with ⟨_, h0⟩ | ⟨g, cap, cur, rfl, r⟩
  · omega
  · rw [hlen] at ho ⊢
    exact ⟨g, cap, rfl, ho, h.grew hb, hb⟩
theorem Read_dkno (h : Dk w0 v b m vl D) (a : Int) (hr : D.ready a ≠ 0) :
    Calls Try.prog 13 #[.pointer (some ⟨b, 0, none⟩), .int .i64 a] v fun e v' => e = .returned (.tuple #[nilv, .int .i64 (D.ready a)]) ∧ Dk w0 v' b m vl D ∧ Below v.heap.size v v' := by
  refine (Read_no a h.disk hr).mono ?_
  rintro e v' ⟨rfl, hb⟩
  exact ⟨rfl, h.grew hb, hb⟩

/-- An act, and where its fates lie. -/
structure ActV where
  kind : Int
  at_ : Int
  len : Int
  B : Nat
  fates : List Int
def Dsk.acted (D : Dsk) (x : ActV) : Dsk := D.did (x.kind % 7) x.at_ x.len x.B x.fates

/-- The act at q; its fates lie below N. -/
def ActAt (w : World) (N : Nat) (q : Addr) (x : ActV) : Prop :=
  (-9223372036854775808 ≤ x.at_ ∧ x.at_ ≤ 9223372036854775807) ∧ x.B < 256 ∧ ∃ A c, w.cell? q = some (.int .i64 x.kind) ∧ w.cell? ⟨q.block, q.off + 1, none⟩ = some (.int .i64 x.at_) ∧ w.cell? ⟨q.block, q.off + 2, none⟩ = some (.int .i64 x.len) ∧
    w.cell? ⟨q.block, q.off + 3, none⟩ = some (.int .u8 x.B) ∧ w.cell? ⟨q.block, q.off + 4, none⟩ = some (.slice A x.fates.length c) ∧ x.fates.length ≤ c ∧ IRd w A x.fates ∧ (x.fates ≠ [] → ∀ p, A = some p → p.block < N)
/-- From A on these acts lie, all below N. -/
def Acts (w : World) (N : Nat) (A : Option Addr) (l : List ActV) : Prop :=
  l ≠ [] → ∃ p, A = some p ∧ p.block < N ∧ ∀ k (h : k < l.length), ActAt w N (p.add (k * 5)) l[k]

theorem IRd.below {B : Nat} {A : Option Addr} {fs : List Int} (h : IRd v A fs) (hb : Below B v v') (hA : fs ≠ [] → ∀ p, A = some p → p.block < B) : IRd v' A fs :=
  ⟨h.1, fun hn => by
    obtain ⟨p, e, hp, hc⟩ := h.2 hn
    exact ⟨p, e, Nat.lt_of_lt_of_le hp hb.size, fun k hk => (hb.cell (p := p.add k) (by rw [add_block]; exact hA hn p e)).trans (hc k hk)⟩⟩
theorem ActAt.below {N : Nat} {q : Addr} {x : ActV} (h : ActAt v N q x) (hb : Below N v v') (hq : q.block < N) : ActAt v' N q x := by
  obtain ⟨h1, h2, A, c, k0, k1, k2, k3, k4, hc, hi, ha⟩ := h
  exact ⟨h1, h2, A, c, (hb.cell hq).trans k0, (hb.cell (p := ⟨q.block, _, none⟩) hq).trans k1, (hb.cell (p := ⟨q.block, _, none⟩) hq).trans k2, (hb.cell (p := ⟨q.block, _, none⟩) hq).trans k3, (hb.cell (p := ⟨q.block, _, none⟩) hq).trans k4, hc, hi.below hb ha, ha⟩
theorem Acts.below {N : Nat} {A : Option Addr} {l : List ActV} (h : Acts v N A l) (hb : Below N v v') : Acts v' N A l := by
  intro hn
  obtain ⟨p, e, hp, hc⟩ := h hn
  exact ⟨p, e, hp, fun k hk => (hc k hk).below hb (by rw [add_block]; exact hp)⟩
theorem Acts.get {N : Nat} {A : Option Addr} {l : List ActV} (h : Acts v N A l) {k : Nat} (hk : k < l.length) : ∃ p, A = some p ∧ p.block < N ∧ ActAt v N (p.add (k * 5)) l[k] := by
  obtain ⟨p, e, hp, hc⟩ := h (by intro e; rw [e] at hk; simp at hk)
  exact ⟨p, e, hp, hc k hk⟩

theorem did_dk (h : Dk w0 v b m vl D) (x : ActV) (hB : x.B < 256) (hat : -9223372036854775808 ≤ x.at_ ∧ x.at_ ≤ 9223372036854775807) (A : Option Addr) (fc fn : Nat) (hfn : fn = x.fates.length) (hL : D.loose.length ≤ 1000000000) (hcf : fn ≤ fc) (hf : IRd v A x.fates) (ha : x.fates ≠ [] → ∀ p, A = some p → p.block < w0.heap.size) :
    Calls Try.prog 9 #[.pointer (some ⟨b, 0, none⟩), .agg #[.int .i64 x.kind, .int .i64 x.at_, .int .i64 x.len, .int .u8 x.B, .slice A fn fc]] v fun e v' => e = .returned (.tuple #[]) ∧
      ∃ vl', Dk w0 v' b m vl' (D.acted x) ∧ Step v v' (own b m vl) (own b m vl') := by
  subst hfn
  have hk : (x.kind.tmod 7 + 7).tmod 7 = ((x.kind % 7).toNat : Int) := rem_mod x.kind 7 (by omega)
  have hnn := Int.emod_nonneg x.kind (show (7 : Int) ≠ 0 by omega)
  refine (did_road x.kind (x.kind % 7) x.at_ x.len x.B x.fates A fc ?_ hB hat h.disk hL hcf hf (fun hn p hp => ⟨Nat.lt_of_lt_of_le (ha hn p hp) h.low.size, fun hm => ?_⟩)).mono ?_
  · rw [Int.toNat_of_nonneg hnn] at hk
    exact hk
  · have h1 := ha hn p hp
    have h2 := h.lo _ hm
    omega
  rintro e v' ⟨rfl, vl', hd, ht, hg⟩
  exact ⟨rfl, vl', h.stepped hd ht hg⟩
end
theorem acted_loose (D : Dsk) (x : ActV) : (D.acted x).loose.length ≤ D.loose.length + 1 := by
  unfold Dsk.acted Dsk.did
  split
  · have := Dsk.flush_loose (d := D); omega
  · split
    · omega
    · split
      · exact Nat.le_succ _
      · split
        · simp [Dsk.crash]
        · exact Dsk.put_loose _ _
end Go.Proofs.Ytapllljbbldfkaa
