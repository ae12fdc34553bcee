/- An act upon a pool on an armed disk: what it leaves, what stands behind the crash. Crash, Arm, Open of a disk behind a crash. -/
import Derived.Test.YtklppnknllbfnaaGreatQF
import Derived.Test.YtklppnknllbfnaaGreatRi
import Derived.Test.YtklppnknllbfnaaGreatC5
namespace Go.Proofs.YtklppnknllbfnaaGreat
open Go.RowKit Go.Maps
set_option maxRecDepth 8000
variable {ι : Type} [Bar ι]
/-- The document's pool behind an act. -/
def Rp.foll (R : Rp) (x : ActP) : Rp :=
 if kindOf x.k = 0 then R.take.2.2 else if kindOf x.k = 3 then (R.give x.pg).2 else if kindOf x.k = 4 then (R.setRoot x.pg x.ln).2 else if kindOf x.k = 5 then R.commit.2 else if kindOf x.k = 6 then R.back
 else if kindOf x.k = 7 ∨ kindOf x.k = 8 then R else (R.write x.pg (List.replicate (lenOf x.ln) x.B)).2
/-- A pool in memory, be it dead. -/
structure Lo (w0 v : World) (M : Mem) (S : Pl) (D : Dsk) : Prop where
 pool : PoolAt v M S D
 low : Below w0.heap.size w0 v
 lo : ∀ j ∈ M.own, w0.heap.size ≤ j
section
variable {w0 v v1 v' : World} {M M' : Mem} {S S' : Pl} {D D' : Dsk} {R : Rp} {T T' : List Nat} {rows : List (List (Int × List Nat))}
theorem Step.after (h : Step v1 v' T T') (hb : Below v.heap.size v v1) (hn : NoBytes v T) : Step v v' T T' :=
 ⟨(Turn.of_below hb T).trans h.turn (fun _ hj _ => hj), hn, fun k hk => (h.new k hk).imp id (fun h => Nat.le_trans hb.size h), h.old⟩
theorem Lp.went0 (h : Lp w0 v M S D) (hp : PoolAt v' M' S' D') (hw : PWent v v' M M') : Lo w0 v' M' S' D' ∧ Step v v' M.own M'.own := by
 refine ⟨⟨hp, h.low.trans (hw.1.below h.low.size h.lo), fun j hj => ?_⟩, hw.step h.pool hp⟩
 rcases hw.2.1 j hj with h1 | h1
 ·exact h.lo j h1
 ·exact Nat.le_trans h.low.size h1
/-- What may stand behind a crash: what was committed; at a commit also all of it. -/
def Fate (C : Dsk) (Em : Nat) (S : Pl) (D : Dsk) (x : ActP) : Prop := Cr C Em S.was (S.valC D) ∨ kindOf x.k = 5 ∧ ¬ S.slots < S.nPend D ∧ ∃ V, (∀ k, k ≠ 0 → k < S.pages D → V k = S.val D k) ∧ Cr C Em S.now V
def Went3 (w0 v v' : World) (M : Mem) (S : Pl) (D : Dsk) (R : Rp) (x : ActP) (er : Int) : Prop := ∃ M' S' D', Hand M M' ∧ Step v v' M.own M'.own ∧
 ((er ≠ 4 ∧ Lp w0 v' M' S' D' ∧ S'.epoch ≤ S.epoch + 1 ∧ D'.sectors = D.sectors ∧ D'.size = D.size ∧ Like S' D' (if er = 0 ∨ er = 6 then R.foll x else R)) ∨
  (er = 4 ∧ Lo w0 v' M' S' D' ∧ Downs D D' 4 ∧ ∀ fs, Fate (D'.crash fs) (S.epoch + 1) S D x))
theorem rtake_er (R : Rp) : R.take.2.1 = 0 ∨ R.take.2.1 = 6 := by
 unfold Rp.take
 (repeat' split) <;> simp
theorem rgive_er (R : Rp) (p : Int) : (R.give p).1 = 0 ∨ (R.give p).1 = 7 ∧ (R.give p).2 = R := by
 unfold Rp.give
 split <;> simp
theorem rroot_er (R : Rp) (k n : Int) : (R.setRoot k n).1 = 0 ∨ (R.setRoot k n).1 = 2 ∧ (R.setRoot k n).2 = R := by
 unfold Rp.setRoot
 split <;> simp
theorem rwrite_er (R : Rp) (p : Int) (l : List Nat) : (R.write p l).1 = 0 ∨ ((R.write p l).1 = 7 ∨ (R.write p l).1 = 3) ∧ (R.write p l).2 = R := by
 unfold Rp.write
 (repeat' split) <;> simp
theorem did_arm (h : Lp w0 v M S D) (hl : Like S D R) (hE : S.epoch ≤ 600000000000) (x : ActP) (hB : x.B < 256) :
  Calls Tryz.prog 17 #[.pointer (some ⟨M.p, 0, none⟩), .agg #[.int .i64 x.k, .int .i64 x.pg, .int .i64 x.ln, .int .u8 (x.B : Nat)]] v fun e v' => ∃ er, e = .returned (.int .i64 er) ∧ Went3 w0 v v' M S D R x er := by
 obtain ⟨rows, hi⟩ := h.inv
 have hn := h.pool.nobytes
 refine did_any x.k x.pg x.ln x.B v (.pointer (some ⟨M.p, 0, none⟩)) M.own h.pool.lt hB (fun er v' => Went3 w0 v v' M S D R x er) ?_ ?_ ?_ ?_ ?_ ?_ ?_
 ·intro hk v1 hb
  refine (Take_lp (h.grew hb)).mono ?_
  rintro e v' ⟨M', rfl, hh, hp, hs⟩
  obtain ⟨_, e2, e3⟩ := hl.take hi
  have her := rtake_er R
  rw [e2] at her
  refine ⟨_, _, rfl, M', _, D, hh, hs.after hb hn, .inl ⟨by omega, hp, by rw [take_epoch]; omega, rfl, rfl, ?_⟩⟩
  rw [if_pos (by omega)]
  unfold Rp.foll
  rw [if_pos hk]
  exact e3
 ·intro hk v1 hb
  refine (Give_lp (h.grew hb) x.pg).mono ?_
  rintro e v' ⟨M', rfl, hh, hp, hs⟩
  obtain ⟨e2, e3⟩ := hl.give hi x.pg
  have her := rgive_er R x.pg
  rw [e2] at her
  have hf : R.foll x = (R.give x.pg).2 := by unfold Rp.foll; rw [if_neg (by omega), if_pos hk]
  refine ⟨_, rfl, M', _, D, hh, hs.after hb hn, .inl ⟨by omega, hp, by rw [give_epoch]; omega, rfl, rfl, ?_⟩⟩
  rcases her with h0 | ⟨h0, h1⟩
  ·rw [if_pos (by omega), hf]; exact e3
  ·rw [if_neg (by omega), ← h1]; exact e3
 ·intro hk v1 hb
  refine (SetRoot_lp (h.grew hb) x.pg x.ln).mono ?_
  rintro e v' ⟨rfl, hp, hs⟩
  obtain ⟨e2, e3⟩ := hl.setRoot hi x.pg x.ln
  have her := rroot_er R x.pg x.ln
  rw [e2] at her
  have hf : R.foll x = (R.setRoot x.pg x.ln).2 := by unfold Rp.foll; rw [if_neg (by omega), if_neg (by omega), if_pos hk]
  refine ⟨_, rfl, M, _, D, rfl, hs.after hb hn, .inl ⟨by omega, hp, by rw [setRoot_epoch]; omega, rfl, rfl, ?_⟩⟩
  rcases her with h0 | ⟨h0, h1⟩
  ·rw [if_pos (by omega), hf]; exact e3
  ·rw [if_neg (by omega), ← h1]; exact e3
 ·intro hk v1 hb
  have hg := h.grew hb
  obtain ⟨n, hlog, _⟩ := hi.log
  have hcm := PCommit_any hg.pool hi.ok hi.dead hlog (by rw [hi.cl.lose]; simp) (by omega) _ rfl
  have hf : R.foll x = R.commit.2 := by unfold Rp.foll; rw [if_neg (by omega), if_neg (by omega), if_neg (by omega), if_pos hk]
  by_cases hnp : S.slots < S.nPend D
  ·rw [commit_full hnp] at hcm
   refine hcm.mono ?_
   rintro e v' ⟨rfl, M', hp, hw⟩
   have hk2 := hg.went hp hw ⟨rows, hi.back⟩
   refine ⟨_, rfl, M', _, D, hw.2.2, hk2.2.after hb hn, .inl ⟨by omega, hk2.1, by show S.epoch ≤ S.epoch + 1; omega, rfl, rfl, ?_⟩⟩
   rw [if_pos (by omega), hf]
   exact (hl.full hi hnp).2
  ·rcases commit_armed hi (by omega) (by omega) with ⟨c1, ⟨rows', c2⟩, c3, c4, c5, c6, c7, c8, c9, c10, c11, c12, _⟩ | ⟨hd, hcr⟩
   ·refine hcm.mono ?_
    rintro e v' ⟨rfl, M', hp, hw⟩
    have hk2 := hg.went hp hw ⟨rows', c2⟩
    rw [c1]
    refine ⟨_, rfl, M', _, _, hw.2.2, hk2.2.after hb hn, .inl ⟨by omega, hk2.1, c7, c11, c12, ?_⟩⟩
    rw [if_pos (by omega), hf]
    exact (hl.committed hi ⟨c3, c4, c5, c6, c7, c8, c9, c10, c11, c12⟩ (by omega)).2
   ·refine hcm.mono ?_
    rintro e v' ⟨rfl, M', hp, hw⟩
    have hk2 := hg.went0 hp hw
    have he := hd.e
    rw [he] at hd
    rw [he]
    exact ⟨_, rfl, M', _, _, hw.2.2, hk2.2.after hb hn, .inr ⟨rfl, hk2.1, hd, fun fs => (hcr fs).imp id fun h => ⟨hk, hnp, h⟩⟩⟩
 ·intro hk v1 hb
  refine (Back_lp (h.grew hb)).mono ?_
  rintro e v' ⟨M', rfl, hh, hp, hs⟩
  refine ⟨_, rfl, M', _, D, hh, hs.after hb hn, .inl ⟨by omega, hp, by show S.epoch ≤ S.epoch + 1; omega, rfl, rfl, ?_⟩⟩
  rw [if_pos (by omega)]
  unfold Rp.foll
  rw [if_neg (by omega), if_neg (by omega), if_neg (by omega), if_neg (by omega), if_pos hk]
  exact hl.back
 ·intro hk v1 hb
  have hg := h.grew hb
  have hcp := PCheckpoint_any hg.pool hi.ok (by rw [hi.cl.lose]; simp) (by omega) _ rfl
  have hf : R.foll x = R := by unfold Rp.foll; rw [if_neg (by omega), if_neg (by omega), if_neg (by omega), if_neg (by omega), if_neg (by omega), if_pos hk]
  by_cases hnp : 0 < (S.pend.keys D.sectors).length ∨ S.moved = true
  ·have e : checkpoint S D = (21, S, D) := by unfold checkpoint; rw [if_neg (by rw [hi.dead]; simp), if_pos hnp]
   rw [e] at hcp
   refine hcp.mono ?_
   rintro e v' ⟨rfl, M', hp, hw⟩
   have hk2 := hg.went hp hw ⟨rows, hi⟩
   refine ⟨_, rfl, M', S, D, hw.2.2, hk2.2.after hb hn, .inl ⟨by omega, hk2.1, by omega, rfl, rfl, ?_⟩⟩
   rw [if_neg (by omega)]
   exact hl
  ·have e : checkpoint S D = point S D := by unfold checkpoint; rw [if_neg (by rw [hi.dead]; simp), if_neg hnp]
   rw [e] at hcp
   rcases point_armed hi (by omega) with ⟨p1, p2, p3, p4, p5, p6, p7, _⟩ | ⟨hd, hcr⟩
   ·refine hcp.mono ?_
    rintro e v' ⟨rfl, M', hp, hw⟩
    rw [p2] at hp
    have hk2 := hg.went hp hw ⟨_, p3⟩
    rw [p1]
    refine ⟨_, rfl, M', _, _, hw.2.2, hk2.2.after hb hn, .inl ⟨by omega, hk2.1, Nat.le_refl _, p6, p7, ?_⟩⟩
    rw [if_pos (by omega), hf]
    exact hl.pointed hi ⟨rfl, rfl, rfl, rfl, Nat.le_refl _, rfl, rfl, p4, p5, p6, p7⟩
   ·refine hcp.mono ?_
    rintro e v' ⟨rfl, M', hp, hw⟩
    have hk2 := hg.went0 hp hw
    have he := hd.e
    rw [he] at hd
    rw [he]
    exact ⟨_, rfl, M', _, _, hw.2.2, hk2.2.after hb hn, .inr ⟨rfl, hk2.1, hd, fun fs => .inl (hcr fs)⟩⟩
 ·intro hk v1 A c hb hr
  refine (Write_lp (h.grew hb) x.pg (by simp) hr).mono ?_
  rintro e v' ⟨rfl, hp, hs⟩
  obtain ⟨e2, e3⟩ := hl.write hi x.pg (List.replicate (lenOf x.ln) x.B)
  have her := rwrite_er R x.pg (List.replicate (lenOf x.ln) x.B)
  rw [e2] at her
  have hf : R.foll x = (R.write x.pg (List.replicate (lenOf x.ln) x.B)).2 := by unfold Rp.foll; rw [if_neg (by omega), if_neg (by omega), if_neg (by omega), if_neg (by omega), if_neg (by omega), if_neg (by omega)]
  refine ⟨_, rfl, _, rfl, ⟨M, _, D, rfl, hs.after hb hn, .inl ⟨by omega, hp, by rw [write_epoch]; omega, rfl, rfl, ?_⟩⟩, hs.turn⟩
  rcases her with h0 | ⟨h0, h1⟩
  ·rw [if_pos (by omega), hf]; exact e3
  ·rw [if_neg (by omega), ← h1]; exact e3
end
end Go.Proofs.YtklppnknllbfnaaGreat
namespace Go.Proofs.YtklppnknllbfnaaGreat
open Go.RowKit Go.Maps
set_option maxRecDepth 8000
variable {ι : Type} [Bar ι]
section
variable {w0 v v' : World} {b m : Nat} {vl vl' : Value} {M M' : Mem} {S S' : Pl} {D D' : Dsk} {E : Nat} {rows : List (List (Int × List Nat))} {s : Sta} {V : Nat → List Nat} {R : Rp}
theorem Arm_dk (h : Dk w0 v b m vl D) (n : Int) (hn : n ≤ 9223372036854775807) :
  Calls Tryz.prog 36 #[.pointer (some ⟨b, 0, none⟩), .int .i64 n] v fun e v' => e = .returned (.tuple #[]) ∧ Dk w0 v' b m vl (D.arm n) ∧ Step v v' (own b m vl) (own b m vl) := by
 refine (Arm_any n hn h.disk).mono ?_
 rintro e v' ⟨rfl, hd, ht⟩
 exact ⟨rfl, h.stepped hd (ht.mono (fun k hk _ => mem_own.2 (.inl (by simpa using hk)))) (fun g e => .inl e)⟩
theorem Crash_dk (h : Dk w0 v b m vl D) (fs : List Int) (A : Option Addr) (cf n : Nat) (hn : fs.length = n) (hL : D.loose.length ≤ 1000000000) (hcf : n ≤ cf) (hf : IRd v A fs) (ha : fs ≠ [] → ∀ p, A = some p → p.block < v.heap.size ∧ p.block ∉ own b m vl) :
  Calls Tryz.prog 37 #[.pointer (some ⟨b, 0, none⟩), .slice A n cf] v fun e v' => e = .returned (.tuple #[]) ∧ ∃ vl', Dk w0 v' b m vl' (D.crash fs) ∧ Step v v' (own b m vl) (own b m vl') := by
 subst hn
 refine (Crash_any b m vl D fs A cf v h.disk hL hcf hf ha).mono ?_
 rintro e v' ⟨rfl, hd, ht⟩
 exact ⟨rfl, nilv, h.stepped hd ht (fun g e => by simp [nilv, Value.ownBlock] at e)⟩
theorem Lo.dk (h : Lo w0 v M S D) : Dk w0 v M.b M.m M.vl D := ⟨h.pool.disk, h.low, fun j hj => h.lo j (PoolAt.own_disk j hj)⟩
theorem Lp.to_lo (h : Lp w0 v M S D) : Lo w0 v M S D := ⟨h.pool, h.low, h.lo⟩
/-- What a crash leaves of a disk that did not go down. -/
theorem InvR.crash (h : InvR S D rows) (hE : S.epoch ≤ 900000000000) (fs : List Int) : Cr (D.crash fs) S.epoch S.was (S.valC D) := by
 have e : D.crash fs = { D with armed := 0 } := by
  unfold Dsk.crash
  have hl := h.cl.lose
  have hu := h.cl.up
  cases D
  simp only at hl hu
  subst hl
  subst hu
  rfl
 rw [e]
 obtain ⟨h1, h2⟩ := (h.re (Int.le_refl 0) (by decide)).holds hE
 exact ⟨rfl, S.epoch, rows, Nat.le_refl _, h1, h2⟩
theorem Open_arm (h : Dk w0 v b m vl D) (hh : Holds D E rows s V) (hE : E ≤ 800000000000) : Calls Tryz.prog 18 #[.pointer (some ⟨b, 0, none⟩)] v fun e v' =>
  (∃ M' S' D', e = .returned (.tuple #[.pointer (some ⟨M'.p, 0, none⟩), .int .i64 0]) ∧ M'.b = b ∧ M'.m = m ∧ Lo w0 v' M' S' D' ∧ Holds D' (E + 1) [] s V ∧ D'.sectors = D.sectors ∧ D'.size = D.size ∧ Step v v' (own b m vl) M'.own) ∨
  (∃ vl' D', e = .returned (.tuple #[.pointer none, .int .i64 4]) ∧ Dk w0 v' b m vl' D' ∧ Downs D D' 4 ∧ (Strong D E → ∀ fs, (D'.crash fs).armed = 0 ∧ ∃ E' rows', E' ≤ E + 1 ∧ Holds (D'.crash fs) E' rows' s V) ∧ Step v v' (own b m vl) (own b m vl')) := by
 have ho := hh.opens (by omega)
 have hop := Open_any h.disk hh.s1 hh.z hh.rest.up (by rw [hh.rest.lose]; simp) E ho.h ho.e1 (by omega) rows ho.g ho.r1 ho.r2 ho.r3 s ho.ok ho.p0 ho.ch _ rfl
 rcases hh.open_ (by omega) _ rfl with ⟨o1, o2, o3, o4, o5, _⟩ | ⟨o1, o2, o3, o4, o5, o6, o7, o8⟩
 ·refine hop.mono ?_
  rintro e v' (⟨_, M', rfl, hp, hw⟩ | ⟨h0, _⟩)
  ·left
   refine ⟨M', _, _, rfl, hw.2.2.1, hw.2.2.2, ⟨hp, h.low.trans (hw.1.below h.low.size h.lo), fun j hj => ?_⟩, o3, o4, o5, ⟨hw.1, h.disk.nobytes, hw.2.1, hp.lt⟩⟩
   rcases hw.2.1 j hj with h1 | h1
   ·exact h.lo j h1
   ·exact Nat.le_trans h.low.size h1
  ·exact absurd o1 h0
 ·refine hop.mono ?_
  rintro e v' (⟨h0, _⟩ | ⟨_, rfl, vl', hd, ht, hg⟩)
  ·rw [o1] at h0; omega
  ·right
   rw [o1]
   have hs := h.stepped hd ht hg
   exact ⟨vl', _, rfl, hs.1, ⟨rfl, o2, o3, o4, o5, o6, o7⟩, o8, hs.2⟩
theorem Open_calm (h : Dk w0 v b m vl D) (hh : Holds D E rows s V) (ha : D.armed = 0) (hE : E ≤ 800000000000) : Calls Tryz.prog 18 #[.pointer (some ⟨b, 0, none⟩)] v fun e v' =>
  ∃ M' S' D', e = .returned (.tuple #[.pointer (some ⟨M'.p, 0, none⟩), .int .i64 0]) ∧ Lp w0 v' M' S' D' ∧ Step v v' (own b m vl) M'.own ∧ S'.now = s ∧ S'.was = s ∧ S'.moved = false ∧ S'.pend = Pgs.none_ ∧ S'.slots = D.slots ∧ S'.pages D' = D.pg ∧ D'.rm = D.rm ∧ ∀ k, k < D.pg → S'.valC D' k = V k := by
 have ho := hh.opens (by omega)
 have hop := Open_any h.disk hh.s1 hh.z hh.rest.up (by rw [hh.rest.lose]; simp) E ho.h ho.e1 (by omega) rows ho.g ho.r1 ho.r2 ho.r3 s ho.ok ho.p0 ho.ch _ rfl
 obtain ⟨o1, o2, o3, o4, o5⟩ := hh.opened ha (by omega)
 refine hop.mono ?_
 rintro e v' (⟨_, M', rfl, hp, hw⟩ | ⟨h0, _⟩)
 ·obtain ⟨D', hD'⟩ : ∃ D', D' = (opened D E rows s).2.2 := ⟨_, rfl⟩
  have e1 : (opened D E rows s).2.1 = (Pl.found D E rows s).pointed := by rw [o1]
  rw [e1] at hp
  rw [← hD'] at hp o2 o3 o4 o5
  refine ⟨M', _, D', rfl, ⟨hp, h.low.trans (hw.1.below h.low.size h.lo), fun j hj => ?_, [], o2⟩, ⟨hw.1, h.disk.nobytes, hw.2.1, hp.lt⟩, rfl, rfl, rfl, rfl, ?_, ?_, rm_same o5, o3⟩
  ·rcases hw.2.1 j hj with h1 | h1
   ·exact h.lo j h1
   ·exact Nat.le_trans h.low.size h1
  ·unfold Dsk.slots; rfl
  ·rw [← pg_pages D]
   unfold Pl.pages
   rw [o4]
   rfl
 ·rw [o1] at h0; exact absurd rfl h0
/-- What the document's pool has of what was committed. -/
structure Keeps (D : Dsk) (s : Sta) (V : Nat → List Nat) (R : Rp) : Prop where
 was : RsLike s V R.was
 pages : R.pages = D.pg
 slot : R.slot = D.slots
 room : R.room = D.rm
theorem Keeps.like (h : Keeps D s V R) (hs : s.next ≤ D.pg) (h1 : S'.now = s) (h2 : S'.was = s) (h3 : S'.moved = false) (h4 : S'.pend = Pgs.none_) (h5 : S'.slots = D.slots) (h6 : S'.pages D' = D.pg) (h7 : D'.rm = D.rm) (h8 : ∀ k, k < D.pg → S'.valC D' k = V k) : Like S' D' R.back := by
 have hw : RsLike S'.was (S'.valC D') R.was := h.was.other h2 (fun k _ hk => h8 k (by omega))
 refine ⟨?_, hw, h3.symm, List.nodup_nil, fun k => ?_, by rw [h6]; exact h.pages, by rw [h5]; exact h.slot, by rw [h7]; exact h.room⟩
 ·refine h.was.other h1 (fun k _ hk => ?_)
  rw [val_none h4, h8 k (by omega)]
 ·rw [h4]
  simp [Rp.back, Pgs.none_]
end
end Go.Proofs.YtklppnknllbfnaaGreat
