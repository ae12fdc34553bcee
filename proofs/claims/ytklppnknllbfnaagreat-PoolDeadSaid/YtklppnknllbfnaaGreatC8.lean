/- A pool on a disk that is about to go down, and behind it. -/
import Derived.Test.YtklppnknllbfnaaGreatDx
namespace Go.Proofs.YtklppnknllbfnaaGreat
open Go.RowKit Go.Maps
set_option maxRecDepth 8000
variable {ι : Type} [Bar ι]
section
variable {w0 v v' : World} {M M' : Mem} {S S' : Pl} {D D' : Dsk}
/-- The next write or flush brings the disk down. -/
def One (D : Dsk) : Prop := D.down = false ∧ D.armed = 1
theorem One.act (h : One D) : D.act = { D with armed := 0, down := true } := by
  unfold Dsk.act
  rw [h.2]
  simp
theorem One.putErr (h : One D) (a : Int) (l : List Nat) : D.putErr a l ≠ 0 := by
  unfold Dsk.putErr
  rw [h.act]
  by_cases h1 : D.ready a ≠ 0
  · rw [if_pos h1]; exact h1
  · rw [if_neg h1]
    split <;> simp
theorem One.flushErr (h : One D) : D.flushErr ≠ 0 := by
  unfold Dsk.flushErr
  rw [h.act]
  simp
theorem put_len (D : Dsk) (a : Int) (l : List Nat) : (D.put a l).loose.length ≤ D.loose.length + 1 := by
  unfold Dsk.put Dsk.act
  (repeat' split) <;> simp
theorem flush_len (D : Dsk) : D.flush.loose.length ≤ D.loose.length := by
  unfold Dsk.flush Dsk.act
  (repeat' split) <;> simp
theorem One.layAll (h : One D) (f : Nat) (P : Pgs) (ks : List Nat) : ((layAll f P D ks).1 ≠ 0 ∧ (YtklppnknllbfnaaGreat.layAll f P D ks).2.loose.length ≤ D.loose.length + 1) ∨ YtklppnknllbfnaaGreat.layAll f P D ks = (0, D) := by
  cases ks with
  | nil => exact .inr rfl
  | cons k r =>
    left
    unfold YtklppnknllbfnaaGreat.layAll
    rw [if_pos (h.putErr _ _)]
    exact ⟨h.putErr _ _, put_len _ _ _⟩
theorem die_dead (S : Pl) {e : Int} (h : e ≠ 0) : (S.die e).dead = true := by
  unfold Pl.die
  simp [h]
theorem One.point (h : One D) (S : Pl) : (point S D).1 ≠ 0 ∧ (YtklppnknllbfnaaGreat.point S D).2.1.dead = true ∧ (YtklppnknllbfnaaGreat.point S D).2.2.loose.length ≤ D.loose.length + 1 := by
  unfold YtklppnknllbfnaaGreat.point pointed
  rcases h.layAll S.first S.last (S.last.keys D.sectors) with ⟨h1, h2⟩ | h1
  · rw [if_pos h1]
    exact ⟨h1, die_dead _ h1, h2⟩
  · rw [h1]
    rw [if_neg (by simp), if_pos h.flushErr]
    exact ⟨h.flushErr, die_dead _ h.flushErr, Nat.le_succ_of_le (flush_len D)⟩
theorem One.app (h : One D) (L : Lg) (g : List (Int × List Nat)) : (app D L g).1 ≠ 0 ∧ (YtklppnknllbfnaaGreat.app D L g).2.1.loose.length ≤ D.loose.length + 1 := by
  unfold YtklppnknllbfnaaGreat.app
  by_cases hr : rightE D L g = 0
  · rw [if_pos hr]
    cases g with
    | nil => exact ⟨h.flushErr, Nat.le_succ_of_le (flush_len D)⟩
    | cons c r =>
      unfold goApp
      rw [if_pos (h.putErr _ _)]
      exact ⟨h.putErr _ _, put_len _ _ _⟩
  · rw [if_neg hr]
    exact ⟨hr, Nat.le_succ _⟩
theorem One.appended (h : One D) {L : Lg} (hl : S.log = some L) : (appended S D).2.1.dead = true ∧ (YtklppnknllbfnaaGreat.appended S D).2.2.loose.length ≤ D.loose.length + 1 := by
  unfold YtklppnknllbfnaaGreat.appended
  rw [hl]
  dsimp only
  have h1 := h.app L (grpOf S.pend (S.pend.keys D.sectors))
  rw [if_pos h1.1]
  exact ⟨die_dead _ h1.1, h1.2⟩
theorem One.committed (h : One D) {L : Lg} (hl : S.log = some L) : ((committed S D).2.1.dead = true ∧ (YtklppnknllbfnaaGreat.committed S D).2.2.loose.length ≤ D.loose.length + 1) ∨ (S.pend.keys D.sectors).length = 0 ∧ YtklppnknllbfnaaGreat.committed S D = (0, S, D) ∨ S.slots < (S.pend.keys D.sectors).length ∧ YtklppnknllbfnaaGreat.committed S D = (6, S.backed, D) := by
  unfold YtklppnknllbfnaaGreat.committed
  by_cases h0 : (S.pend.keys D.sectors).length = 0
  · rw [if_pos h0]; exact .inr (.inl ⟨h0, rfl⟩)
  · rw [if_neg h0]
    by_cases h1 : S.slots < (S.pend.keys D.sectors).length
    · rw [if_pos h1]; exact .inr (.inr ⟨h1, rfl⟩)
    · rw [if_neg h1]
      left
      by_cases h2 : S.room < (S.pend.keys D.sectors).length
      · rw [if_pos h2, if_pos (h.point S).1]
        exact (h.point S).2
      · rw [if_neg h2]
        exact h.appended hl
/-- A pool that is dead. -/
structure Lq (w0 v : World) (M : Mem) (S : Pl) (D : Dsk) : Prop where
  pool : PoolAt v M S D
  low : Below w0.heap.size w0 v
  lo : ∀ j ∈ M.own, w0.heap.size ≤ j
  dead : S.dead = true
theorem Lq.grew (h : Lq w0 v M S D) (k : Below v.heap.size v v') : Lq w0 v' M S D := ⟨h.pool.grew k, grow h.low k, h.lo, h.dead⟩
theorem Lp.dies (h : Lp w0 v M S D) (hp : PoolAt v' M' S' D') (hw : PWent v v' M M') (hd : S'.dead = true) : Lq w0 v' M' S' D' := by
  refine ⟨hp, h.low.trans (hw.1.below h.low.size h.lo), fun j hj => ?_, hd⟩
  rcases hw.2.1 j hj with h1 | h1
  · exact h.lo j h1
  · exact Nat.le_trans h.low.size h1
theorem PCheckpoint_dead {w : World} (h : PoolAt w M S D) (hd : S.dead = true) : Calls Tryz.prog 30 #[.pointer (some ⟨M.p, 0, none⟩)] w fun e w' => e = .returned (.int .i64 21) ∧ w' = w := by
  have HR := ready_pool h
  rw [hd] at HR
  have HR := Lib.hid HR
  clear h hd
  go_enter Tryz.func30, Tryz.ntmps30
  go_wp2_with fail
  refine HR.out.mono ?_
  rintro r w ⟨rfl, rfl⟩
  go_wp2
  go_ret
  exact ⟨rfl, rfl⟩
/-- Acts on a dead pool. -/
theorem did_lq (h : Lq w0 v M S D) (k pg ln : Int) (B : Nat) (hB : B < 256) :
    Calls Tryz.prog 17 #[.pointer (some ⟨M.p, 0, none⟩), .agg #[.int .i64 k, .int .i64 pg, .int .i64 ln, .int .u8 (B : Nat)]] v fun e v' => ∃ er, e = .returned (.int .i64 er) ∧ er = 21 ∧ Lq w0 v' M S D := by
  refine did_any k pg ln B v (.pointer (some ⟨M.p, 0, none⟩)) M.own h.pool.lt hB (fun er v' => er = 21 ∧ Lq w0 v' M S D) ?_ ?_ ?_ ?_ ?_ ?_ ?_
  · intro _ v1 hb
    refine (PTake_dead (h.grew hb).pool h.dead).mono ?_
    rintro e v' ⟨rfl, rfl⟩
    exact ⟨_, _, rfl, rfl, h.grew hb⟩
  · intro _ v1 hb
    refine (PGive_dead (h.grew hb).pool h.dead pg).mono ?_
    rintro e v' ⟨rfl, rfl⟩
    exact ⟨_, rfl, rfl, h.grew hb⟩
  · intro _ v1 hb
    have hs := SetRoot_any (h.grew hb).pool pg ln
    have e : S.setRoot pg ln = (21, S) := by unfold Pl.setRoot; rw [if_pos h.dead]
    rw [e] at hs
    refine hs.mono ?_
    rintro e v' ⟨rfl, hp, hw⟩
    refine ⟨_, rfl, rfl, hp, (h.grew hb).low.trans (hw.1.below (h.grew hb).low.size h.lo), h.lo, h.dead⟩
  · intro _ v1 hb
    refine (PCommit_dead (h.grew hb).pool h.dead).mono ?_
    rintro e v' ⟨rfl, rfl⟩
    exact ⟨_, rfl, rfl, h.grew hb⟩
  · intro _ v1 hb
    refine (PBack_dead (h.grew hb).pool h.dead).mono ?_
    rintro e v' ⟨rfl, rfl⟩
    exact ⟨_, rfl, rfl, h.grew hb⟩
  · intro _ v1 hb
    refine (PCheckpoint_dead (h.grew hb).pool h.dead).mono ?_
    rintro e v' ⟨rfl, rfl⟩
    exact ⟨_, rfl, rfl, h.grew hb⟩
  · intro _ v1 A c hb hr
    refine (PWrite_dead (h.grew hb).pool h.dead pg _).mono ?_
    rintro e v' ⟨rfl, rfl⟩
    exact ⟨_, rfl, _, rfl, ⟨rfl, h.grew hb⟩, Turn.refl _ _⟩
/-- A pool that lives still, on a disk about to go down; or a dead one. -/
def Went2 (w0 v' : World) (M : Mem) : Prop := ∃ M' S' D', Hand M M' ∧ D'.loose.length ≤ 1 ∧ (Lp w0 v' M' S' D' ∧ One D' ∧ S'.epoch ≤ 1 ∨ Lq w0 v' M' S' D')
theorem did_one (h : Lp w0 v M S D) (hc : One D) (hE : S.epoch ≤ 1) (k pg ln : Int) (B : Nat) (hB : B < 256) :
    Calls Tryz.prog 17 #[.pointer (some ⟨M.p, 0, none⟩), .agg #[.int .i64 k, .int .i64 pg, .int .i64 ln, .int .u8 (B : Nat)]] v fun e v' => ∃ er, e = .returned (.int .i64 er) ∧ Went2 w0 v' M := by
  obtain ⟨rows, hi⟩ := h.inv
  have hlo : D.loose.length ≤ 1 := by rw [hi.cl.lose]; simp
  have hl0 : D.loose.length = 0 := by rw [hi.cl.lose]; rfl
  obtain ⟨n, hlog, _⟩ := hi.log
  refine did_any k pg ln B v (.pointer (some ⟨M.p, 0, none⟩)) M.own h.pool.lt hB (fun _ v' => Went2 w0 v' M) ?_ ?_ ?_ ?_ ?_ ?_ ?_
  · intro _ v1 hb
    refine (Take_lp (h.grew hb)).mono ?_
    rintro e v' ⟨M', rfl, hh, hk, _⟩
    exact ⟨_, _, rfl, M', _, D, hh, hlo, .inl ⟨hk, hc, by rw [take_epoch]; exact hE⟩⟩
  · intro _ v1 hb
    refine (Give_lp (h.grew hb) pg).mono ?_
    rintro e v' ⟨M', rfl, hh, hk, _⟩
    exact ⟨_, rfl, M', _, D, hh, hlo, .inl ⟨hk, hc, by rw [give_epoch]; exact hE⟩⟩
  · intro _ v1 hb
    refine (SetRoot_lp (h.grew hb) pg ln).mono ?_
    rintro e v' ⟨rfl, hk, _⟩
    exact ⟨_, rfl, M, _, D, rfl, hlo, .inl ⟨hk, hc, by rw [setRoot_epoch]; exact hE⟩⟩
  · intro _ v1 hb
    have hg := h.grew hb
    have hcm := PCommit_any hg.pool hi.ok hi.dead hlog (by omega) (by omega) _ rfl
    have hml : (S.meta0 D).log = some (S.lg n) := by unfold Pl.meta0; split <;> exact hlog
    rcases hc.committed hml with h1 | ⟨h0, h1⟩ | ⟨h0, h1⟩
    · refine hcm.mono ?_
      rintro e v' ⟨rfl, M', hp, hw⟩
      exact ⟨_, rfl, M', _, _, hw.2.2, by omega, .inr (hg.dies hp hw h1.1)⟩
    · rw [h1] at hcm
      have hm : S.meta0 D = S := by
        unfold Pl.meta0 at h0 ⊢
        split
        · rename_i hmv
          rw [if_pos hmv] at h0
          exfalso
          have : 0 ∈ (S.pend.put 0 (widen D.rm S.now.metaL)).keys D.sectors := by
            unfold Pgs.keys Pgs.put
            have := hi.ok.s
            simp; omega
          rw [List.length_eq_zero_iff] at h0
          dsimp only at h0
          rw [h0] at this
          exact absurd this (by simp)
        · rfl
      rw [hm] at hcm
      refine hcm.mono ?_
      rintro e v' ⟨rfl, M', hp, hw⟩
      exact ⟨_, rfl, M', _, _, hw.2.2, hlo, .inl ⟨(hg.went hp hw ⟨rows, hi⟩).1, hc, hE⟩⟩
    · rw [h1] at hcm
      have hb : (S.meta0 D).backed = S.backed := by unfold Pl.meta0; split <;> rfl
      rw [hb] at hcm
      refine hcm.mono ?_
      rintro e v' ⟨rfl, M', hp, hw⟩
      exact ⟨_, rfl, M', _, _, hw.2.2, hlo, .inl ⟨(hg.went hp hw ⟨rows, hi.back⟩).1, hc, hE⟩⟩
  · intro _ v1 hb
    refine (Back_lp (h.grew hb)).mono ?_
    rintro e v' ⟨M', rfl, hh, hk, _⟩
    exact ⟨_, rfl, M', _, D, hh, hlo, .inl ⟨hk, hc, hE⟩⟩
  · intro _ v1 hb
    have hg := h.grew hb
    have hcp := PCheckpoint_any hg.pool hi.ok (by omega) (by omega) _ rfl
    have e1 : checkpoint S D = (21, S, D) ∨ checkpoint S D = point S D := by
      unfold checkpoint
      rw [if_neg (by rw [hi.dead]; simp)]
      split
      · exact .inl rfl
      · exact .inr rfl
    rcases e1 with e1 | e1
    · rw [e1] at hcp
      refine hcp.mono ?_
      rintro e v' ⟨rfl, M', hp, hw⟩
      exact ⟨_, rfl, M', _, _, hw.2.2, hlo, .inl ⟨(hg.went hp hw ⟨rows, hi⟩).1, hc, hE⟩⟩
    · rw [e1] at hcp
      refine hcp.mono ?_
      rintro e v' ⟨rfl, M', hp, hw⟩
      have := (hc.point S).2.2
      exact ⟨_, rfl, M', _, _, hw.2.2, by omega, .inr (hg.dies hp hw (hc.point S).2.1)⟩
  · intro _ v1 A c hb hr
    refine (Write_lp (h.grew hb) pg (by simp) hr).mono ?_
    rintro e v' ⟨rfl, hk, hs⟩
    exact ⟨_, rfl, _, rfl, ⟨M, _, D, rfl, hlo, .inl ⟨hk, hc, by rw [write_epoch]; exact hE⟩⟩, hs.turn⟩
end
end Go.Proofs.YtklppnknllbfnaaGreat
