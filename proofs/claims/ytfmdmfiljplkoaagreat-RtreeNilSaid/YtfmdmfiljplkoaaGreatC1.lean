/- A live pool of the call's own: the pool's calls. -/
import Derived.Test.YtfmdmfiljplkoaaGreatQA
namespace Go.Proofs.YtfmdmfiljplkoaaGreat
open Go.RowKit Go.Maps
set_option maxRecDepth 8000
variable {ι : Type} [Bar ι]
/-- The same pool and disk. -/
def Hand (M M' : Mem) : Prop := (M'.p, M'.b, M'.m) = (M.p, M.b, M.m)
theorem Hand.p {M M' : Mem} (h : Hand M M') : M'.p = M.p := congrArg (fun x : Nat × Nat × Nat => x.1) h
structure Lp (w0 v : World) (M : Mem) (S : Pl) (D : Dsk) : Prop where
  pool : PoolAt v M S D
  low : Below w0.heap.size w0 v
  lo : ∀ j ∈ M.own, w0.heap.size ≤ j
  inv : ∃ rows, InvR S D rows
section
variable {w0 v v' : World} {M M' : Mem} {S S' : Pl} {D D' : Dsk} {b m : Nat} {vl : Value} {E : Nat}
theorem PWent.step (h : PWent v v' M M') (hp : PoolAt v M S D) (hp' : PoolAt v' M' S' D') : Step v v' M.own M'.own := ⟨h.1, hp.nobytes, h.2.1, hp'.lt⟩
theorem Lp.went (h : Lp w0 v M S D) (hp : PoolAt v' M' S' D') (hw : PWent v v' M M') (hi : ∃ rows, InvR S' D' rows) : Lp w0 v' M' S' D' ∧ Step v v' M.own M'.own := by
  refine ⟨⟨hp, h.low.trans (hw.1.below h.low.size h.lo), fun j hj => ?_, hi⟩, hw.step h.pool hp⟩
  rcases hw.2.1 j hj with h1 | h1
  · exact h.lo j h1
  · exact Nat.le_trans h.low.size h1
theorem Lp.grew (h : Lp w0 v M S D) (k : Below v.heap.size v v') : Lp w0 v' M S D := ⟨h.pool.grew k, grow h.low k, h.lo, h.inv⟩
theorem step_below {T : List Nat} (hn : NoBytes v T) (hl : ∀ j ∈ T, j < v.heap.size) (k : Below v.heap.size v v') : Step v v' T T := ⟨Turn.of_below k T, hn, fun _ h => .inl h, fun j hj => Nat.lt_of_lt_of_le (hl j hj) k.size⟩
theorem Lp.grew_step (h : Lp w0 v M S D) (k : Below v.heap.size v v') : Lp w0 v' M S D ∧ Step v v' M.own M.own := ⟨h.grew k, step_below h.pool.nobytes h.pool.lt k⟩
theorem Format_lp (h : Dk w0 v b m vl D) (hcl : Cln D E) (hc : Calm D) (hE : E ≤ 900000000000) :
    Calls Tryz.prog 22 #[.pointer (some ⟨b, 0, none⟩)] v fun e v' => ∃ M, e = .returned (.tuple #[.pointer (some ⟨M.p, 0, none⟩), .int .i64 0]) ∧ Lp w0 v' M ((Pl.laid D 0).begun (E + 1)) (formed D) ∧ Step v v' (own b m vl) M.own ∧ M.b = b ∧ M.m = m := by
  have hh := hcl.heads (by omega)
  have hl := hcl.lat (by omega) D.slots (Nat.le_refl _)
  have hfi := Format_inv hcl hc hE
  have hfe := hcl.formEp (by omega : E ≤ 1000000000000)
  refine (Format_any h.disk hcl.s hcl.z hc (by rw [hcl.lose]; simp) (by omega) (by show latV D 2 D.slots ≤ _; omega)).mono ?_
  rintro e v' ⟨M, rfl, hp, hw⟩
  rw [hfe] at hp hfi
  refine ⟨M, rfl, ⟨hp, h.low.trans (hw.1.below h.low.size h.lo), fun j hj => ?_, _, hfi.1⟩, ⟨hw.1, h.disk.nobytes, hw.2.1, hp.lt⟩, hw.2.2.1, hw.2.2.2⟩
  rcases hw.2.1 j hj with h1 | h1
  · exact h.lo j h1
  · exact Nat.le_trans h.low.size h1
/-- Take: the page, the error, the pool behind it. -/
def Pl.take (S : Pl) (D : Dsk) : Int × Int × Pl :=
  if S.now.top ≠ 0 then ((S.now.top : Nat), 0, S.tookFree D) else if S.pages D ≤ S.now.next then (0, 6, S) else ((S.now.next : Nat), 0, S.tookNew D)
theorem top_zero {s : Sta} {P : Nat} (h : s.Ok P) : s.top = 0 ↔ s.free = [] := by
  constructor
  · intro h0
    cases hf : s.free with
    | nil => rfl
    | cons a r =>
      have hne : s.free ≠ [] := by rw [hf]; simp
      obtain ⟨hk, e⟩ := top_mem hne
      have := h.fb _ (List.getElem_mem hk)
      omega
  · intro h0
    unfold Sta.top
    rw [h0]; rfl
theorem Take_lp (h : Lp w0 v M S D) : Calls Tryz.prog 104 #[.pointer (some ⟨M.p, 0, none⟩)] v fun e v' => ∃ M', e = .returned (.tuple #[.int .i64 (S.take D).1, .int .i64 (S.take D).2.1]) ∧ Hand M M' ∧ Lp w0 v' M' (S.take D).2.2 D ∧ Step v v' M.own M'.own := by
  obtain ⟨rows, hi⟩ := h.inv
  have htz := top_zero hi.ok.now
  unfold Pl.take
  by_cases h0 : S.now.top = 0
  · rw [if_neg (by simp [h0])]
    by_cases h1 : S.pages D ≤ S.now.next
    · rw [if_pos h1]
      refine (PTake_full h.pool hi.ok hi.dead h0 h1).mono ?_
      rintro e v' ⟨rfl, hp, hw⟩
      exact ⟨M, rfl, rfl, h.went hp hw h.inv⟩
    · rw [if_neg h1]
      refine (PTake_new h.pool hi.ok hi.dead h0 (by omega)).mono ?_
      rintro e v' ⟨rfl, hp, hw⟩
      exact ⟨M, rfl, rfl, h.went hp hw ⟨rows, hi.takeNew (by omega)⟩⟩
  · rw [if_pos h0]
    have hne : S.now.free ≠ [] := fun e => h0 (htz.2 e)
    obtain ⟨hk, e⟩ := top_mem hne
    have hb := hi.ok.now.fb _ (List.getElem_mem hk)
    have hn2 := hi.ok.now.n2
    obtain ⟨A, c, hv, hcap, hcell⟩ := h.pool.free.form
    obtain ⟨g, rfl, _, _⟩ := hcell _ hk
    obtain ⟨k, hkE⟩ : ∃ k, S.now.free.length = k + 1 := ⟨S.now.free.length - 1, by omega⟩
    have hlen := hi.ok.free_le
    rw [hkE] at hv hcap hlen
    refine (PTake_free h.pool hi.ok hi.dead hv hcap hlen (by omega) (by omega)).mono ?_
    rintro e v' ⟨rfl, M', hp, hw⟩
    exact ⟨M', rfl, hw.2.2, h.went hp hw ⟨rows, hi.takeFree hne⟩⟩
theorem Write_lp (h : Lp w0 v M S D) (page : Int) {A : Option Addr} {n c : Nat} {l : List Nat} (hln : l.length = n) (hr : Rd v v.heap.size A l) :
    Calls Tryz.prog 152 #[.pointer (some ⟨M.p, 0, none⟩), .int .i64 page, .slice A n c] v fun e v' => e = .returned (.int .i64 (S.write D page l).1) ∧ Lp w0 v' M (S.write D page l).2 D ∧ Step v v' M.own M.own := by
  obtain ⟨rows, hi⟩ := h.inv
  unfold Pl.write
  rw [if_neg (by rw [hi.dead]; simp)]
  cases ht : S.now.taken page with
  | false =>
    rw [if_pos rfl]
    refine (PWrite_no h.pool hi.ok hi.dead page _ ht).mono ?_
    rintro e v' ⟨rfl, rfl⟩
    exact ⟨rfl, h.grew_step (Below.refl _ _)⟩
  | true =>
    rw [if_neg (by simp)]
    by_cases hb : D.rm < l.length
    · rw [if_pos hb]
      refine (PWrite_big h.pool hi.ok hi.dead page (by omega) ht).mono ?_
      rintro e v' ⟨rfl, rfl⟩
      exact ⟨rfl, h.grew_step (Below.refl _ _)⟩
    · rw [if_neg hb]
      obtain ⟨k, rfl, _⟩ := taken_bounds hi.ok ht
      refine (PWrite_ok h.pool hi.ok hi.dead k hln hr (by omega) ht).mono ?_
      rintro e v' ⟨rfl, hp, hw⟩
      exact ⟨rfl, h.went hp hw ⟨rows, hi.write ht (by omega) hr.1⟩⟩
theorem Back_lp (h : Lp w0 v M S D) : Calls Tryz.prog 83 #[.pointer (some ⟨M.p, 0, none⟩)] v fun e v' => ∃ M', e = .returned (.int .i64 0) ∧ Hand M M' ∧ Lp w0 v' M' S.backed D ∧ Step v v' M.own M'.own := by
  obtain ⟨rows, hi⟩ := h.inv
  have hl := hi.ok.was.len
  have hn := hi.ok.was.n2
  have hs := hi.ok.s2
  refine (PBack_ok h.pool (by unfold Pl.pages at *; omega) hi.dead).mono ?_
  rintro e v' ⟨rfl, M', hp, hw⟩
  exact ⟨M', rfl, hw.2.2, h.went hp hw ⟨rows, hi.back⟩⟩
/-- A commit that was told OK. -/
structure Done (S : Pl) (D : Dsk) (S' : Pl) (D' : Dsk) : Prop where
  now : S'.now = S.now
  was : S'.was = S.now
  mv : S'.moved = false
  pend : S'.pend = Pgs.none_
  ep : S'.epoch ≤ S.epoch + 1
  sl : S'.slots = S.slots
  fi : S'.first = S.first
  val : ∀ k, k ≠ 0 → k < S.pages D → S'.valC D' k = S.val D k
  sec : D'.sectors = D.sectors
  size : D'.size = D.size
/-- A checkpoint of a live pool. -/
structure Pointed (S : Pl) (D : Dsk) (S' : Pl) (D' : Dsk) : Prop where
  now : S'.now = S.now
  was : S'.was = S.was
  mv : S'.moved = S.moved
  pend : S'.pend = S.pend
  ep : S'.epoch ≤ S.epoch + 1
  sl : S'.slots = S.slots
  fi : S'.first = S.first
  valC : ∀ k, k < S.pages D → S'.valC D' k = S.valC D k
  val : ∀ k, k < S.pages D → S'.val D' k = S.val D k
  sec : D'.sectors = D.sectors
  size : D'.size = D.size
/-- A pool that was opened anew. -/
structure Opened (S : Pl) (D : Dsk) (S' : Pl) (D' : Dsk) : Prop where
  now : S'.now = S.was
  was : S'.was = S.was
  mv : S'.moved = false
  pend : S'.pend = Pgs.none_
  ep : S'.epoch ≤ S.epoch + 1
  sl : S'.slots = S.slots
  fi : S'.first = S.first
  valC : ∀ k, k < S.pages D → S'.valC D' k = S.valC D k
  sec : D'.sectors = D.sectors
  size : D'.size = D.size
theorem Room_lp (h : Lp w0 v M S D) : Calls Tryz.prog 124 #[.pointer (some ⟨M.p, 0, none⟩)] v fun e v' => e = .returned (.int .i64 (D.rm : Nat)) ∧ v' = v := by
  refine (Room_any' h.pool).mono ?_
  rintro e v' ⟨rfl, rfl⟩
  rw [lroom_rm]
  exact ⟨rfl, rfl⟩
theorem Read_no_lp (h : Lp w0 v M S D) (page : Int) (ht : S.now.taken page = false) : Calls Tryz.prog 53 #[.pointer (some ⟨M.p, 0, none⟩), .int .i64 page] v fun e v' => e = .returned (.tuple #[nilv, .int .i64 7]) ∧ v' = v := by
  obtain ⟨rows, hi⟩ := h.inv
  exact PRead_no h.pool hi.ok page ht
/-- What was seen may differ. -/
def SameBut (S S' : Pl) : Prop := ∃ f, S' = { S with seen := f }
theorem Read_lp (h : Lp w0 v M S D) (page : Nat) (ht : S.now.taken page = true) : Calls Tryz.prog 53 #[.pointer (some ⟨M.p, 0, none⟩), .int .i64 page] v fun e v' => ∃ u S', e = .returned (.tuple #[u, .int .i64 0]) ∧ Byt v' u (S.val D page) ∧ SameBut S S' ∧ Lp w0 v' M S' D ∧ Step v v' M.own M.own := by
  obtain ⟨rows, hi⟩ := h.inv
  obtain ⟨k, e, _, _, _, hk, _⟩ := taken_bounds hi.ok ht
  obtain rfl : page = k := by omega
  obtain ⟨hl, f, ef, hf⟩ := hi.loaded hk
  refine (PRead_any h.pool hi.ok (by rw [hi.cl.lose]; simp) hi.cl.up page ht).mono ?_
  rintro e v' ⟨u, rfl, u2, rfl, hb, hp, hw⟩
  rw [hi.page] at hb
  have hk2 := h.went hp hw ⟨rows, hl⟩
  exact ⟨u2, _, rfl, hb, ⟨f, ef⟩, hk2.1, hk2.2⟩
end
end Go.Proofs.YtfmdmfiljplkoaaGreat
