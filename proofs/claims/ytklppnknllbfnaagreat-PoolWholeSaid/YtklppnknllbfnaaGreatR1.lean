/- Plain laws: the document's pool; it goes as the pool goes. No program in sight. -/
import Derived.Test.YtklppnknllbfnaaGreatC1
namespace Go.Proofs.YtklppnknllbfnaaGreat
open Go.RowKit Go.Maps
/-- The document's state: of each page its load (a dash: it is not taken), what was given back, the roots. -/
structure Rs where
 loads : List (List Nat)
 free : List Nat
 roots : R8
structure Rp where
 now : Rs
 was : Rs
 moved : Bool
 ch : List Nat
 pages : Nat
 slot : Nat
 room : Nat
def dash : List Nat := [45]
def Rs.at_ (s : Rs) (k : Nat) : List Nat := s.loads[k]?.getD dash
def Rs.has (s : Rs) (page : Int) : Bool := decide (0 < page) && decide (page < s.loads.length) && decide (s.at_ page.toNat ≠ dash)
def Rs.count (s : Rs) : Nat := s.loads.countP fun l => decide (l ≠ dash)
def Rp.mark (R : Rp) (k : Nat) : Rp := { R with ch := if k ∈ R.ch then R.ch else R.ch ++ [k] }
def Rp.laid (R : Rp) (k : Nat) (l : List Nat) : Rp := { R with now := { R.now with loads := R.now.loads.set k l } }
def Rp.write (R : Rp) (page : Int) (l : List Nat) : Int × Rp :=
 if R.now.has page = false then (7, R) else if R.room < l.length then (3, R) else (0, (R.laid page.toNat (widen R.room l)).mark page.toNat)
def Rs.top (s : Rs) : Nat := s.free.getLast?.getD 0
def Rp.tookFree (R : Rp) : Rp := ({ R with now := { R.now with loads := R.now.loads.set R.now.top (widen R.room []), free := R.now.free.dropLast }, moved := true } : Rp).mark R.now.top
def Rp.tookNew (R : Rp) : Rp := ({ R with now := { R.now with loads := R.now.loads ++ [widen R.room []] }, moved := true } : Rp).mark R.now.loads.length
def Rp.take (R : Rp) : Int × Int × Rp :=
 if R.now.free ≠ [] then ((R.now.top : Nat), 0, R.tookFree) else if R.pages ≤ R.now.loads.length then (0, 6, R) else ((R.now.loads.length : Nat), 0, R.tookNew)
def Rp.gave (R : Rp) (k : Nat) : Rp := ({ R with now := { R.now with loads := R.now.loads.set k dash, free := R.now.free ++ [k] }, moved := true } : Rp).mark k
def Rp.give (R : Rp) (page : Int) : Int × Rp := if R.now.has page = false then (7, R) else (0, R.gave page.toNat)
def Rp.setRoot (R : Rp) (k n : Int) : Int × Rp :=
 if k < 0 ∨ 8 ≤ k ∨ n < 0 ∨ 2147483647 < n then (2, R) else (0, { R with now := { R.now with roots := R.now.roots.set k.toNat n }, moved := true })
def Rp.back (R : Rp) : Rp := { R with now := R.was, moved := false, ch := [] }
def Rp.nCh (R : Rp) : Nat := R.ch.length + if R.moved then 1 else 0
def Rp.commit (R : Rp) : Int × Rp := if R.slot < R.nCh then (6, R.back) else (0, { R with was := R.now, moved := false, ch := [] })
structure RsLike (s : Sta) (val : Nat → List Nat) (rs : Rs) : Prop where
 len : rs.loads.length = s.next
 load : ∀ k, k < s.next → rs.loads[k]? = some (if s.taken (k : Nat) = true then val k else dash)
 free : rs.free = s.free
 roots : rs.roots = s.roots
structure Like (S : Pl) (D : Dsk) (R : Rp) : Prop where
 now : RsLike S.now (S.val D) R.now
 was : RsLike S.was (S.valC D) R.was
 moved : R.moved = S.moved
 chn : R.ch.Nodup
 ch : ∀ k, k ∈ R.ch ↔ k ≠ 0 ∧ ∃ l, S.pend k = some l
 pages : R.pages = S.pages D
 slot : R.slot = S.slots
 room : R.room = D.rm
section
variable {s s' : Sta} {val val' : Nat → List Nat} {rs : Rs} {S S' : Pl} {D D' : Dsk} {R : Rp} {rows : List (List (Int × List Nat))}
theorem taken_iff (s : Sta) (k : Nat) : s.taken (k : Nat) = true ↔ 0 < k ∧ k < s.next ∧ k ∉ s.free := by
 unfold Sta.taken
 simp
 constructor
 ·rintro ⟨⟨h1, h2⟩, h3⟩
  exact ⟨h1, h2, fun h => h3 k h rfl⟩
 ·rintro ⟨h1, h2, h3⟩
  exact ⟨⟨h1, h2⟩, fun x hx e => h3 (by rw [← Int.ofNat_inj.1 e]; exact hx)⟩
theorem taken_int {page : Int} (h : s.taken page = true) : ∃ k : Nat, page = k ∧ 0 < k ∧ k < s.next ∧ k ∉ s.free := by
 have h0 := h
 unfold Sta.taken at h
 simp at h
 obtain ⟨k, rfl⟩ := Int.eq_ofNat_of_zero_le (by omega : 0 ≤ page)
 exact ⟨k, rfl, (taken_iff s k).1 h0⟩
theorem RsLike.has_ (h : RsLike s val rs) (hv : ∀ k, s.taken (k : Nat) = true → val k ≠ dash) (page : Int) : rs.has page = s.taken page := by
 by_cases hp : 0 < page ∧ page < s.next
 ·obtain ⟨k, rfl⟩ := Int.eq_ofNat_of_zero_le (by omega : 0 ≤ page)
  have hk : k < s.next := by omega
  have hl := h.load k hk
  unfold Rs.has Rs.at_
  rw [h.len, decide_eq_true hp.1, decide_eq_true hp.2, Int.toNat_natCast, hl, Option.getD_some]
  cases ht : s.taken (k : Nat) with
  | true => simp [hv k ht]
  | false => simp
 ·have h1 : rs.has page = false := by
   unfold Rs.has
   rw [h.len]
   by_cases h1 : 0 < page
   ·have : ¬ page < s.next := fun e => hp ⟨h1, e⟩
    simp [this]
   ·simp [h1]
  rw [h1]
  cases ht : s.taken page with
  | false => rfl
  | true =>
   obtain ⟨k, rfl, h2, h3, _⟩ := taken_int ht
   exact absurd ⟨by omega, by omega⟩ hp
theorem InvR.val_ne (h : InvR S D rows) (k : Nat) : S.val D k ≠ dash := by
 have h1 := h.ok.page_len h.cl.ok k
 rw [h.page] at h1
 have h2 := rm_size h.cl.ok h.cl.z
 have h3 := h.cl.z
 intro e
 rw [e] at h1
 simp [dash] at h1
 omega
theorem Like.has (h : Like S D R) (hi : InvR S D rows) (page : Int) : R.now.has page = S.now.taken page := h.now.has_ (fun k _ => hi.val_ne k) page
theorem countP_not {α : Type} (p : α → Bool) : ∀ l : List α, l.countP p + l.countP (fun a => !p a) = l.length
 | [] => rfl
 | a :: l => by
  have := countP_not p l
  cases h : p a <;> simp [h] <;> omega
theorem RsLike.count_ (h : RsLike s val rs) (hv : ∀ k, s.taken (k : Nat) = true → val k ≠ dash) {P : Nat} (ok : s.Ok P) : (rs.count : Int) = s.next - 1 - s.free.length := by
 have e1 : rs.loads = (List.range s.next).map fun k : Nat => if s.taken (k : Nat) = true then val k else dash := by
  apply List.ext_getElem?
  intro k
  rw [List.getElem?_map]
  by_cases hk : k < s.next
  ·rw [h.load k hk, List.getElem?_range hk]; rfl
  ·rw [List.getElem?_eq_none (by rw [h.len]; omega), List.getElem?_eq_none (by simp; omega)]; rfl
 have e2 : rs.count = (List.range s.next).countP fun k : Nat => s.taken (k : Nat) := by
  unfold Rs.count
  rw [e1, List.countP_map]
  congr 1
  funext k
  show decide ((if s.taken (k : Nat) = true then val k else dash) ≠ dash) = _
  cases ht : s.taken (k : Nat) with
  | true => simp [hv k ht]
  | false => simp
 have e3 := countP_not (fun k : Nat => s.taken (k : Nat)) (List.range s.next)
 have e4 : (List.range s.next).countP (fun k : Nat => !s.taken (k : Nat)) = s.free.length + 1 := by
  rw [List.countP_eq_length_filter]
  have hp : ((List.range s.next).filter fun k : Nat => !s.taken (k : Nat)).Perm (0 :: s.free) := by
   refine (List.perm_ext_iff_of_nodup (List.nodup_range.filter _) (List.nodup_cons.2 ⟨fun h0 => by have := ok.fb 0 h0; omega, ok.nd⟩)).2 fun k => ?_
   rw [List.mem_filter, List.mem_range]
   constructor
   ·rintro ⟨h1, h2⟩
    by_cases h0 : k = 0
    ·simp [h0]
    ·by_cases hf : k ∈ s.free
     ·simp [hf]
     ·have := (taken_iff s k).2 ⟨by omega, h1, hf⟩
      rw [this] at h2
      cases h2
   ·intro h1
    rcases List.mem_cons.1 h1 with rfl | h1
    ·refine ⟨ok.n1, ?_⟩
     cases ht : s.taken ((0 : Nat) : Int) with
     | false => rfl
     | true => have := ((taken_iff s 0).1 ht).1; omega
    ·have hb := ok.fb k h1
     refine ⟨hb.2, ?_⟩
     cases ht : s.taken (k : Nat) with
     | false => rfl
     | true => exact absurd h1 ((taken_iff s k).1 ht).2.2
  have := hp.length_eq
  simpa using this
 rw [List.length_range] at e3
 have := ok.n1
 omega
theorem mark_mem (R : Rp) (k x : Nat) : x ∈ (R.mark k).ch ↔ x = k ∨ x ∈ R.ch := by
 unfold Rp.mark
 dsimp only
 split
 ·rename_i h
  constructor
  ·exact .inr
  ·rintro (rfl | h')
   ·exact h
   ·exact h'
 ·rw [List.mem_append, List.mem_singleton]
  exact Or.comm
theorem mark_nodup {k : Nat} (h : R.ch.Nodup) : (R.mark k).ch.Nodup := by
 unfold Rp.mark
 dsimp only
 split
 ·exact h
 ·rename_i hk
  refine List.nodup_append.2 ⟨h, by simp, fun a ha b hb e => ?_⟩
  simp at hb
  subst hb
  exact hk (e ▸ ha)
theorem put_mem {f : Pgs} {k : Nat} {l : List Nat} {c : List Nat} (hk : k ≠ 0) (h : ∀ x, x ∈ c ↔ x ≠ 0 ∧ ∃ l, f x = some l) (x : Nat) : (x = k ∨ x ∈ c) ↔ x ≠ 0 ∧ ∃ u, (f.put k l) x = some u := by
 unfold Pgs.put
 by_cases hx : x = k
 ·subst hx
  simp [hk]
 ·simp only [hx, false_or, if_false]
  exact h x
theorem val_puts (S : Pl) (D : Dsk) (k : Nat) (l : List Nat) (s : Sta) (m : Bool) (f : Pgs) (x : Nat) : ({ S with now := s, pend := S.pend.put k l, seen := f, moved := m } : Pl).val D x = if x = k then l else S.val D x := by
 unfold Pl.val Pgs.put
 dsimp only
 by_cases h : x = k
 ·rw [if_pos h, if_pos h]; rfl
 ·rw [if_neg h, if_neg h]
theorem set_load {n k : Nat} {ls : List (List Nat)} {g : Nat → List Nat} (hl : ls.length = n) (h : ∀ x, x < n → ls[x]? = some (g x)) (l : List Nat) : ∀ x, x < n → (ls.set k l)[x]? = some (if x = k then l else g x) := by
 intro x hx
 rw [List.getElem?_set]
 by_cases e : k = x
 ·subst e
  rw [if_pos rfl, if_pos (by omega), if_pos rfl]
 ·rw [if_neg e, h x hx, if_neg (fun e' => e e'.symm)]
theorem Like.write (h : Like S D R) (hi : InvR S D rows) (page : Int) (l : List Nat) : (R.write page l).1 = (S.write D page l).1 ∧ Like (S.write D page l).2 D (R.write page l).2 := by
 unfold Rp.write Pl.write
 rw [h.has hi, h.room, if_neg (show ¬ S.dead = true by rw [hi.dead]; simp)]
 cases ht : S.now.taken page with
 | false => exact ⟨rfl, h⟩
 | true =>
  rw [if_neg (show ¬ (true = false) by simp), if_neg (show ¬ (true = false) by simp)]
  by_cases hb : D.rm < l.length
  ·rw [if_pos hb, if_pos hb]; exact ⟨rfl, h⟩
  ·rw [if_neg hb, if_neg hb]
   obtain ⟨k, rfl, h1, h2, h3⟩ := taken_int ht
   rw [Int.toNat_natCast]
   refine ⟨rfl, ⟨?_, ?_, h.now.free, h.now.roots⟩, h.was, h.moved, mark_nodup h.chn, fun x => ?_, h.pages, h.slot, h.room⟩
   ·show (R.now.loads.set _ _).length = _
    rw [List.length_set]
    exact h.now.len
   ·intro x hx
    have := set_load (k := k) h.now.len h.now.load (widen D.rm l) x hx
    show (R.now.loads.set k (widen D.rm l))[x]? = _
    rw [this]
    congr 1
    have e : ({ S with pend := S.pend.put k (widen D.rm l) } : Pl).val D x = if x = k then widen D.rm l else S.val D x := val_puts S D k _ S.now S.moved S.seen x
    show _ = if S.now.taken (x : Nat) = true then _ else _
    rw [e]
    by_cases hx : x = k
    ·subst hx
     rw [if_pos rfl, if_pos ht, if_pos rfl]
    ·rw [if_neg hx, if_neg hx]
   ·show x ∈ (Rp.mark _ k).ch ↔ _
    rw [mark_mem]
    exact put_mem (by omega) h.ch x
theorem Like.give (h : Like S D R) (hi : InvR S D rows) (page : Int) : (R.give page).1 = (S.give D page).1 ∧ Like (S.give D page).2 D (R.give page).2 := by
 unfold Rp.give Pl.give
 rw [h.has hi, if_neg (show ¬ S.dead = true by rw [hi.dead]; simp)]
 cases ht : S.now.taken page with
 | false => exact ⟨rfl, h⟩
 | true =>
  rw [if_neg (by simp), if_neg (by simp)]
  obtain ⟨k, rfl, h1, h2, h3⟩ := taken_int ht
  rw [Int.toNat_natCast]
  refine ⟨rfl, ⟨?_, ?_, ?_, h.now.roots⟩, h.was, rfl, mark_nodup h.chn, fun x => ?_, h.pages, h.slot, h.room⟩
  ·show (R.now.loads.set _ _).length = _
   rw [List.length_set]
   exact h.now.len
  ·intro x hx
   have := set_load (k := k) h.now.len h.now.load dash x hx
   show (R.now.loads.set k dash)[x]? = _
   rw [this]
   congr 1
   have e : (S.gave D k).val D x = if x = k then widen D.rm (lebZ (S.now.top : Nat) 4) else S.val D x := val_puts S D k _ _ _ _ x
   rw [e]
   have ex : (S.gave D k).now.taken (x : Nat) = true ↔ 0 < x ∧ x < S.now.next ∧ x ∉ S.now.free ++ [k] := taken_iff _ x
   by_cases hx : x = k
   ·subst hx
    rw [if_pos rfl, if_neg (by rw [ex]; simp)]
   ·rw [if_neg hx, if_neg hx]
    have e2 : (S.gave D k).now.taken (x : Nat) = S.now.taken (x : Nat) := by
     rw [Bool.eq_iff_iff, ex, taken_iff]
     simp [hx]
    rw [e2]
  ·show R.now.free ++ [k] = S.now.free ++ [k]
   rw [h.now.free]
  ·show x ∈ (Rp.mark _ k).ch ↔ _
   rw [mark_mem]
   exact put_mem (by omega) h.ch x
theorem Like.take (h : Like S D R) (hi : InvR S D rows) : R.take.1 = (S.take D).1 ∧ R.take.2.1 = (S.take D).2.1 ∧ Like (S.take D).2.2 D R.take.2.2 := by
 have htz := top_zero hi.ok.now
 have htop : R.now.top = S.now.top := by unfold Rs.top Sta.top; rw [h.now.free]
 unfold Rp.take Pl.take
 by_cases h0 : S.now.free = []
 ·rw [if_neg (show ¬ R.now.free ≠ [] by rw [h.now.free]; simp [h0]), if_neg (show ¬ S.now.top ≠ 0 by simp [htz.2 h0]), h.pages, h.now.len]
  by_cases h1 : S.pages D ≤ S.now.next
  ·rw [if_pos h1, if_pos h1]; exact ⟨rfl, rfl, h⟩
  ·rw [if_neg h1, if_neg h1]
   refine ⟨rfl, rfl, ⟨?_, ?_, h.now.free, h.now.roots⟩, h.was, rfl, mark_nodup h.chn, fun x => ?_, h.pages, h.slot, h.room⟩
   ·show (R.now.loads ++ [_]).length = S.now.next + 1
    rw [List.length_append, h.now.len]; rfl
   ·intro x hx
    have hx : x < S.now.next + 1 := hx
    show (R.now.loads ++ [widen R.room []])[x]? = _
    rw [h.room]
    have e : (S.tookNew D).val D x = if x = S.now.next then widen D.rm [] else S.val D x := val_puts S D _ _ _ _ _ x
    rw [e]
    have ex : (S.tookNew D).now.taken (x : Nat) = true ↔ 0 < x ∧ x < S.now.next + 1 ∧ x ∉ S.now.free := taken_iff _ x
    have := hi.ok.now.n1
    by_cases hx2 : x = S.now.next
    ·subst hx2
     rw [List.getElem?_append_right (by rw [h.now.len]; omega), h.now.len, Nat.sub_self, if_pos rfl, if_pos (ex.2 ⟨by omega, by omega, by rw [h0]; simp⟩)]
     rfl
    ·rw [List.getElem?_append_left (by rw [h.now.len]; omega), h.now.load x (by omega), if_neg hx2]
     have e2 : (S.tookNew D).now.taken (x : Nat) = S.now.taken (x : Nat) := by
      rw [Bool.eq_iff_iff, ex, taken_iff]
      constructor
      ·rintro ⟨a, b, c⟩; exact ⟨a, by omega, c⟩
      ·rintro ⟨a, b, c⟩; exact ⟨a, by omega, c⟩
     rw [e2]
   ·show x ∈ (Rp.mark _ R.now.loads.length).ch ↔ _
    rw [mark_mem, h.now.len]
    have := hi.ok.now.n1
    exact put_mem (by omega) h.ch x
 ·rw [if_pos (show R.now.free ≠ [] by rw [h.now.free]; exact h0), if_pos (show S.now.top ≠ 0 from fun e => h0 (htz.1 e)), htop]
  obtain ⟨hk, e⟩ := top_mem h0
  have hm : S.now.top ∈ S.now.free := by rw [e]; exact List.getElem_mem hk
  have hb := hi.ok.now.fb _ hm
  have hdl : S.now.free = S.now.free.dropLast ++ [S.now.top] := by
   have h1 := List.dropLast_concat_getLast h0
   have h2 : S.now.free.getLast h0 = S.now.top := by unfold Sta.top; rw [List.getLast?_eq_some_getLast h0]; rfl
   rw [h2] at h1
   exact h1.symm
  have hnd := hi.ok.now.nd
  have hmem : ∀ x, x ∈ S.now.free.dropLast ↔ x ∈ S.now.free ∧ x ≠ S.now.top := by
   intro x
   have hnd' := hnd
   rw [hdl] at hnd'
   obtain ⟨_, _, n3⟩ := List.nodup_append.1 hnd'
   constructor
   ·intro hx
    refine ⟨List.dropLast_subset _ hx, fun e => n3 x hx x (by simp [e]) rfl⟩
   ·rintro ⟨h1, h2⟩
    rw [hdl] at h1
    rcases List.mem_append.1 h1 with h1 | h1
    ·exact h1
    ·exact absurd (by simpa using h1) h2
  refine ⟨rfl, rfl, ⟨?_, ?_, ?_, h.now.roots⟩, h.was, rfl, mark_nodup h.chn, fun x => ?_, h.pages, h.slot, h.room⟩
  ·show (R.now.loads.set _ _).length = _
   rw [List.length_set]
   exact h.now.len
  ·intro x hx
   have := set_load (k := S.now.top) h.now.len h.now.load (widen D.rm []) x hx
   show (R.now.loads.set R.now.top (widen R.room []))[x]? = _
   rw [htop, h.room, this]
   congr 1
   have e : (S.tookFree D).val D x = if x = S.now.top then widen D.rm [] else S.val D x := val_puts S D _ _ _ _ _ x
   rw [e]
   have ex : (S.tookFree D).now.taken (x : Nat) = true ↔ 0 < x ∧ x < S.now.next ∧ x ∉ S.now.free.dropLast := taken_iff _ x
   by_cases hx : x = S.now.top
   ·rw [if_pos hx, if_pos (ex.2 ⟨by omega, by omega, by rw [hmem]; simp [hx]⟩), if_pos hx]
   ·rw [if_neg hx, if_neg hx]
    have e2 : (S.tookFree D).now.taken (x : Nat) = S.now.taken (x : Nat) := by
     rw [Bool.eq_iff_iff, ex, taken_iff, hmem]
     simp [hx]
    rw [e2]
  ·show R.now.free.dropLast = S.now.free.dropLast
   rw [h.now.free]
  ·show x ∈ (Rp.mark _ R.now.top).ch ↔ _
   rw [mark_mem, htop]
   exact put_mem (by omega) h.ch x
theorem Like.setRoot (h : Like S D R) (hi : InvR S D rows) (k n : Int) : (R.setRoot k n).1 = (S.setRoot k n).1 ∧ Like (S.setRoot k n).2 D (R.setRoot k n).2 := by
 unfold Rp.setRoot Pl.setRoot
 rw [if_neg (show ¬ S.dead = true by rw [hi.dead]; simp)]
 by_cases hk : k < 0 ∨ 8 ≤ k ∨ n < 0 ∨ 2147483647 < n
 ·rw [if_pos hk, if_pos hk]; exact ⟨rfl, h⟩
 ·rw [if_neg hk, if_neg hk]
  exact ⟨rfl, ⟨h.now.len, h.now.load, h.now.free, by show R.now.roots.set _ _ = S.now.roots.set _ _; rw [h.now.roots]⟩, h.was, rfl, h.chn, h.ch, h.pages, h.slot, h.room⟩
theorem Like.back (h : Like S D R) : Like S.backed D R.back :=
 ⟨⟨h.was.len, h.was.load, h.was.free, h.was.roots⟩, h.was, rfl, List.nodup_nil, fun k => by simp [Rp.back, Pl.backed, Pgs.none_], h.pages, h.slot, h.room⟩
theorem Like.nPend (h : Like S D R) (hi : InvR S D rows) : R.nCh = S.nPend D := by
 have hks : (S.pend.keys D.sectors).Perm R.ch := by
  refine (List.perm_ext_iff_of_nodup (List.nodup_range.filter _) h.chn).2 fun k => ?_
  show k ∈ S.pend.keys D.sectors ↔ _
  rw [h.ch, mem_keys]
  constructor
  ·rintro ⟨_, l, hl⟩
   refine ⟨fun e => ?_, l, hl⟩
   rw [e, hi.pz] at hl
   cases hl
  ·rintro ⟨_, l, hl⟩
   have := (hi.ok.pend k l hl).1
   unfold Pl.pages at this
   exact ⟨by omega, l, hl⟩
 have hlen := hks.length_eq
 unfold Rp.nCh Pl.nPend Pl.meta0
 rw [h.moved]
 cases hm : S.moved with
 | false =>
  rw [if_neg (by simp), if_neg (by simp)]
  omega
 | true =>
  rw [if_pos rfl, if_pos rfl]
  have hp : ((S.pend.put 0 (widen D.rm S.now.metaL)).keys D.sectors).Perm (0 :: S.pend.keys D.sectors) := by
   refine (List.perm_ext_iff_of_nodup (List.nodup_range.filter _) (List.nodup_cons.2 ⟨fun h0 => ?_, List.nodup_range.filter _⟩)).2 fun k => ?_
   ·obtain ⟨_, l, hl⟩ := mem_keys.1 h0
    rw [hi.pz] at hl
    cases hl
   ·show k ∈ (S.pend.put 0 (widen D.rm S.now.metaL)).keys D.sectors ↔ k ∈ 0 :: S.pend.keys D.sectors
    rw [mem_keys, List.mem_cons, mem_keys]
    unfold Pgs.put
    by_cases hk : k = 0
    ·subst hk
     have := hi.ok.s
     simp; omega
    ·simp [hk]
  have := hp.length_eq
  simp only [List.length_cons] at this
  show _ = ((S.pend.put 0 (widen D.rm S.now.metaL)).keys D.sectors).length
  omega
theorem RsLike.other (h : RsLike s val rs) (hs : s' = s) (hv : ∀ k, k ≠ 0 → k < s.next → val' k = val k) : RsLike s' val' rs := by
 subst hs
 refine ⟨h.len, fun k hk => ?_, h.free, h.roots⟩
 rw [h.load k hk]
 congr 1
 by_cases ht : s'.taken (k : Nat) = true
 ·rw [if_pos ht, if_pos ht, hv k (by have := ((taken_iff s' k).1 ht).1; omega) hk]
 ·rw [if_neg ht, if_neg ht]
theorem val_none (h : S.pend = Pgs.none_) (k : Nat) : S.val D k = S.valC D k := by
 unfold Pl.val Pl.valC
 rw [h]
 rfl
theorem pages_same (h1 : S'.first = S.first) (h2 : D'.sectors = D.sectors) : S'.pages D' = S.pages D := by unfold Pl.pages; rw [h1, h2]
theorem Like.committed (h : Like S D R) (hi : InvR S D rows) (hd : Done S D S' D') (hn : S.nPend D ≤ S.slots) : R.commit.1 = 0 ∧ Like S' D' R.commit.2 := by
 unfold Rp.commit
 rw [if_neg (by rw [h.nPend hi, h.slot]; omega)]
 have hb := hi.ok.now.n2
 refine ⟨rfl, h.now.other hd.now (fun k h0 hk => ?_), h.now.other hd.was (fun k h0 hk => hd.val k h0 (by omega)), hd.mv.symm, List.nodup_nil, fun k => by rw [hd.pend]; simp [Pgs.none_], h.pages.trans (pages_same hd.fi hd.sec).symm, h.slot.trans hd.sl.symm, h.room.trans (rm_same hd.size).symm⟩
 rw [val_none hd.pend]
 exact hd.val k h0 (by omega)
theorem Like.full (h : Like S D R) (hi : InvR S D rows) (hn : S.slots < S.nPend D) : R.commit.1 = 6 ∧ Like S.backed D R.commit.2 := by
 unfold Rp.commit
 rw [if_pos (by rw [h.nPend hi, h.slot]; exact hn)]
 exact ⟨rfl, h.back⟩
theorem Like.pointed (h : Like S D R) (hi : InvR S D rows) (hd : Pointed S D S' D') : Like S' D' R := by
 have hb := hi.ok.now.n2
 have hw := hi.ok.was.n2
 exact ⟨h.now.other hd.now (fun k h0 hk => hd.val k (by omega)), h.was.other hd.was (fun k h0 hk => hd.valC k (by omega)), h.moved.trans hd.mv.symm, h.chn, fun k => by rw [hd.pend]; exact h.ch k, h.pages.trans (pages_same hd.fi hd.sec).symm, h.slot.trans hd.sl.symm, h.room.trans (rm_same hd.size).symm⟩
/-- What was seen does not matter. -/
theorem Like.seen (h : Like S D R) (hs : SameBut S S') : Like S' D R := by
 obtain ⟨f, rfl⟩ := hs
 exact ⟨⟨h.now.len, h.now.load, h.now.free, h.now.roots⟩, ⟨h.was.len, h.was.load, h.was.free, h.was.roots⟩, h.moved, h.chn, h.ch, h.pages, h.slot, h.room⟩
def Rp.new (s z : Nat) : Rp := ⟨⟨[dash], [], R8.zero⟩, ⟨[dash], [], R8.zero⟩, false, [], s - 2 - (s - 2) / 4, (s - 2) / 4, z - 45⟩
theorem Like.new {D : Dsk} (ok : D.Ok) (hz : 512 ≤ D.size) (E : Nat) (val0 : Pl) (h0 : val0 = (Pl.laid D 0).begun E) : Like val0 D (Rp.new D.sectors D.size) := by
 subst h0
 have hs := rm_size ok hz
 have hl : ∀ (v : Nat → List Nat), RsLike ⟨1, [], R8.zero⟩ v ⟨[dash], [], R8.zero⟩ := fun v => by
  refine ⟨rfl, fun k hk => ?_, rfl, rfl⟩
  have hk : k < 1 := hk
  obtain rfl : k = 0 := by omega
  rw [if_neg (by rw [taken_iff]; simp)]
  rfl
 exact ⟨hl _, hl _, rfl, List.nodup_nil, fun k => by simp [Rp.new, Pl.laid, Pl.begun, Pgs.none_], by unfold Rp.new Pl.pages Pl.laid Pl.begun; dsimp only; omega, rfl, by unfold Rp.new; dsimp only; omega⟩
end
end Go.Proofs.YtklppnknllbfnaaGreat
