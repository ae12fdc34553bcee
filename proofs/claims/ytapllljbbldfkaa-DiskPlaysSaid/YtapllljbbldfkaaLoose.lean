/- A row of loose writes in memory; 'append' leaves the old view of the row standing. The whole disk. -/
import Derived.Test.YtapllljbbldfkaaDisk
namespace Go.Proofs.Ytapllljbbldfkaa
open Go.RowKit Go.Maps
variable {ι : Type} [Bar ι]

/-- 'append' onto a row of the call's own: and what the old slice value showed it shows still. -/
theorem run_append_keeps {P : Program} (w : World) (base : Nat) (t ty e : TypeId) (i : TypeInfo) (z : Value) (size bytes : Nat) (ht : P.underlying t = some (.slice e)) (hi : P.info? e = some i) (hz : i.zero = some z)
    (hsize : i.size = size) (hby : i.bytes = bytes) (hzs : z.cells.size = size) (hsz : 0 < size)
    (v : Value) (n : Nat) (xs : List Value) (hown : w.ownsRow base e size v n xs)
    (a : Addr) (m c : Nat) (news : List Value) (hl : news.length = m * size) (hnews : ∀ j u, news[j]? = some u → w.cell? (a.add j) = some u) (h1 : ∀ u ∈ news, u.oneCell' = true)
    (h63 : n + m ≤ maxLen) (hbytes : (n + m) * bytes ≤ 140737488355328) (hbase : base ≤ w.heap.size) :
    ∃ v' w', (Builtin.append_ #[t, t] ty #[v, .slice (some a) m c]).run P w = .ok v' w' ∧ w'.ownsRow base e size v' (n + m) (xs ++ news) ∧ w.grownBy w' v.ownBlock ∧
      (v'.ownBlock = v.ownBlock ∨ v'.ownBlock = some w.heap.size) ∧ w'.ownsRow base e size v n xs := by
  obtain ⟨v', w', hrun, h2, h3, _, h5⟩ := run_append_own_at (P := P) w base t ty e i z size bytes ht hi hz hsize hby hzs hsz v n xs hown a m c news hl hnews h1 h63 hbytes hbase
  refine ⟨v', w', hrun, h2, h3, h5, ?_⟩
  have hown' := hown
  subst hsize
  subst hby
  rcases hown.2 with ⟨rfl, rfl⟩ | ⟨g, cap, cur, rfl, hbg, hg, hnc, hcm, hcs, htake⟩
  · have : xs = [] := List.eq_nil_of_length_eq_zero (by simpa using hown.1)
    subst this
    exact World.ownsRow_nil _ _ _ _
  · by_cases hroom : n + m ≤ cap
    · have hfit : n * i.size + news.length ≤ cur.size := by rw [hl, hcs, ← Nat.add_mul]; exact Nat.mul_le_mul_right _ hroom
      have hr := run_append_room (P := P) w t ty e i ht hi g n cap cur hg a m c news hl hnews h1 hroom hfit
      rw [hrun] at hr
      injection hr with e1 e2
      subst e2
      refine ⟨hown.1, .inr ⟨g, cap, _, rfl, hbg, setRow_heap w g cur _ e _ hg, hnc, hcm, ?_, ?_⟩⟩
      · simp only [List.size_toArray, List.length_append, List.length_take, List.length_drop, Array.length_toList]
        omega
      · have hxl := hown.1
        rw [htake, ← hxl, List.append_assoc]
        exact List.take_left
    · have holds : ∀ j u, xs[j]? = some u → w.cell? ((⟨g, 0, none⟩ : Addr).add j) = some u := hown.cells (g := g) rfl
      have hr := run_append_grow (P := P) w t ty e i z ht hi hz ⟨g, 0, none⟩ n cap xs hown.1 holds a m c news hl hnews (by omega) (by simp only [maxLen] at h63; omega) (growslice_fits (by omega) hbytes)
      rw [hrun] at hr
      injection hr with e1 e2
      subst e2
      exact World.ownsRow.alloc (w := w.drew) hown' _

/-- Loose writes as cells. -/
def wcells (vs : List (Int × Value)) : List Value := vs.flatMap fun e => [.int .i64 e.1, e.2]
theorem wcells_length (vs : List (Int × Value)) : (wcells vs).length = vs.length * 2 := by
  induction vs with
  | nil => rfl
  | cons a l ih => simp [wcells] at *; omega
theorem wcells_cons (a : Int × Value) (l : List (Int × Value)) : wcells (a :: l) = .int .i64 a.1 :: a.2 :: wcells l := rfl
theorem wcells_get : ∀ {vs : List (Int × Value)} {k : Nat} {e : Int × Value}, vs[k]? = some e → (wcells vs)[k * 2]? = some (.int .i64 e.1) ∧ (wcells vs)[k * 2 + 1]? = some e.2
  | a :: l, 0, e, h => by simp at h; subst h; exact ⟨rfl, rfl⟩
  | a :: l, k + 1, e, h => by
    have := wcells_get (vs := l) (k := k) (e := e) (by simpa using h)
    rw [wcells_cons]
    have e' : (k + 1) * 2 = k * 2 + 1 + 1 := by omega
    rw [e']
    simpa using this
  | [], _, _, h => by simp at h

/-- The slice vl is a row of these loose writes. -/
def Loose (w : World) (vl : Value) (L : List (Int × List Nat)) : Prop :=
  ∃ vs : List (Int × Value), vs.length = L.length ∧ w.ownsRow 0 68 2 vl L.length (wcells vs) ∧ ∀ k (h : k < L.length), ∃ v, vs[k]? = some (L[k].1, v) ∧ BytP w v L[k].2

/-- The blocks of a disk. -/
def own (b m : Nat) (vl : Value) : List Nat := b :: m :: vl.ownBlock.toList
theorem mem_own {b m k : Nat} {vl : Value} : k ∈ own b m vl ↔ k = b ∨ k = m ∨ vl.ownBlock = some k := by
  unfold own
  cases h : vl.ownBlock with
  | none => simp
  | some g =>
    simp
    constructor
    · rintro (h | h | h)
      · exact .inl h
      · exact .inr (.inl h)
      · exact .inr (.inr h.symm)
    · rintro (h | h | h)
      · exact .inl h
      · exact .inr (.inl h)
      · exact .inr (.inr h.symm)

section
variable {T : List Nat} {w w' : World} {vl : Value} {L : List (Int × List Nat)}
theorem Loose.nil (w : World) : Loose w nilv [] := ⟨[], rfl, World.ownsRow_nil _ _ _ _, fun k h => absurd h (by simp)⟩
theorem Loose.lt (h : Loose w vl L) {g : Nat} (hg : vl.ownBlock = some g) : g < w.heap.size := by
  obtain ⟨vs, _, ho, _⟩ := h
  exact (ho.lt g hg).2
theorem Loose.kind (h : Loose w vl L) {g : Nat} (hg : vl.ownBlock = some g) : ∃ cs, w.heap[g]? = some (.cells cs 68 (0, 0)) := by
  obtain ⟨vs, _, ho, _⟩ := h
  rcases ho.2 with ⟨rfl, _⟩ | ⟨g', cap, cur, rfl, _, hh, _⟩
  · simp [Value.ownBlock] at hg
  · simp [Value.ownBlock] at hg; subst hg; exact ⟨_, hh⟩
theorem Loose.turnS (h : Loose w vl L) (k : Turn T w w') (hn : Spares w T) (hg : ∀ g, vl.ownBlock = some g → g ∉ T) : Loose w' vl L := by
  obtain ⟨vs, h1, ho, h2⟩ := h
  refine ⟨vs, h1, ?_, fun j hj => ?_⟩
  · refine ⟨ho.1, ?_⟩
    rcases ho.2 with h | ⟨g, cap, cur, rfl, hb, hh, r⟩
    · exact .inl h
    · exact .inr ⟨g, cap, cur, rfl, hb, (k.block g (lt_of_block hh) (hg g rfl)).trans hh, r⟩
  · obtain ⟨v, e, hb⟩ := h2 j hj
    exact ⟨v, e, hb.turn k hn⟩
theorem Loose.turn (h : Loose w vl L) (k : Turn T w w') (hn : NoBytes w T) (hg : ∀ g, vl.ownBlock = some g → g ∉ T) : Loose w' vl L := h.turnS k hn.sp hg
theorem Loose.form (h : Loose w vl L) : ∃ A c, vl = .slice A L.length c ∧ L.length ≤ c ∧ ∀ k (hk : k < L.length), ∃ p v, A = some p ∧ p.block < w.heap.size ∧ w.cell? (p.add (k * 2)) = some (.int .i64 L[k].1) ∧ w.cell? ((p.add (k * 2)).add 1) = some v ∧ Byt w v L[k].2 := by
  obtain ⟨vs, h1, ho, h2⟩ := h
  have aa : ∀ (p : Addr) (j i : Nat), (p.add j).add i = p.add (j + i) := by
    intro p j i
    unfold Addr.add
    by_cases h1 : j = 0
    · subst h1; simp
    · by_cases h2 : i = 0
      · subst h2; simp
      · simp [h1, h2]; omega
  rcases ho.2 with ⟨rfl, h0⟩ | ⟨g, cap, cur, rfl, hb, hh, hnc, _⟩
  · exact ⟨none, 0, by rw [h0], by omega, fun k hk => absurd hk (by omega)⟩
  · refine ⟨_, _, rfl, hnc, fun k hk => ?_⟩
    obtain ⟨v, e, hv⟩ := h2 k hk
    have := wcells_get e
    exact ⟨_, v, rfl, lt_of_block hh, World.ownsRow.cells ho (g := g) rfl _ _ this.1, by rw [aa]; exact World.ownsRow.cells ho (g := g) rfl _ _ this.2, hv.1⟩
end

theorem write_row : (Try.prog.info? 68).map (fun i => (i.zero, i.size, i.bytes)) = some (some (.agg #[.int .i64 0, nilv]), 2, 32) := by kernel_rfl

/-- 'append(d.loose, x)', x in a block of its own. -/
theorem Loose.append {w : World} {vl : Value} {L : List (Int × List Nat)} (h : Loose w vl L) (hn : L.length ≤ 1000000000) {g : Nat} {x : Int} {v : Value} {l : List Nat} (hg : Blk w g #[.int .i64 x, v] 68) (hv : BytP w v l) :
    ∃ v' w', (Builtin.append_ #[62, 62] 62 #[vl, .slice (some ⟨g, 0, none⟩) 1 1]).run Try.prog w = .ok v' w' ∧ Loose w' v' (L ++ [(x, l)]) ∧ Loose w' vl L ∧ w.grownBy w' vl.ownBlock ∧ (v'.ownBlock = vl.ownBlock ∨ v'.ownBlock = some w.heap.size) := by
  obtain ⟨i, hi, hz, hs, hby⟩ := info_parts write_row
  obtain ⟨vs, h1, ho, h2⟩ := id h
  have hc := hg.two
  obtain ⟨p, cc, rfl, hlc, hkb, hcl⟩ := hv.1.2
  obtain ⟨v', w', hrun, ho', hgr, hloc, hold⟩ := run_append_keeps (P := Try.prog) w 0 62 62 68 i _ 2 32 Try.underlying62 hi hz hs hby rfl (by omega) vl L.length (wcells vs) ho ⟨g, 0, none⟩ 1 1 [.int .i64 x, .slice (some p) l.length cc] rfl
    (fun j u hu => by
      match j, hu with
      | 0, hu => simp at hu; subst hu; exact hc.1
      | 1, hu => simp at hu; subst hu; exact hc.2.1) (by intro u hu; simp at hu; rcases hu with rfl | rfl <;> rfl) (by simp only [maxLen]; omega) (by omega) (Nat.zero_le _)
  have ht : Turn vl.ownBlock.toList w w' := (Turn.refl _ w).grown hgr (fun k e => .inl (by simp [e]))
  have hnb : NoBytes w vl.ownBlock.toList := by
    intro k hk cs fz e
    obtain ⟨cs', e'⟩ := h.kind (g := k) (by simpa using hk)
    rw [e'] at e; cases e
  refine ⟨v', w', hrun, ⟨vs ++ [(x, .slice (some p) l.length cc)], by simp [h1], ?_, fun k hk => ?_⟩, ⟨vs, h1, hold, fun k hk => ?_⟩, hgr, hloc⟩
  · have e : wcells (vs ++ [(x, .slice (some p) l.length cc)]) = wcells vs ++ [.int .i64 x, .slice (some p) l.length cc] := by simp [wcells]
    rw [e, List.length_append]; exact ho'
  · by_cases hlt : k < L.length
    · obtain ⟨u, e, hu⟩ := h2 k hlt
      refine ⟨u, ?_, ?_⟩
      · rw [List.getElem?_append_left (by omega), List.getElem_append_left hlt]; exact e
      · rw [List.getElem_append_left hlt]; exact hu.turn ht hnb.sp
    · have ek : k = L.length := by simp at hk; omega
      subst ek
      refine ⟨.slice (some p) l.length cc, ?_, ?_⟩
      · rw [List.getElem?_append_right (by omega), h1]; simp
      · simpa using hv.turn ht hnb.sp
  · obtain ⟨u, e, hu⟩ := h2 k hk
    exact ⟨u, e, hu.turn ht hnb.sp⟩

/-- Block b is this disk; its map is block m, its row of loose writes vl. -/
structure DiskAt (w : World) (b m : Nat) (vl : Value) (D : Dsk) : Prop where
  ok : D.Ok
  blk : Blk w b #[.int .i64 D.sectors, .int .i64 D.size, .map (some m), vl, .int .i64 D.armed, .bool D.down] 64
  fast : Fast w m D.sectors D.size D.fast
  loose : Loose w vl D.loose
  bar : ∀ k, w.heap.size ≤ k → Bar.P k

section
variable {T : List Nat} {w w' : World} {b m : Nat} {vl : Value} {D : Dsk}
theorem DiskAt.kinds (h : DiskAt w b m vl D) : b ≠ m ∧ (∀ g, vl.ownBlock = some g → g ≠ b ∧ g ≠ m) := by
  obtain ⟨es, clock, hm⟩ := h.fast.kind
  have hb := h.blk
  unfold Blk at hb
  refine ⟨fun e => ?_, fun g hg => ⟨fun e => ?_, fun e => ?_⟩⟩
  · subst e; rw [hb] at hm; cases hm
  · subst e; obtain ⟨cs, e'⟩ := h.loose.kind hg; rw [hb] at e'; cases e'
  · subst e; obtain ⟨cs, e'⟩ := h.loose.kind hg; rw [hm] at e'; cases e'
theorem DiskAt.nobytes (h : DiskAt w b m vl D) : NoBytes w (own b m vl) := by
  intro k hk cs fz e
  obtain ⟨es, clock, hm⟩ := h.fast.kind
  have hb := h.blk
  unfold Blk at hb
  rcases mem_own.1 hk with rfl | rfl | hk
  · rw [hb] at e; cases e
  · rw [hm] at e; cases e
  · obtain ⟨cs', e'⟩ := h.loose.kind hk; rw [e'] at e; cases e
theorem DiskAt.nobytes1 (h : DiskAt w b m vl D) : NoBytes w [b] := fun k hk => h.nobytes k (by simp at hk; simp [own, hk])
theorem DiskAt.lt (h : DiskAt w b m vl D) : ∀ k ∈ own b m vl, k < w.heap.size := by
  intro k hk
  rcases mem_own.1 hk with rfl | rfl | hk
  · exact h.blk.lt
  · exact h.fast.lt
  · exact h.loose.lt hk
theorem DiskAt.turnS (h : DiskAt w b m vl D) (k : Turn T w w') (hn : Spares w T) (hT : ∀ j ∈ own b m vl, j ∉ T) : DiskAt w' b m vl D :=
  ⟨h.ok, (k.block b h.blk.lt (hT b (mem_own.2 (.inl rfl)))).trans h.blk, h.fast.turnS k hn (hT m (mem_own.2 (.inr (.inl rfl)))), h.loose.turnS k hn (fun g hg => hT g (mem_own.2 (.inr (.inr hg)))), fun j hj => h.bar j (Nat.le_trans k.size hj)⟩
theorem DiskAt.turn (h : DiskAt w b m vl D) (k : Turn T w w') (hn : NoBytes w T) (hT : ∀ j ∈ own b m vl, j ∉ T) : DiskAt w' b m vl D := h.turnS k hn.sp hT
theorem DiskAt.grew (h : DiskAt w b m vl D) (k : Below w.heap.size w w') : DiskAt w' b m vl D := h.turn (Turn.of_below k []) (by intro _ h; simp at h) (by simp)
theorem DiskAt.drew (h : DiskAt w b m vl D) : DiskAt w.drew b m vl D := h.grew ⟨rfl, rfl, rfl, Nat.le_refl _, fun _ _ => rfl⟩
theorem DiskAt.alloc (h : DiskAt w b m vl D) (o : Obj) : DiskAt (w.alloc o) b m vl D := h.grew ((Below.refl _ w).alloc (Nat.le_refl _) o)
/-- The armed and the down cells are written. -/
theorem DiskAt.sets (h : DiskAt w b m vl D) {D' : Dsk} (hD : D'.Ok) (h1 : D'.sectors = D.sectors) (h2 : D'.size = D.size) (h3 : D'.fast = D.fast) (h4 : D'.loose = D.loose) (k : Turn [b] w w')
    (hb : Blk w' b #[.int .i64 D.sectors, .int .i64 D.size, .map (some m), vl, .int .i64 D'.armed, .bool D'.down] 64) : DiskAt w' b m vl D' := by
  refine ⟨hD, by rw [h1, h2]; exact hb, ?_, ?_, fun j hj => h.bar j (Nat.le_trans k.size hj)⟩
  · rw [h1, h2, h3]; exact h.fast.turn k h.nobytes1 (by simp; exact Ne.symm h.kinds.1)
  · rw [h4]; exact h.loose.turn k h.nobytes1 (fun g hg => by simp; exact (h.kinds.2 g hg).1)
theorem DiskAt.six (h : DiskAt w b m vl D) : w.cell? ⟨b, 0, none⟩ = some (.int .i64 D.sectors) ∧ w.cell? ⟨b, 1, none⟩ = some (.int .i64 D.size) ∧ w.cell? ⟨b, 2, none⟩ = some (.map (some m)) ∧ w.cell? ⟨b, 3, none⟩ = some vl ∧
    w.cell? ⟨b, 4, none⟩ = some (.int .i64 D.armed) ∧ w.cell? ⟨b, 5, none⟩ = some (.bool D.down) ∧ w.frozen? ⟨b, 3, none⟩ = false ∧ w.frozen? ⟨b, 4, none⟩ = false ∧ w.frozen? ⟨b, 5, none⟩ = false :=
  ⟨h.blk.cell 0, h.blk.cell 1, h.blk.cell 2, h.blk.cell 3, h.blk.cell 4, h.blk.cell 5, h.blk.free 3, h.blk.free 4, h.blk.free 5⟩
/-- What the disk's bytes do not lie in may be barred. -/
theorem DiskAt.rebar {w w' : World} {b m : Nat} {vl : Value} {D : Dsk} {ι ι' : Type} {B : Bar ι} (h : @DiskAt ι B w b m vl D) (k : Below w.heap.size w w') (B' : Bar ι') (hB : ∀ j, j < w.heap.size → B.P j → B'.P j) (hbar : ∀ j, w'.heap.size ≤ j → B'.P j) : @DiskAt ι' B' w' b m vl D := by
  have hb : ∀ v l, @BytP ι B w v l → @BytP ι' B' w v l := by
    rintro v l ⟨h1, h2⟩
    refine ⟨h1, fun p n c e => hB _ ?_ (h2 p n c e)⟩
    obtain ⟨_, p', c', e', _, ⟨cs, fz, hh⟩, _⟩ := h1
    rw [e] at e'
    injection e' with e' _ _
    injection e' with e'
    rw [e']
    exact lt_of_block hh
  have hf : ∀ f, @Fast ι B w m D.sectors D.size f → @Fast ι' B' w m D.sectors D.size f := by
    rintro f ⟨n, E, ho, h1, h2, h3⟩
    refine ⟨n, E, ho, h1, h2, fun x v hv => ?_⟩
    have := h3 x v hv
    split
    · rename_i hh; rw [if_pos hh] at this; exact hb _ _ this
    · rename_i hh; rw [if_neg hh] at this; exact this
  have hl : ∀ L, @Loose ι B w vl L → @Loose ι' B' w vl L := by
    rintro L ⟨vs, h1, ho, h2⟩
    refine ⟨vs, h1, ho, fun j hj => ?_⟩
    obtain ⟨v, e, hv⟩ := h2 j hj
    exact ⟨v, e, hb _ _ hv⟩
  obtain ⟨h1, h2, h3, h4, _⟩ := h
  exact ⟨h1, h2.grew k, @Fast.turn ι' B' [] w w' m _ _ _ (hf _ h3) (Turn.of_below k []) (by intro _ h; simp at h) (by simp), @Loose.turn ι' B' [] w w' vl _ (hl _ h4) (Turn.of_below k []) (by intro _ h; simp at h) (by simp), hbar⟩
end

end Go.Proofs.Ytapllljbbldfkaa
