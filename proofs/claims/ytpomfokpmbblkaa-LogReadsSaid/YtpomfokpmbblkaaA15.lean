/- Plain law of LogAppends; what it needs of memory. -/
import Derived.Test.YtpomfokpmbblkaaA14
namespace Go.Proofs.Ytpomfokpmbblkaa
open Go.RowKit Go.Maps
set_option maxRecDepth 8000

/-- A log on a new disk, and what it holds. -/
structure Appd (D : Dsk) (L : Lg) (rows : List (List (Int × List Nat))) : Prop where
  has : LogHas D L rows
  zr : Zr D L (flat rows).length
  loose : D.loose = []
  armed : D.armed = 0
  live : L.dead = false
def wrongE (z : Nat) (left : Int) (g : List (Int × List Nat)) : Int := if g.isEmpty || g.any badPage then 1 else if g.any (badLen z) then 3 else if left < g.length then 6 else 0
section
variable {D : Dsk} {L : Lg} {rows : List (List (Int × List Nat))} {g : List (Int × List Nat)}
theorem Appd.wrong (h : Appd D L rows) : rightE D L g = wrongE D.size ((L.count : Int) - L.next) g := by
  unfold rightE wrongE
  rw [h.live, if_neg (by simp)]
theorem Appd.step (h : Appd D L rows) (hz : D.size ≤ 4096) (hb : ∀ c ∈ g, ∀ b ∈ c.2, b < 256) :
    (app D L g).1 = wrongE D.size ((L.count : Int) - L.next) g ∧ (wrongE D.size ((L.count : Int) - L.next) g ≠ 0 → (app D L g).2.1 = D ∧ (app D L g).2.2 = L) ∧
    (wrongE D.size ((L.count : Int) - L.next) g = 0 → Appd (app D L g).2.1 (app D L g).2.2 (rows ++ [g]) ∧ (app D L g).2.2.next = L.next + g.length ∧ L.next + g.length ≤ L.count ∧ ∀ c ∈ g, ChOk D.size c) := by
  by_cases h0 : rightE D L g = 0
  · obtain ⟨_, _, hch, hfit⟩ := rightE_ok h0 hb h.has.z hz
    rcases h.has.apps (by rw [h.armed]; decide) hz hb h0 with ⟨q0, q1, q2, q3, q4, q5, _, q6, q7⟩ | ⟨_, q, _⟩
    · rw [h.wrong] at h0
      refine ⟨by rw [q0, h0], fun hn => absurd h0 hn, fun _ => ⟨⟨q1, fun i hi hc => ?_, q2, q3 h.armed, by rw [q6]⟩, by rw [q6], hfit, hch⟩⟩
      rw [q6] at hc ⊢
      have hnx := h.has.nx
      have hlen : (flat (rows ++ [g])).length = (flat rows).length + g.length := by rw [flat_append, flat_one, List.length_append, fl_length]
      rw [q5]
      show (app D L g).2.1.tells ((L.first : Int) + i) = _
      rw [q7 _ (fun k hk => by omega)]
      exact h.zr i (by omega) hc
    · rw [h.armed] at q; omega
  · rw [app_no h0]
    rw [h.wrong] at h0
    exact ⟨h.wrong, fun _ => ⟨rfl, rfl⟩, fun hn => absurd hn h0⟩
theorem fl_get : ∀ (g : List (Int × List Nat)) (k : Nat) (h : k < (fl g).length) (h' : k < g.length), (fl g)[k] = (g[k], decide (k + 1 = g.length))
  | [], _, h, _ => absurd h (by simp [fl])
  | [c], 0, _, _ => rfl
  | [c], k + 1, h, _ => absurd h (by simp)
  | c :: c2 :: r, 0, _, _ => by
    show (c, (c2 :: r).isEmpty) = (c, decide (0 + 1 = (c :: c2 :: r).length))
    simp
  | c :: c2 :: r, k + 1, h, h' => by
    have := fl_get (c2 :: r) k (by simpa using h) (by simpa using h')
    show (fl (c2 :: r))[k]'(by simpa using h) = _
    rw [this]
    simp
/-- A slot of the group appended last. -/
theorem Appd.slot (h : Appd D L (rows ++ [g])) (k : Nat) (hk : k < g.length) : D.tells ((L.first : Int) + ((flat rows).length + k : Nat)) = secAt D.size L.epoch ((flat rows).length + k) (g[k], decide (k + 1 = g.length)) := by
  have hlen : (flat (rows ++ [g])).length = (flat rows).length + g.length := by rw [flat_append, flat_one, List.length_append, fl_length]
  have := h.has.slots ((flat rows).length + k) (by omega)
  rw [this, flat_get_new rows g _ (by omega) (by omega) (by rw [fl_length]; omega)]
  have e : (flat rows).length + k - (flat rows).length = k := by omega
  simp only [e]
  rw [fl_get g k (by rw [fl_length]; exact hk) hk]
theorem Appd.latest (h : Appd D L rows) (hc : 1 ≤ L.count) : latV D L.first L.count = if L.next = 0 then 0 else (L.epoch : Int) := by
  have := h.has.lat (fun i hi hc => by rw [h.zr i hi hc]; exact slotEp_zeros h.has.z i) L.count (Nat.le_refl _)
  have hnx := h.has.nx
  rw [this]
  by_cases h0 : L.next = 0
  · rw [if_pos (by omega), if_pos h0]
  · rw [if_neg (by omega), if_neg h0]
theorem appd_start (z f c e : Nat) (hz : 64 ≤ z) (h1 : 1 ≤ c) (h2 : f + c ≤ 12) (he : 1 ≤ e ∧ e ≤ 1099511627776) : Appd (Dsk.new 12 z) ⟨f, c, e, 0, false⟩ [] :=
  ⟨LogHas.start rfl (by show f + c ≤ 12; omega) ⟨by show f ≤ 1048576; omega, by show c ≤ 1048576; omega, he, Nat.zero_le _⟩ rfl hz (fun i _ => by
    show slotEp (List.replicate z 0) i ≠ (e : Int)
    rw [slotEp_zeros hz]; omega), fun _ _ _ => rfl, rfl, rfl, rfl⟩
end
theorem any_take_succ {α : Type} (p : α → Bool) (l : List α) (k : Nat) (h : k < l.length) : (l.take (k + 1)).any p = ((l.take k).any p || p l[k]) := by
  have e : l.take (k + 1) = l.take k ++ [l[k]] := by rw [List.take_add_one, List.getElem?_eq_getElem h]; rfl
  rw [e, List.any_append]
  simp
section
variable {w v v' : World} {b m G X : Nat} {vl : Value} {D : Dsk} {L : Lg} {gv ov lv : Value} {g row : List (Int × List Nat)} {ws : List (List (Int × List Nat))} {cs : Array Value} {t : TypeId}
theorem AgX.push3 (h : AgX w v b m vl D G L gv g ws ov lv row X cs t) {q : Nat} {x : Int} {l : List Nat} (hB : Blk v q #[.int .i64 x, .string (str l)] 47) (hn : row.length ≤ 1000000000) :
    ∃ v' w', (Builtin.append_ #[45, 45] 45 #[lv, .slice (some ⟨q, 0, none⟩) 1 1]).run Try.prog v = .ok v' w' ∧ AgX w w' b m vl D G L gv g ws ov v' (row ++ [(x, l)]) X cs t ∧ (∀ C ds y, Blk v C ds y → lv.ownBlock ≠ some C → Blk w' C ds y) := by
  obtain ⟨v', w', hrun, h1, ht⟩ := h.ag.wt.push hB hn
  have hT : ∀ j ∈ lv.ownBlock.toList, (∃ cs, v.heap[j]? = some (.cells cs 47 (0, 0))) ∨ ∃ cs, v.heap[j]? = some (.cells cs 45 (0, 0)) := fun j hj => .inl (h.ag.wt.row.kind (by simpa using hj))
  exact ⟨v', w', hrun, ⟨⟨h.ag.st.turned ht (fun j hj => (h.ag.wt.row.lt (g := j) (by simpa using hj)).1) hT, h.ag.src.turned ht hT, h1⟩, h.box.kept h.ty ht hT, h.ty⟩, fun C ds y hC hne => (ht.block C hC.lt (fun hm => hne (by simpa using hm))).trans hC⟩
/-- A write to a block of the call's own that is none of these. -/
theorem AgX.fill (h : AgX w v b m vl D G L gv g ws ov lv row X cs t) {x : Int} {s : ByteArray} :
    let u := v.alloc (.cells #[.int .i64 0, .string ⟨#[]⟩] 47)
    let u' := (u.setCell ⟨v.heap.size, 0, none⟩ (.int .i64 x)).setCell ⟨v.heap.size, 1, none⟩ (.string s)
    AgX w u' b m vl D G L gv g ws ov lv row X cs t ∧ Blk u' v.heap.size #[.int .i64 x, .string s] 47 ∧ Below v.heap.size v u' := by
  intro u u'
  have hb : Below v.heap.size v u' := (((Below.refl _ v).alloc (Nat.le_refl _) _).setCell (p := ⟨v.heap.size, 0, none⟩) (Nat.le_refl _) _).setCell (p := ⟨v.heap.size, 1, none⟩) (Nat.le_refl _) _
  refine ⟨h.grew hb, ?_, hb⟩
  have hk : Blk u v.heap.size #[.int .i64 0, .string ⟨#[]⟩] 47 := Blk.new v _ _
  have := (hk.set 0 (.int .i64 x)).set 1 (.string s)
  simpa using this
end
end Go.Proofs.Ytpomfokpmbblkaa
