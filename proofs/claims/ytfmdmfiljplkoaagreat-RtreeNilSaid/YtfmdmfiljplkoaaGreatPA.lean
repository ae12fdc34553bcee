/- A map of pages: block m is a map from numbers below N to rows of bytes. DERIVED: THE SHELF's CONTRACTS AT THIS DUMP, IN PLAIN WORDS (tools/lay-plain.mjs out of 'TryzShelf.lean', which tools/lay-shelf.mjs wrote): THE SAME DECLARATIONS UNDER THE SAME NAMES: 'import', 'namespace', 'open', 'def', 'theorem' AND NOTHING ELSE: no command of the shelf's: FOR A HAND-IN. Each laying: the table of numbers ('.._ren') and one theorem, a field a fact of the dump's own or the kernel's comparison; each contract: ONE APPLICATION. The numbers of a map of pages in order; a map of pages copied upon another one. The pool in memory. Walks: the pool's small functions: Room, Pages, Taken, top, ready, died, Dead. Walks: the pool's put, get, taken, died, Dead, wide. What a call turns of a pool; the pool's died, taken. Walks: a state's clone; a load with zeros behind it; the load of page 0; Root, SetRoot. Walks: SetRoot; the load of page 0. -/
import Derived.Test.YtfmdmfiljplkoaaGreatDs
import Derived.Maps.OwnSet
import Derived.Shelf.Small.Bits
import Derived.Shelf.Strconv.Itoa0
import Derived.Shelf.Sort.Plain
import Derived.Shelf.Slices.Turned
import Derived.Shelf.Slices.Reverse
import Derived.Ground.Names2Prog
import Derived.Shelf.Slices.Clone
import Derived.Shelf.Slices.SearchI
import Derived.Shelf.Slices.Cells
import Derived.Shelf.Slices.In.SortNone
import Derived.Ground.SlgnProg
import Derived.Shelf.SlicesE.Clone
import Derived.Shelf.SlIterI.Nil
import Derived.Shelf.SlMaps.Copy
import Derived.Ground.GgzProg
import Derived.Ground.SlmpProg
import Derived.Test.YtfmdmfiljplkoaaGreatProg
import Derived.Test.YtfmdmfiljplkoaaGreatDk
import Derived.Test.YtfmdmfiljplkoaaGreatLB
namespace Go.Proofs.YtfmdmfiljplkoaaGreat
open Go.RowKit Go.Maps
abbrev Pgs := Nat → Option (List Nat)
def Pgs.put (f : Pgs) (k : Nat) (l : List Nat) : Pgs := fun x => if x = k then some l else f x
def Pgs.del (f : Pgs) (k : Nat) : Pgs := fun x => if x = k then none else f x
def Pgs.keys (N : Nat) (f : Pgs) : List Nat := (List.range N).filter fun k => (f k).isSome
def Pgs.none_ : Pgs := fun _ => none
/-- Block m is a map of these pages (numbers below N). -/
def PgMap (w : World) (m N : Nat) (f : Pgs) : Prop :=
  ∃ n E, w.ownsMap Tryz.prog 3 R0 m n E ∧ size E = cnt E N ∧ n ≤ N ∧ N ≤ 1048576 ∧ (∀ x : Int, has E (key x) = true ↔ ∃ (k : Nat) (l : List Nat), x = (k : Int) ∧ f k = some l) ∧ (∀ k l, f k = some l → k < N) ∧
    ∀ (k : Nat) l v, f k = some l → E.atKey (key (k : Int)) (.held nilv) = .held v → Byt w v l
section
variable {w w' : World} {m N : Nat} {f : Pgs}
theorem has_page {E : DataW Value} (h : ∀ x : Int, has E (key x) = true ↔ ∃ (k : Nat) (l : List Nat), x = (k : Int) ∧ f k = some l) (k : Nat) : has E (key (k : Int)) = (f k).isSome := by
  rw [Bool.eq_iff_iff, h, Option.isSome_iff_exists]
  constructor
  · rintro ⟨j, l, hj, hl⟩
    have : k = j := by omega
    exact ⟨l, by rw [this]; exact hl⟩
  · rintro ⟨l, hl⟩
    exact ⟨k, l, rfl, hl⟩
theorem cnt_keys {E : DataW Value} (h : ∀ x : Int, has E (key x) = true ↔ ∃ (k : Nat) (l : List Nat), x = (k : Int) ∧ f k = some l) (N : Nat) : cnt E N = (f.keys N).length := by
  unfold cnt Pgs.keys
  rw [List.countP_eq_length_filter]
  congr 1
  exact List.filter_congr fun k _ => has_page h k
theorem PgMap.new (w : World) (N : Nat) (hN : N ≤ 1048576) : PgMap (w.alloc (.map #[] 0)) w.heap.size N Pgs.none_ :=
  ⟨0, .map [], World.ownsMap_made w _ _ _, by simp [Maps.size, cnt, has], Nat.zero_le _, hN, ⟨fun x => by simp [has, Pgs.none_], (fun k l h => by simp [Pgs.none_] at h), (fun k l v h => by simp [Pgs.none_] at h)⟩⟩
theorem PgMap.lt (h : PgMap w m N f) : m < w.heap.size := by
  obtain ⟨n, E, ho, _⟩ := h
  exact ho.lt
theorem PgMap.kind (h : PgMap w m N f) : ∃ es clock, w.heap[m]? = some (.map es clock) := by
  obtain ⟨n, E, ⟨es, clock, hb, _⟩, _⟩ := h
  exact ⟨es, clock, hb⟩
theorem PgMap.turn {T : List Nat} (h : PgMap w m N f) (k : Turn T w w') (hn : NoBytes w T) (hm : m ∉ T) : PgMap w' m N f := by
  obtain ⟨n, E, ho, h1, h2, h3, h4, h5, h6⟩ := h
  refine ⟨n, E, ?_, h1, h2, h3, h4, h5, fun j l v hj hv => (h6 j l v hj hv).turn k hn⟩
  obtain ⟨es, clock, hb, r⟩ := ho
  exact ⟨es, clock, (k.block m (lt_of_block hb) hm).trans hb, r⟩
theorem PgMap.n (h : PgMap w m N f) : N ≤ 1048576 := by
  obtain ⟨n, E, _, _, _, h3, _⟩ := h
  exact h3
theorem keyOf_page (k : Nat) (hk : k ≤ 2147483647) : keyOf Tryz.prog 3 (.int .i64 (k : Int)) = some (key (k : Int)) :=
  keyOf_int_mk Tryz.underlying3 (wf_key (x := (k : Int)) (by omega) (by omega))
/-- 'b, is := m[k]'. -/
theorem PgMap.look_some (h : PgMap w m N f) {k : Nat} {l : List Nat} (hk : f k = some l) :
    ∃ v, (Instr.lookup 111 (.map (some m)) (.int .i64 (k : Int)) true).run Tryz.prog w = .ok (.tuple #[v, .bool true]) w ∧ Byt w v l := by
  obtain ⟨n, E, ho, _, h2, h3, h4, h5, h6⟩ := h
  have hkN := h5 k l hk
  obtain ⟨v, ps, hrun, hv⟩ := ho.look_ok law3 Tryz.underlying111 (zero35 w) (zd := .held nilv) (zp := []) rfl (keyOf_page k (by omega))
  have h7 : has E (key (k : Int)) = true := (h4 _).2 ⟨k, l, rfl, hk⟩
  have h8 : E.atKey (key (k : Int)) (.held nilv) = .held v := by
    have : (DataW.held v, ([] : List MemPlace)) = (E.atKey (.int .i64 (k : Int)) (.held nilv), ps) := Option.some.inj hv
    exact (Prod.mk.inj this).1.symm
  refine ⟨v, ?_, h6 k l v hk h8⟩
  rw [hrun, h7]
theorem PgMap.look_none (h : PgMap w m N f) {k : Nat} (hkb : k ≤ 2147483647) (hk : f k = none) :
    ∃ v, (Instr.lookup 111 (.map (some m)) (.int .i64 (k : Int)) true).run Tryz.prog w = .ok (.tuple #[v, .bool false]) w := by
  obtain ⟨n, E, ho, _, h2, h3, h4, h5, h6⟩ := h
  obtain ⟨v, ps, hrun, hv⟩ := ho.look_ok law3 Tryz.underlying111 (zero35 w) (zd := .held nilv) (zp := []) rfl (keyOf_page k hkb)
  have h7 : has E (key (k : Int)) = false := by rw [has_page h4, hk]; rfl
  refine ⟨v, ?_⟩
  rw [hrun, h7]
theorem map_nobytes {m : Nat} (h : PgMap w m N f) : NoBytes w [m] := by
  intro k hk cs fz e
  simp at hk; subst hk
  obtain ⟨es, clock, hb⟩ := h.kind
  rw [hb] at e; cases e
/-- 'm[k] = v'. -/
theorem PgMap.store (h : PgMap w m N f) {k : Nat} (hk : k < N) {v : Value} {l : List Nat} (hv : Byt w v l) :
    ∃ w', (Instr.mapUpdate 111 (.map (some m)) (.int .i64 (k : Int)) v).run Tryz.prog w = .ok () w' ∧ PgMap w' m N (f.put k l) ∧ Turn [m] w w' := by
  have hnb := map_nobytes h
  obtain ⟨n, E, ho, h1, h2, h3, h4, h5, h6⟩ := h
  obtain ⟨w', hrun, ho', ht⟩ := ho.store (d := .held v) (ps := []) law3 Tryz.underlying111 (by simp only [maxLen]; omega) (keyOf_page k (by omega)) rfl
  have hE := ho.tidy law3
  have hz := Maps.size_put (k := key (k : Int)) hE (.held v)
  have hcp := cnt_put hE.isMap hk (.held v)
  have hturn : Turn [m] w w' := (Turn.refl [m] w).mapped ht (by simp)
  have hkl : WideAt.IsKeyLit (key (k : Int)) := trivial
  have hle : size (E.put (key (k : Int)) (.held v)) = cnt (E.put (key (k : Int)) (.held v)) N := by
    rw [hz, hcp]; split <;> omega
  refine ⟨w', hrun, ⟨N, E.put (key (k : Int)) (.held v), size_le ho' (by rw [hle]; exact cnt_le _ _), hle, Nat.le_refl _, h3, fun x => ?_, fun j u hj => ?_, fun j u x hj hx => ?_⟩, hturn⟩
  · by_cases e : x = (k : Int)
    · subst e
      rw [has_put_same hE.isMap hkl]
      exact ⟨fun _ => ⟨k, l, rfl, by simp [Pgs.put]⟩, fun _ => rfl⟩
    · have hne : key x ≠ key (k : Int) := by simp [key]; exact e
      rw [has_put_other hne, h4]
      constructor
      · rintro ⟨j, u, hj, hu⟩
        exact ⟨j, u, hj, by unfold Pgs.put; rw [if_neg (by omega)]; exact hu⟩
      · rintro ⟨j, u, hj, hu⟩
        unfold Pgs.put at hu
        rw [if_neg (by omega)] at hu
        exact ⟨j, u, hj, hu⟩
  · unfold Pgs.put at hj
    by_cases e : j = k
    · omega
    · rw [if_neg e] at hj; exact h5 j u hj
  · unfold Pgs.put at hj
    by_cases e : j = k
    · subst e
      rw [if_pos rfl] at hj
      cases hj
      rw [atKey_put_same hE.isMap hkl] at hx
      cases hx
      exact hv.turn hturn hnb
    · rw [if_neg e] at hj
      rw [atKey_put_other (by simp [key]; omega)] at hx
      exact (h6 j u x hj hx).turn hturn hnb
/-- 'clear(m)'. -/
theorem PgMap.clear (h : PgMap w m N f) (ty : TypeId) :
    ∃ w', (Builtin.clear_ #[111] ty #[.map (some m)]).run Tryz.prog w = .ok (.tuple #[]) w' ∧ PgMap w' m N Pgs.none_ ∧ Turn [m] w w' := by
  obtain ⟨es, clock, hb⟩ := h.kind
  have hn := h.n
  have hlt := lt_of_block hb
  refine ⟨{ w with heap := w.heap.setIfInBounds m (.map #[] clock) }, ?_, ?_, ?_⟩
  · simp [Builtin.clear_, run_underlying Tryz.underlying111, MapKept.run_getObj_map hb, Result.andThen, MapKept.run_setObj_map _ hb]
  · refine ⟨0, .map [], ⟨#[], clock, by simp [hlt], ⟨by simp, MapKept.stamped_empty clock, by simp⟩, Nat.le_refl _, rfl⟩, by simp [Maps.size, cnt, has], Nat.zero_le _, hn, ⟨fun x => by simp [has, Pgs.none_], (fun k l h => by simp [Pgs.none_] at h), (fun k l v h => by simp [Pgs.none_] at h)⟩⟩
  · exact ⟨rfl, rfl, rfl, by simp, fun k hk hn => by
      simp at hn
      simp [Ne.symm hn]⟩
/-- 'len(m)'. -/
theorem PgMap.len (h : PgMap w m N f) (ty : TypeId) : (Builtin.len_ #[111] ty #[.map (some m)]).run Tryz.prog w = .ok (.int .i64 ((f.keys N).length : Nat)) w := by
  obtain ⟨n, E, ho, h1, h2, h3, h4, h5, h6⟩ := h
  rw [ho.len Tryz.underlying111 ty, h1, cnt_keys h4]
end
end Go.Proofs.YtfmdmfiljplkoaaGreat
namespace Go.Proofs
open Go.Shelf
def Tryz.lays128_ren : Go.Shelf.Ren := ⟨fun | 128 => 218 | n => n, fun | 51 => 242 | 3 => 3 | 4 => 4 | 46 => 226 | 5 => 5 | 9 => 9 | n => n, fun | n => n⟩
def Tryz.lays125_ren : Go.Shelf.Ren := ⟨fun | 125 => 178 | 128 => 218 | 129 => 219 | n => n, fun | 46 => 226 | 3 => 3 | 51 => 242 | 53 => 45 | 4 => 4 | 5 => 5 | 9 => 9 | n => n, fun | n => n⟩
def Tryz.lays129_ren : Go.Shelf.Ren := ⟨fun | 129 => 219 | n => n, fun | 53 => 45 | 3 => 3 | 4 => 4 | 46 => 226 | 5 => 5 | 9 => 9 | n => n, fun | n => n⟩
def Tryz.lays189_ren : Go.Shelf.Ren := ⟨fun | 189 => 126 | 125 => 178 | 257 => 177 | 128 => 218 | 129 => 219 | 294 => 209 | 295 => 210 | 296 => 211 | 297 => 212 | 298 => 213 | 299 => 214 | 216 => 215 | 300 => 216 | 301 => 217 | 328 => 225 | 329 => 226 | 330 => 227 | 331 => 228 | 332 => 229 | 215 => 157 | 343 => 233 | n => n, fun | 28 => 118 | 3 => 3 | 46 => 226 | 0 => 0 | 51 => 242 | 53 => 45 | 4 => 4 | 183 => 276 | 182 => 275 | 131 => 281 | 5 => 5 | 9 => 9 | 218 => 288 | 222 => 292 | 228 => 296 | 229 => 297 | n => n, fun | n => n⟩
open Go.Sort Go.RowKit in
def Tryz.lays108_ren : Go.Shelf.Ren := ⟨fun | 108 => 201 | n => n, fun | 28 => 118 | 3 => 3 | 0 => 0 | 4 => 4 | n => n, fun | n => n⟩
open Go.Lib in
open Go.Lib in
def Tryz.lays107_ren : Go.Shelf.Ren := ⟨fun | 107 => 159 | 108 => 201 | n => n, fun | 28 => 118 | 3 => 3 | 4 => 4 | 0 => 0 | n => n, fun | n => n⟩
theorem Tryz.lays107 : Go.Proofs.Lays.n107 Tryz.prog Tryz.lays107_ren := {
  mixed := by kernel_rfl
  f107 := Tryz.func159.trans (congrArg some (by kernel_rfl))
  f108 := Tryz.func201.trans (congrArg some (by kernel_rfl))
  t0 := Tryz.underlying0
  a0 := Tryz.isAgg0
  z0 := Tryz.sizeOf0
  v0 := Tryz.zeroValue0
  t3 := Tryz.underlying3
  a3 := Tryz.isAgg3
  z3 := Tryz.sizeOf3
  v3 := Tryz.zeroValue3
  t4 := Tryz.underlying4
  a4 := Tryz.isAgg4
  z4 := Tryz.sizeOf4
  v4 := Tryz.zeroValue4
  t28 := Tryz.underlying118
  a28 := Tryz.isAgg118
  z28 := Tryz.sizeOf118
  v28 := Tryz.zeroValue118 }
open Go.Lib in
/-- slices.Contains at []int: "Contains reports whether v is present in s.": IT RETURNS 'elements.contains v'; the world is as it was. ITS CALLEE slices.Index IS MET BY ITS OWN CONTRACT OFF THE SHELF (lay that first): no loop is walked here. (LAID: no walk: one application.) -/
theorem Tryz.slices_Contains_int (b off n c : Nat) (zs : List Int) (x : Int) (w : World) (hz : n ≤ zs.length) (hbig : n ≤ 9223372036854775807) (hc : ∀ j, j < zs.length → w.cell? ⟨b, off + j, none⟩ = some (.int .i64 (zs.getD j 0))) :
    Calls Tryz.prog 159 #[.slice (some ⟨b, off, none⟩) n c, .int .i64 x] w fun e w' => e = .returned (.bool ((zs.take n).contains x)) ∧ w' = w := Any.slices_Contains_int Tryz.lays107 b off n c zs x w hz hbig hc
open Go.Lib in
/-- The same at a slice of length 0, a nil one too. (LAID: no walk: one application.) -/
theorem Tryz.slices_Contains_int_empty (a : Option Addr) (c : Nat) (x : Int) (w : World) :
    Calls Tryz.prog 159 #[.slice a 0 c, .int .i64 x] w fun e w' => e = .returned (.bool false) ∧ w' = w := Any.slices_Contains_int_empty Tryz.lays107 a c x w
def Tryz.lays112_ren : Go.Shelf.Ren := ⟨fun | 112 => 136 | n => n, fun | 28 => 118 | 3 => 3 | 4 => 4 | 0 => 0 | n => n, fun | n => n⟩
open Go.RowKit Go.Lib Go.Sort in
open Go.RowKit Go.Lib Go.Sort in
open Go.RowKit Go.Lib Go.Sort in
def Tryz.laysNm215_ren : Go.Shelf.Ren := ⟨fun | 15 => 130 | n => n, fun | 22 => 118 | 3 => 3 | 4 => 4 | n => n, fun | n => n⟩
theorem Tryz.laysNm215 : Go.Proofs.Lays2.n15 Tryz.prog Tryz.laysNm215_ren := {
  mixed := by kernel_rfl
  f15 := Tryz.func130.trans (congrArg some (by kernel_rfl))
  t3 := Tryz.underlying3
  a3 := Tryz.isAgg3
  z3 := Tryz.sizeOf3
  v3 := Tryz.zeroValue3
  t4 := Tryz.underlying4
  a4 := Tryz.isAgg4
  z4 := Tryz.sizeOf4
  v4 := Tryz.zeroValue4
  t22 := Tryz.underlying118
  a22 := Tryz.isAgg118
  z22 := Tryz.sizeOf118
  v22 := Tryz.zeroValue118
  i3 := by kernel_rfl }
open Go.RowKit Go.Lib in
/-- slices.Clone at []int: "Clone returns a copy of the slice. The elements are copied using assignment, so this is a shallow clone. The result may have additional unused capacity. The result preserves the nilness of s.": OF A SLICE THAT IS NOT nil IT RETURNS A SLICE THAT IS NOT nil, OF THE SAME ELEMENTS, IN MEMORY OF THE CALL's OWN: in the how-to's words (6f): 'w'.ownsRow B e 1 v' n cells': v' begins at the head of a row among the blocks from B on (B: the heap's size at the call), not frozen, whose first cells are the elements · 'Below B w w'': below B all is as it was. The capacity is whatever the run-time gives. 'zs': what the cells behind the slice's address hold; 'zs.take n': its elements. (LAID: no walk: one application.) -/
theorem Tryz.slices_Clone_int (b off n c : Nat) (zs : List Int) (w : World) (hz : n ≤ zs.length) (hbig : n * 8 ≤ 140737488355328) (hc : ∀ j, j < zs.length → w.cell? ⟨b, off + j, none⟩ = some (.int .i64 (zs.getD j 0))) :
    Calls Tryz.prog 130 #[.slice (some ⟨b, off, none⟩) n c] w fun e w' => ∃ v', e = .returned v' ∧ w'.ownsRow w.heap.size 3 1 v' n ((zs.take n).map (Value.int .i64)) ∧ v' ≠ .slice none 0 0 ∧ Below w.heap.size w w' := Any.slices_Clone_int Tryz.laysNm215 b off n c zs w hz hbig hc
open Go.RowKit Go.Lib in
/-- The same at nil: nil comes back; the world is as it was. (LAID: no walk: one application.) -/
theorem Tryz.slices_Clone_int_nil (n c : Nat) (w : World) :
    Calls Tryz.prog 130 #[.slice none n c] w fun e w' => e = .returned (.slice none 0 0) ∧ w' = w := Any.slices_Clone_int_nil Tryz.laysNm215 n c w
open Go.RowKit Go.Lib in
def Tryz.laysNm237_ren : Go.Shelf.Ren := ⟨fun | 37 => 157 | n => n, fun | 3 => 3 | 4 => 4 | n => n, fun | n => n⟩
open Go.RowKit Go.Lib in
def Tryz.laysNm231_ren : Go.Shelf.Ren := ⟨fun | 31 => 215 | 37 => 157 | n => n, fun | 3 => 3 | 4 => 4 | n => n, fun | n => n⟩
open Go.RowKit Go.Lib in
open Go.RowKit Go.Lib Go.Sort in
open Go.RowKit Go.Sort in
def Tryz.laysSlE041_f89_ren : Go.Shelf.Ren := ⟨fun | 41 => 130 | n => n, fun | 22 => 118 | 23 => 3 | 4 => 4 | n => n, fun | n => n⟩
open Go.RowKit Go.Lib in
open Go.RowKit Go.Lib in
def Tryz.keysL_ren : Go.Shelf.Ren := ⟨fun | 7 => 70 | 10 => 127 | n => n, fun | 23 => 111 | 26 => 3 | 3 => 108 | 28 => 133 | 0 => 0 | 27 => 132 | 33 => 61 | 4 => 4 | n => n, fun | n => n⟩
def Tryz.sortedL_ren : Go.Shelf.Ren := ⟨fun | 6 => 69 | 8 => 125 | 9 => 126 | 11 => 176 | 13 => 178 | 12 => 177 | 23 => 218 | 24 => 219 | 14 => 209 | 15 => 210 | 16 => 211 | 17 => 212 | 18 => 213 | 19 => 214 | 20 => 215 | 21 => 216 | 22 => 217 | 25 => 225 | 26 => 226 | 27 => 227 | 28 => 228 | 29 => 229 | 30 => 157 | 31 => 233 | n => n, fun | 26 => 3 | 28 => 133 | 24 => 118 | 0 => 0 | 3 => 3 | 37 => 226 | 48 => 242 | 50 => 45 | 4 => 4 | 40 => 276 | 39 => 275 | 45 => 281 | 5 => 5 | 9 => 9 | 51 => 288 | 55 => 292 | 57 => 296 | 58 => 297 | 33 => 61 | n => n, fun | n => n⟩
def Tryz.copyL_ren : Go.Shelf.Ren := ⟨fun | 5 => 73 | n => n, fun | 23 => 111 | 24 => 111 | 26 => 3 | 27 => 108 | 0 => 0 | 4 => 4 | n => n, fun | n => n⟩
end Go.Proofs
namespace Go.Proofs.YtfmdmfiljplkoaaGreat
open Go.RowKit Go.Maps Go.Sort Go.Shelf
section
variable {w w' : World} {m N : Nat} {f : Pgs}
theorem keys_lenle : (f.keys N).length ≤ N := by
  unfold Pgs.keys
  have := List.length_filter_le (fun k => (f k).isSome) (List.range N)
  simpa using this
/-- What is there behind a copy of g upon f. -/
def Pgs.over (g f : Pgs) : Pgs := fun k => match g k with | some l => some l | none => f k
end
end Go.Proofs.YtfmdmfiljplkoaaGreat
namespace Go.Proofs.YtfmdmfiljplkoaaGreat
open Go.RowKit Go.Maps
variable {ι : Type} [Bar ι]
/-! ### the plain pool -/
structure R8 where
  r0 : Int
  r1 : Int
  r2 : Int
  r3 : Int
  r4 : Int
  r5 : Int
  r6 : Int
  r7 : Int
def R8.zero : R8 := ⟨0, 0, 0, 0, 0, 0, 0, 0⟩
def R8.get (r : R8) : Nat → Int
  | 0 => r.r0
  | 1 => r.r1
  | 2 => r.r2
  | 3 => r.r3
  | 4 => r.r4
  | 5 => r.r5
  | 6 => r.r6
  | 7 => r.r7
  | _ => 0
def R8.set (r : R8) (k : Nat) (n : Int) : R8 := match k with
  | 0 => { r with r0 := n }
  | 1 => { r with r1 := n }
  | 2 => { r with r2 := n }
  | 3 => { r with r3 := n }
  | 4 => { r with r4 := n }
  | 5 => { r with r5 := n }
  | 6 => { r with r6 := n }
  | 7 => { r with r7 := n }
  | _ => r
/-- Which pages are taken, and the roots. -/
structure Sta where
  next : Nat
  free : List Nat
  roots : R8
def Sta.top (s : Sta) : Nat := s.free.getLast?.getD 0
structure Pl where
  now : Sta
  was : Sta
  epoch : Nat
  slots : Nat
  first : Nat
  last : Pgs
  pend : Pgs
  seen : Pgs
  moved : Bool
  dead : Bool
  log : Option Lg
/-! ### where it lies -/
structure Mem where
  p : Nat
  b : Nat
  m : Nat
  vl : Value
  vf : Value
  vw : Value
  G : Option Nat
  ml : Nat
  mn : Nat
  ms : Nat
abbrev Mem.own (M : Mem) : List Nat := M.p :: M.ml :: M.mn :: M.ms :: (M.G.toList ++ M.vf.ownBlock.toList ++ M.vw.ownBlock.toList ++ YtfmdmfiljplkoaaGreat.own M.b M.m M.vl)
/-- A row of numbers. -/
def RowI (w : World) (v : Value) (l : List Nat) : Prop := w.ownsRow 0 3 1 v l.length (l.map fun n : Nat => Value.int .i64 (n : Int))
def logV : Option Nat → Value
  | none => .pointer none
  | some G => .pointer (some ⟨G, 0, none⟩)
def LogOpt (w : World) (b : Nat) : Option Nat → Option Lg → Prop
  | none, none => True
  | some G, some L => LogIn w G b L ∧ L.Ok
  | _, _ => False
def plCells (M : Mem) (S : Pl) : Array Value :=
  #[.int .i64 S.now.next, M.vf, .int .i64 S.now.roots.r0, .int .i64 S.now.roots.r1, .int .i64 S.now.roots.r2, .int .i64 S.now.roots.r3, .int .i64 S.now.roots.r4, .int .i64 S.now.roots.r5, .int .i64 S.now.roots.r6, .int .i64 S.now.roots.r7,
    .int .i64 S.was.next, M.vw, .int .i64 S.was.roots.r0, .int .i64 S.was.roots.r1, .int .i64 S.was.roots.r2, .int .i64 S.was.roots.r3, .int .i64 S.was.roots.r4, .int .i64 S.was.roots.r5, .int .i64 S.was.roots.r6, .int .i64 S.was.roots.r7,
    .pointer (some ⟨M.b, 0, none⟩), logV M.G, .int .i64 S.epoch, .int .i64 S.slots, .int .i64 S.first, .map (some M.ml), .map (some M.mn), .map (some M.ms), .bool S.moved, .bool S.dead]
structure PoolAt (w : World) (M : Mem) (S : Pl) (D : Dsk) : Prop where
  blk : Blk w M.p (plCells M S) 124
  disk : DiskAt w M.b M.m M.vl D
  log : LogOpt w M.b M.G S.log
  free : RowI w M.vf S.now.free
  wfree : RowI w M.vw S.was.free
  last : PgMap w M.ml D.sectors S.last
  pend : PgMap w M.mn D.sectors S.pend
  seen : PgMap w M.ms D.sectors S.seen
  apart : M.own.Nodup
section
variable {T : List Nat} {w w' : World} {M : Mem} {S : Pl} {D : Dsk} {v : Value} {l : List Nat}
theorem RowI.lt (h : RowI w v l) {g : Nat} (hg : v.ownBlock = some g) : g < w.heap.size := (World.ownsRow.lt h g hg).2
theorem RowI.kind (h : RowI w v l) {g : Nat} (hg : v.ownBlock = some g) : ∃ cs, w.heap[g]? = some (.cells cs 3 (0, 0)) := by
  rcases h.2 with ⟨rfl, _⟩ | ⟨g', cap, cur, rfl, _, hh, _⟩
  · simp [Value.ownBlock] at hg
  · simp [Value.ownBlock] at hg; subst hg; exact ⟨_, hh⟩
theorem RowI.turn (h : RowI w v l) (k : Turn T w w') (hg : ∀ g, v.ownBlock = some g → g ∉ T) : RowI w' v l := by
  refine ⟨h.1, ?_⟩
  rcases h.2 with h | ⟨g, cap, cur, rfl, hb, hh, r⟩
  · exact .inl h
  · exact .inr ⟨g, cap, cur, rfl, hb, (k.block g (lt_of_block hh) (hg g rfl)).trans hh, r⟩
theorem RowI.form (h : RowI w v l) : ∃ A c, v = .slice A l.length c ∧ l.length ≤ c ∧ ∀ k (hk : k < l.length), ∃ g, A = some ⟨g, 0, none⟩ ∧ g < w.heap.size ∧ w.cell? ⟨g, k, none⟩ = some (.int .i64 (l[k] : Nat)) := by
  rcases h.2 with ⟨rfl, h0⟩ | ⟨g, cap, cur, rfl, hb, hh, hn, _⟩
  · exact ⟨none, 0, by rw [h0], by omega, fun k hk => by omega⟩
  · refine ⟨_, _, rfl, hn, fun k hk => ⟨g, rfl, lt_of_block hh, ?_⟩⟩
    rw [World.ownsRow.cellAt h k (by omega)]
    simp [hk]
theorem Blk.turn {b : Nat} {c : Array Value} {t : TypeId} (h : Blk w b c t) (k : Turn T w w') (hb : b ∉ T) : Blk w' b c t := (k.block b h.lt hb).trans h
theorem LogOpt.turn {b : Nat} {G : Option Nat} {L : Option Lg} (h : LogOpt w b G L) (k : Turn T w w') (hb : ∀ g, G = some g → g ∉ T) : LogOpt w' b G L := by
  match G, L, h with
  | none, none, _ => trivial
  | some g, some L, h => exact ⟨Blk.turn h.1 k (hb g rfl), h.2⟩
theorem mem_mem {k : Nat} : k ∈ M.own ↔ k = M.p ∨ k = M.ml ∨ k = M.mn ∨ k = M.ms ∨ M.G = some k ∨ M.vf.ownBlock = some k ∨ M.vw.ownBlock = some k ∨ k ∈ own M.b M.m M.vl := by
  simp [Mem.own, Option.mem_toList]
theorem PoolAt.lt (h : PoolAt w M S D) : ∀ k ∈ M.own, k < w.heap.size := by
  intro k hk
  rcases mem_mem.1 hk with e | e | e | e | e | e | e | e
  · rw [e]; exact h.blk.lt
  · rw [e]; exact h.last.lt
  · rw [e]; exact h.pend.lt
  · rw [e]; exact h.seen.lt
  · have hl := h.log
    rw [e] at hl
    cases hL : S.log with
    | none => rw [hL] at hl; exact hl.elim
    | some L => rw [hL] at hl; exact Blk.lt hl.1
  · exact h.free.lt e
  · exact h.wfree.lt e
  · exact h.disk.lt k e
theorem PoolAt.nobytes (h : PoolAt w M S D) : NoBytes w M.own := by
  intro k hk cs fz e0
  rcases mem_mem.1 hk with e | e | e | e | e | e | e | e
  · have hb := h.blk
    unfold Blk at hb
    rw [← e, e0] at hb; cases hb
  · obtain ⟨es, cl, hb⟩ := h.last.kind
    rw [← e, e0] at hb; cases hb
  · obtain ⟨es, cl, hb⟩ := h.pend.kind
    rw [← e, e0] at hb; cases hb
  · obtain ⟨es, cl, hb⟩ := h.seen.kind
    rw [← e, e0] at hb; cases hb
  · have hl := h.log
    rw [e] at hl
    cases hL : S.log with
    | none => rw [hL] at hl; exact hl.elim
    | some L =>
      rw [hL] at hl
      have hb := hl.1
      unfold LogIn Blk at hb
      rw [e0] at hb; cases hb
  · obtain ⟨cs', hb⟩ := h.free.kind e
    rw [e0] at hb; cases hb
  · obtain ⟨cs', hb⟩ := h.wfree.kind e
    rw [e0] at hb; cases hb
  · exact h.disk.nobytes k e cs fz e0
theorem PoolAt.turn (h : PoolAt w M S D) (k : Turn T w w') (hn : NoBytes w T) (hT : ∀ j ∈ M.own, j ∉ T) : PoolAt w' M S D :=
  ⟨h.blk.turn k (hT _ (mem_mem.2 (.inl rfl))), h.disk.turn k hn (fun j hj => hT j (mem_mem.2 (by simp [hj]))), h.log.turn k (fun g e => hT g (mem_mem.2 (by simp [e]))),
    h.free.turn k (fun g e => hT g (mem_mem.2 (by simp [e]))), h.wfree.turn k (fun g e => hT g (mem_mem.2 (by simp [e]))),
    h.last.turn k hn (hT _ (mem_mem.2 (by simp))), h.pend.turn k hn (hT _ (mem_mem.2 (by simp))), h.seen.turn k hn (hT _ (mem_mem.2 (by simp))), h.apart⟩
theorem PoolAt.grew (h : PoolAt w M S D) (k : Below w.heap.size w w') : PoolAt w' M S D := h.turn (Turn.of_below k []) (by intro _ h; simp at h) (by simp)
theorem PoolAt.drew (h : PoolAt w M S D) : PoolAt w.drew M S D := h.grew ⟨rfl, rfl, rfl, Nat.le_refl _, fun _ _ => rfl⟩
/-- The pool's own block alone is written. -/
theorem PoolAt.sets (h : PoolAt w M S D) {S' : Pl} (k : Turn [M.p] w w') (hb : Blk w' M.p (plCells M S') 124) (h1 : S'.log = S.log) (h2 : S'.now.free = S.now.free) (h3 : S'.was.free = S.was.free) (h4 : S'.last = S.last) (h5 : S'.pend = S.pend) (h6 : S'.seen = S.seen) : PoolAt w' M S' D := by
  have hap := h.apart
  have hn : NoBytes w [M.p] := fun j hj => h.nobytes j (mem_mem.2 (.inl (by simpa using hj)))
  have hne : ∀ j, j ∈ M.own.tail → j ∉ [M.p] := by
    intro j hj e
    simp only [List.mem_singleton] at e
    subst e
    exact (List.nodup_cons.1 hap).1 hj
  have hm : ∀ j, (j = M.ml ∨ j = M.mn ∨ j = M.ms ∨ M.G = some j ∨ M.vf.ownBlock = some j ∨ M.vw.ownBlock = some j ∨ j ∈ own M.b M.m M.vl) → j ∉ [M.p] := by
    intro j hj
    refine hne j ?_
    simp [Mem.own, Option.mem_toList]
    exact hj
  exact ⟨hb, h.disk.turn k hn (fun j hj => hm j (by simp [hj])), by rw [h1]; exact h.log.turn k (fun g e => hm g (by simp [e])), by rw [h2]; exact h.free.turn k (fun g e => hm g (by simp [e])), by rw [h3]; exact h.wfree.turn k (fun g e => hm g (by simp [e])),
    by rw [h4]; exact h.last.turn k hn (hm _ (by simp)), by rw [h5]; exact h.pend.turn k hn (hm _ (by simp)), by rw [h6]; exact h.seen.turn k hn (hm _ (by simp)), hap⟩
end
end Go.Proofs.YtfmdmfiljplkoaaGreat
namespace Go.Proofs.YtfmdmfiljplkoaaGreat
open Go.RowKit Go.Maps
set_option maxRecDepth 8000
variable {ι : Type} [Bar ι]
section
variable {w : World} {M : Mem} {S : Pl} {D : Dsk}
theorem PoolAt.c_next (h : PoolAt w M S D) : w.cell? ⟨M.p, 0, none⟩ = some (.int .i64 S.now.next) := h.blk.cell 0
theorem PoolAt.c_free (h : PoolAt w M S D) : w.cell? ⟨M.p, 1, none⟩ = some M.vf := h.blk.cell 1
theorem PoolAt.c_disk (h : PoolAt w M S D) : w.cell? ⟨M.p, 20, none⟩ = some (.pointer (some ⟨M.b, 0, none⟩)) := h.blk.cell 20
theorem PoolAt.c_log (h : PoolAt w M S D) : w.cell? ⟨M.p, 21, none⟩ = some (logV M.G) := h.blk.cell 21
theorem PoolAt.c_epoch (h : PoolAt w M S D) : w.cell? ⟨M.p, 22, none⟩ = some (.int .i64 S.epoch) := h.blk.cell 22
theorem PoolAt.c_slots (h : PoolAt w M S D) : w.cell? ⟨M.p, 23, none⟩ = some (.int .i64 S.slots) := h.blk.cell 23
theorem PoolAt.c_first (h : PoolAt w M S D) : w.cell? ⟨M.p, 24, none⟩ = some (.int .i64 S.first) := h.blk.cell 24
theorem PoolAt.c_last (h : PoolAt w M S D) : w.cell? ⟨M.p, 25, none⟩ = some (.map (some M.ml)) := h.blk.cell 25
theorem PoolAt.c_pend (h : PoolAt w M S D) : w.cell? ⟨M.p, 26, none⟩ = some (.map (some M.mn)) := h.blk.cell 26
theorem PoolAt.c_seen (h : PoolAt w M S D) : w.cell? ⟨M.p, 27, none⟩ = some (.map (some M.ms)) := h.blk.cell 27
theorem PoolAt.c_moved (h : PoolAt w M S D) : w.cell? ⟨M.p, 28, none⟩ = some (.bool S.moved) := h.blk.cell 28
theorem PoolAt.c_dead (h : PoolAt w M S D) : w.cell? ⟨M.p, 29, none⟩ = some (.bool S.dead) := h.blk.cell 29
theorem PoolAt.c_fz (h : PoolAt w M S D) (k : Nat) : w.frozen? ⟨M.p, k, none⟩ = false := h.blk.free k
theorem Room_any' (h : PoolAt w M S D) : Calls Tryz.prog 124 #[.pointer (some ⟨M.p, 0, none⟩)] w fun e w' => e = .returned (.int .i64 (lroom D.size)) ∧ w' = w := by
  have HS := Lib.hid (Size_any h.disk)
  have HR := Lib.hid (LRoom_any (D.size : Int) w)
  have hc := h.c_disk
  clear h
  go_enter Tryz.func124, Tryz.ntmps124
  go_wp2_with fail
  refine HS.out.mono ?_
  rintro r _ ⟨rfl, rfl⟩
  go_wp2_with fail
  refine HR.out.mono ?_
  rintro r _ ⟨rfl, rfl⟩
  go_wp2
  go_ret
  exact ⟨rfl, rfl⟩
theorem Pages_any (h : PoolAt w M S D) (hf : S.first ≤ D.sectors) : Calls Tryz.prog 158 #[.pointer (some ⟨M.p, 0, none⟩)] w fun e w' => e = .returned (.int .i64 ((D.sectors : Int) - S.first)) ∧ ∃ q, w' = w.drewN q := by
  have HS := Lib.hid (fun n => Sectors_any (w := w.drewN n) (h.disk.grew (below_drewN w n)))
  have hc := h.c_disk
  have hc2 := h.c_first
  have hs2 := h.disk.ok.s2
  have b1 : (S.first : Int) ≤ 1048576 := by omega
  have b2 : (D.sectors : Int) ≤ 1048576 := by omega
  have e1 : IntKind.i64.wrap ((D.sectors : Int) - S.first) = (D.sectors : Int) - S.first := by rw [IntKind.wrap_i64]; omega
  clear h hf
  go_enter Tryz.func158, Tryz.ntmps158
  go_wp2_with fail
  go_quiet ((go_at_call 107; exact Calls.quiet_of_same (HS.out _)))
  go_wp2
  go_ret
  exact ⟨rfl, _, rfl⟩
theorem ready_pool (h : PoolAt w M S D) : Calls Tryz.prog 64 #[.pointer (some ⟨M.p, 0, none⟩)] w fun e w' => e = .returned (.int .i64 (if S.dead then 21 else 0)) ∧ w' = w := by
  have hc := h.c_dead
  clear h
  cases hd : S.dead with
  | false =>
    rw [hd] at hc
    clear hd
    go_enter Tryz.func64, Tryz.ntmps64
    go_wp2
    go_ret
    exact ⟨rfl, rfl⟩
  | true =>
    rw [hd] at hc
    clear hd
    go_enter Tryz.func64, Tryz.ntmps64
    go_wp2
    go_ret
    exact ⟨rfl, rfl⟩
theorem last_cases (l : List Nat) : l.length = 0 ∧ l.getLast?.getD 0 = 0 ∨ ∃ k, l.length = k + 1 ∧ ∃ hk : k < l.length, l.getLast?.getD 0 = l[k] := by
  rcases List.eq_nil_or_concat l with rfl | ⟨i, x, rfl⟩
  · left; exact ⟨rfl, rfl⟩
  · right; exact ⟨i.length, by simp, by simp, by simp⟩
theorem top_any (h : PoolAt w M S D) (hl : (S.now.free.length : Int) ≤ 1048576) : Calls Tryz.prog 115 #[.pointer (some ⟨M.p, 0, none⟩)] w fun e w' => e = .returned (.int .i64 (S.now.top : Nat)) ∧ w' = w := by
  have hc := h.c_free
  have hr := h.free
  clear h
  obtain ⟨A, c, hv, hcap, hcell⟩ := hr.form
  rw [hv] at hc
  obtain ⟨n, hn⟩ : ∃ n, n = S.now.free.length := ⟨_, rfl⟩
  have htop : n = 0 ∧ S.now.top = 0 ∨ ∃ k, n = k + 1 ∧ ∃ hk : k < S.now.free.length, S.now.top = S.now.free[k] := by
    rcases last_cases S.now.free with ⟨h1, h2⟩ | ⟨k, h1, h2⟩
    · exact .inl ⟨hn.trans h1, h2⟩
    · exact .inr ⟨k, hn.trans h1, h2⟩
  rw [← hn] at hc hl
  obtain ⟨T, hT⟩ : ∃ T, T = S.now.top := ⟨_, rfl⟩
  rw [← hT] at htop ⊢
  rcases htop with ⟨h0, h1⟩ | ⟨k, hk, hk2, h1⟩
  · subst h0
    subst h1
    clear hcell hr hv hn hT hcap
    go_enter Tryz.func115, Tryz.ntmps115
    go_wp2
    go_ret
    exact ⟨rfl, rfl⟩
  · obtain ⟨g, hA, hg, hcl⟩ := hcell k hk2
    rw [← h1] at hcl
    subst hA
    have e1 : (n : Int) - 1 = (k : Int) := by omega
    have e2 : (0 : Int) < (n : Int) := by omega
    have e3 : k < n := by omega
    have e4 : decide (0 < n) = true := by simp; omega
    clear hcell hr hv hn hT hcap h1 hk hk2
    go_enter Tryz.func115, Tryz.ntmps115
    go_wp2
    go_ret
    exact ⟨rfl, rfl⟩
end
end Go.Proofs.YtfmdmfiljplkoaaGreat
namespace Go.Proofs.YtfmdmfiljplkoaaGreat
open Go.RowKit Go.Maps
set_option maxRecDepth 8000
variable {ι : Type} [Bar ι]
set_option maxHeartbeats 2000000 in
theorem put4_any (w : World) (base : Nat) (v : Value) (l : List Nat) (n : Int) (h : Own w base v l) (hbase : base ≤ w.heap.size) (hn : l.length ≤ 900000) :
    Calls Tryz.prog 114 #[v, .int .i64 n] w fun e w' => ∃ v', e = .returned v' ∧ Own w' base v' (l ++ lebZ n 4) ∧ Below base w w' := by
  have H := Lib.hid h
  clear h
  go_enter Tryz.func114, Tryz.ntmps114
  go_wp2
  go_loopw [0, 6] (fun x i wr => ∃ k : Nat, k ≤ 4 ∧ i = .int .i64 k ∧ Hid (Own wr base x (l ++ lebZ n k)) ∧ Hid (Below base w wr)) (fun _ i _ => 4 - (intOf i).toNat)
  case atStart => exact ⟨0, by omega, rfl, Lib.hid (by simpa [lebZ] using H.out), Lib.hid (Below.refl _ _)⟩
  case round =>
    obtain ⟨k, hk, rfl, HO, HB⟩ := hrel
    by_cases hlt : k < 4
    · have hq0 : 0 ≤ n / 2 ^ (8 * k) % 256 := Int.emod_nonneg _ (by omega)
      have hq1 : n / 2 ^ (8 * k) % 256 < 256 := Int.emod_lt_of_pos _ (by omega)
      obtain ⟨v', w', hrun, ho, hb⟩ := run_push 108 HO.out (n / 2 ^ (8 * k) % 256) hq0 hq1 (Nat.le_trans hbase HB.out.size) (by simp; omega)
      have HRUN := Lib.hid hrun
      have HO' := Lib.hid ho
      have HB' := Lib.hid (HB.out.trans hb)
      clear hrun ho hb
      go_wp2_with (at_builtin; refine Lib.wpList_append_run _ rfl (.tmp 9) (.tmp 15) 108 108 rfl _ _ rfl rfl v' w' HRUN.out ?_)
      go_round
      case rel => exact ⟨k + 1, by omega, by simp, Lib.hid (by rw [lebZ_succ, ← List.append_assoc]; exact HO'.out), HB'⟩
      case measure => simp [intOf]; omega
    · obtain rfl : k = 4 := by omega
      go_wp2
      go_ret
      exact ⟨_, rfl, HO.out, HB.out⟩
/-- The number in the i-th four bytes. -/
def get4 (l : List Nat) (i : Nat) : Nat := num ((l.drop (4 * i)).take 4)
section
variable {w : World} {M : Mem} {S : Pl} {D : Dsk}
end
end Go.Proofs.YtfmdmfiljplkoaaGreat
namespace Go.Proofs.YtfmdmfiljplkoaaGreat
open Go.RowKit Go.Maps
set_option maxRecDepth 8000
variable {ι : Type} [Bar ι]
/-- What a call turns of a pool, and where the pool lies behind it. -/
def PWent (w w' : World) (M M' : Mem) : Prop := Turn M.own w w' ∧ (∀ g ∈ M'.own, g ∈ M.own ∨ w.heap.size ≤ g) ∧ (M'.p, M'.b, M'.m) = (M.p, M.b, M.m)
section
variable {w w' w1 w2 : World} {M M' M1 M2 : Mem} {S S' : Pl} {D D' : Dsk}
theorem PWent.p_eq (h : PWent w w' M M') : M'.p = M.p := congrArg (fun x : Nat × Nat × Nat => x.1) h.2.2
theorem PWent.b_eq (h : PWent w w' M M') : M'.b = M.b := congrArg (fun x : Nat × Nat × Nat => x.2.1) h.2.2
theorem PWent.m_eq (h : PWent w w' M M') : M'.m = M.m := congrArg (fun x : Nat × Nat × Nat => x.2.2) h.2.2
theorem PWent.trans (h : PWent w w1 M M1) (k : PWent w1 w2 M1 M2) : PWent w w2 M M2 := by
  refine ⟨h.1.trans k.1 fun j hj hl => ?_, fun g hg => ?_, k.2.2.trans h.2.2⟩
  · rcases h.2.1 j hj with h1 | h1
    · exact h1
    · omega
  · rcases k.2.1 g hg with h1 | h1
    · exact h.2.1 g h1
    · have := h.1.size; exact .inr (by omega)
theorem PWent.of_below (k : Below w.heap.size w w') : PWent w w' M M := ⟨Turn.of_below k _, fun _ h => .inl h, rfl⟩
theorem PWent.tail (h : PWent w w1 M M1) (k : Below w1.heap.size w1 w2) : PWent w w2 M M1 := h.trans (.of_below k)
theorem PWent.of_turn {T : List Nat} (k : Turn T w w') (hT : ∀ j ∈ T, j ∈ M.own) : PWent w w' M M := ⟨k.mono fun j hj _ => hT j hj, fun _ h => .inl h, rfl⟩
theorem swap_nodup {o o' : Option Nat} {R : List Nat} (h : (o.toList ++ R).Nodup) (h' : ∀ g, o' = some g → o = some g ∨ g ∉ R) : (o'.toList ++ R).Nodup := by
  have hR : R.Nodup := (List.nodup_append.1 h).2.1
  cases o' with
  | none => simpa using hR
  | some g =>
    rcases h' g rfl with h1 | h1
    · rw [h1] at h; exact h
    · simpa using ⟨h1, hR⟩
theorem Mem.perm_vf (M : Mem) (v : Value) : ({M with vf := v} : Mem).own.Perm (v.ownBlock.toList ++ (M.p :: M.ml :: M.mn :: M.ms :: (M.G.toList ++ M.vw.ownBlock.toList ++ YtfmdmfiljplkoaaGreat.own M.b M.m M.vl))) := by
  rw [List.perm_iff_count]
  intro a
  simp only [Mem.own, List.count_cons, List.count_append]
  omega
theorem Mem.perm_G (M : Mem) (G : Option Nat) : ({M with G := G} : Mem).own.Perm (G.toList ++ (M.p :: M.ml :: M.mn :: M.ms :: (M.vf.ownBlock.toList ++ M.vw.ownBlock.toList ++ YtfmdmfiljplkoaaGreat.own M.b M.m M.vl))) := by
  rw [List.perm_iff_count]
  intro a
  simp only [Mem.own, List.count_cons, List.count_append]
  omega
theorem Mem.nodup_vf (h : M.own.Nodup) {v : Value} (hv : ∀ g, v.ownBlock = some g → M.vf.ownBlock = some g ∨ g ∉ M.own) : ({M with vf := v} : Mem).own.Nodup := by
  refine (Mem.perm_vf M v).nodup_iff.2 (swap_nodup (o := M.vf.ownBlock) ((Mem.perm_vf M M.vf).nodup_iff.1 h) fun g hg => (hv g hg).imp id fun hn hm => hn ?_)
  exact (Mem.perm_vf M M.vf).mem_iff.2 (List.mem_append.2 (.inr hm))
theorem Mem.nodup_G (h : M.own.Nodup) {G : Option Nat} (hv : ∀ g, G = some g → M.G = some g ∨ g ∉ M.own) : ({M with G := G} : Mem).own.Nodup := by
  refine (Mem.perm_G M G).nodup_iff.2 (swap_nodup (o := M.G) ((Mem.perm_G M M.G).nodup_iff.1 h) fun g hg => (hv g hg).imp id fun hn hm => hn ?_)
  exact (Mem.perm_G M M.G).mem_iff.2 (List.mem_append.2 (.inr hm))
/-- One cell of the pool's own block is written. -/
theorem PoolAt.cell_set (h : PoolAt w M S D) (i : Nat) (v : Value) {S' : Pl} (hc : (plCells M S).setIfInBounds i v = plCells M S') (h1 : S'.log = S.log) (h2 : S'.now.free = S.now.free) (h3 : S'.was.free = S.was.free) (h4 : S'.last = S.last) (h5 : S'.pend = S.pend) (h6 : S'.seen = S.seen) :
    PoolAt (w.setCell ⟨M.p, i, none⟩ v) M S' D ∧ PWent w (w.setCell ⟨M.p, i, none⟩ v) M M := by
  have ht : Turn [M.p] w (w.setCell ⟨M.p, i, none⟩ v) := (Turn.refl [M.p] w).set (.inl (by simp)) v
  refine ⟨h.sets ht ?_ h1 h2 h3 h4 h5 h6, PWent.of_turn ht (by intro j hj; simp at hj; subst hj; exact mem_mem.2 (.inl rfl))⟩
  rw [← hc]
  exact h.blk.set i v
theorem PoolAt.set_moved (h : PoolAt w M S D) (z : Bool) : PoolAt (w.setCell ⟨M.p, 28, none⟩ (.bool z)) M { S with moved := z } D ∧ PWent w (w.setCell ⟨M.p, 28, none⟩ (.bool z)) M M :=
  h.cell_set 28 _ rfl rfl rfl rfl rfl rfl rfl
theorem PoolAt.set_next (h : PoolAt w M S D) (n : Nat) : PoolAt (w.setCell ⟨M.p, 0, none⟩ (.int .i64 n)) M { S with now := { S.now with next := n } } D ∧ PWent w (w.setCell ⟨M.p, 0, none⟩ (.int .i64 n)) M M :=
  h.cell_set 0 _ rfl rfl rfl rfl rfl rfl rfl
theorem PoolAt.set_epoch (h : PoolAt w M S D) (n : Nat) : PoolAt (w.setCell ⟨M.p, 22, none⟩ (.int .i64 n)) M { S with epoch := n } D ∧ PWent w (w.setCell ⟨M.p, 22, none⟩ (.int .i64 n)) M M :=
  h.cell_set 22 _ rfl rfl rfl rfl rfl rfl rfl
/-- The row of free pages is another one. -/
theorem PoolAt.set_free (h : PoolAt w M S D) {v : Value} {l : List Nat} (hr : RowI w v l) (hv : ∀ g, v.ownBlock = some g → M.vf.ownBlock = some g ∨ g ∉ M.own) :
    PoolAt (w.setCell ⟨M.p, 1, none⟩ v) { M with vf := v } { S with now := { S.now with free := l } } D ∧ Turn M.own w (w.setCell ⟨M.p, 1, none⟩ v) := by
  have ht : Turn [M.p] w (w.setCell ⟨M.p, 1, none⟩ v) := (Turn.refl [M.p] w).set (.inl (by simp)) v
  have hn : NoBytes w [M.p] := fun j hj => h.nobytes j (mem_mem.2 (.inl (by simpa using hj)))
  have hap := h.apart
  have hm : ∀ j, (j = M.ml ∨ j = M.mn ∨ j = M.ms ∨ M.G = some j ∨ M.vf.ownBlock = some j ∨ M.vw.ownBlock = some j ∨ j ∈ own M.b M.m M.vl) → j ∉ [M.p] := by
    intro j hj e
    simp only [List.mem_singleton] at e
    subst e
    refine (List.nodup_cons.1 hap).1 ?_
    simp [Option.mem_toList]
    exact hj
  refine ⟨⟨?_, h.disk.turn ht hn (fun j hj => hm j (by simp [hj])), h.log.turn ht (fun g e => hm g (by simp [e])), hr.turn ht (fun g e => ?_), h.wfree.turn ht (fun g e => hm g (by simp [e])), h.last.turn ht hn (hm _ (by simp)), h.pend.turn ht hn (hm _ (by simp)), h.seen.turn ht hn (hm _ (by simp)), Mem.nodup_vf hap hv⟩, ht.mono (by intro j hj _; simp at hj; subst hj; exact mem_mem.2 (.inl rfl))⟩
  · exact h.blk.set 1 v
  · rcases hv g e with h1 | h1
    · exact hm g (by simp [h1])
    · intro h2; simp at h2; subst h2; exact h1 (mem_mem.2 (.inl rfl))
/-- Is this number in the row? -/
theorem Contains_row {v : Value} {l : List Nat} (h : RowI w v l) (hl : l.length ≤ 1048576) (x : Int) : Calls Tryz.prog 159 #[v, .int .i64 x] w fun e w' => e = .returned (.bool ((l.map fun n : Nat => (n : Int)).contains x)) ∧ w' = w := by
  rcases h.2 with ⟨rfl, h0⟩ | ⟨g, cap, cur, rfl, hb, hh, hn, _⟩
  · obtain rfl := List.eq_nil_of_length_eq_zero h0
    exact Tryz.slices_Contains_int_empty none 0 x w
  · have := Tryz.slices_Contains_int g 0 l.length cap (l.map fun n : Nat => (n : Int)) x w (by simp) (by omega) (fun j hj => by
      have hj' : j < l.length := by simpa using hj
      rw [Nat.zero_add, World.ownsRow.cellAt h j (by simpa using hj')]
      simp [hj'])
    rw [List.take_of_length_le (by simp)] at this
    exact this
end
/-- Is this page taken? -/
def Sta.taken (s : Sta) (page : Int) : Bool := decide (0 < page) && decide (page < s.next) && !(s.free.map fun n : Nat => (n : Int)).contains page
section
variable {w : World} {M : Mem} {S : Pl} {D : Dsk}
theorem taken_any (h : PoolAt w M S D) (hl : S.now.free.length ≤ 1048576) (page : Int) : Calls Tryz.prog 105 #[.pointer (some ⟨M.p, 0, none⟩), .int .i64 page] w fun e w' => e = .returned (.bool (S.now.taken page)) ∧ w' = w := by
  have HC := Lib.hid (Contains_row h.free hl page)
  have hc := h.c_next
  have hc2 := h.c_free
  clear h hl
  unfold Sta.taken
  generalize ((S.now.free.map fun n : Nat => (n : Int)).contains page) = B at *
  generalize S.now.next = N at *
  by_cases h1 : 0 < page
  · by_cases h2 : page < N
    · have e1 : decide (0 < page) = true := by simp [h1]
      have e2 : decide (page < (N : Int)) = true := by simp [h2]
      rw [e1, e2]
      go_enter Tryz.func105, Tryz.ntmps105
      go_wp2_with fail
      refine HC.out.mono ?_
      rintro r _ ⟨rfl, rfl⟩
      go_wp2
      go_ret
      exact ⟨by simp, rfl⟩
    · have e1 : decide (0 < page) = true := by simp [h1]
      have e2 : decide (page < (N : Int)) = false := by simp; omega
      rw [e1, e2]
      go_enter Tryz.func105, Tryz.ntmps105
      go_wp2
      go_ret
      exact ⟨by simp, rfl⟩
  · have e1 : decide (0 < page) = false := by simp; omega
    rw [e1]
    go_enter Tryz.func105, Tryz.ntmps105
    go_wp2
    go_ret
    exact ⟨by simp, rfl⟩
end
end Go.Proofs.YtfmdmfiljplkoaaGreat
namespace Go.Proofs.YtfmdmfiljplkoaaGreat
open Go.RowKit Go.Maps
set_option maxRecDepth 8000
variable {ι : Type} [Bar ι]
theorem Clone_row {w : World} {v : Value} {l : List Nat} (h : RowI w v l) (hl : l.length ≤ 1048576) : Calls Tryz.prog 130 #[v] w fun e w' => ∃ v', e = .returned v' ∧ RowI w' v' l ∧ (∀ g, v'.ownBlock = some g → w.heap.size ≤ g) ∧ Below w.heap.size w w' := by
  rcases h.2 with ⟨rfl, h0⟩ | ⟨g, cap, cur, rfl, hb, hh, hn, _⟩
  · refine (Tryz.slices_Clone_int_nil 0 0 w).mono ?_
    rintro e _ ⟨rfl, rfl⟩
    exact ⟨_, rfl, h, by simp [Value.ownBlock], Below.refl _ _⟩
  · refine (Tryz.slices_Clone_int g 0 l.length cap (l.map fun n : Nat => (n : Int)) w (by simp) (by omega) (fun j hj => by
      have hj' : j < l.length := by simpa using hj
      rw [Nat.zero_add, World.ownsRow.cellAt h j (by simpa using hj')]
      simp [hj'])).mono ?_
    rintro e w' ⟨v', rfl, ho, _, hb⟩
    rw [List.take_of_length_le (by simp), List.map_map] at ho
    exact ⟨v', rfl, Own.base_ (Nat.zero_le _) ho, fun g hg => (World.ownsRow.lt ho g hg).1, hb⟩
def Sta.val (s : Sta) (v : Value) : Value := .agg #[.int .i64 s.next, v, .int .i64 s.roots.r0, .int .i64 s.roots.r1, .int .i64 s.roots.r2, .int .i64 s.roots.r3, .int .i64 s.roots.r4, .int .i64 s.roots.r5, .int .i64 s.roots.r6, .int .i64 s.roots.r7]
theorem Blk.ten {w : World} {b t : Nat} {x0 x1 x2 x3 x4 x5 x6 x7 x8 x9 : Value} (h : Blk w b #[x0, x1, x2, x3, x4, x5, x6, x7, x8, x9] t) :
    w.cell? ⟨b, 0, none⟩ = some x0 ∧ w.cell? ⟨b, 1, none⟩ = some x1 ∧ w.cell? ⟨b, 2, none⟩ = some x2 ∧ w.cell? ⟨b, 3, none⟩ = some x3 ∧ w.cell? ⟨b, 4, none⟩ = some x4 ∧ w.cell? ⟨b, 5, none⟩ = some x5 ∧ w.cell? ⟨b, 6, none⟩ = some x6 ∧ w.cell? ⟨b, 7, none⟩ = some x7 ∧ w.cell? ⟨b, 8, none⟩ = some x8 ∧ w.cell? ⟨b, 9, none⟩ = some x9 :=
  ⟨h.cell 0, h.cell 1, h.cell 2, h.cell 3, h.cell 4, h.cell 5, h.cell 6, h.cell 7, h.cell 8, h.cell 9⟩
theorem Blk.fz {w : World} {b t : Nat} {c : Array Value} (h : Blk w b c t) : w.frozen? ⟨b, 0, none⟩ = false ∧ w.frozen? ⟨b, 1, none⟩ = false ∧ w.frozen? ⟨b, 2, none⟩ = false ∧ w.frozen? ⟨b, 3, none⟩ = false ∧ w.frozen? ⟨b, 4, none⟩ = false ∧ w.frozen? ⟨b, 5, none⟩ = false ∧ w.frozen? ⟨b, 6, none⟩ = false ∧ w.frozen? ⟨b, 7, none⟩ = false ∧ w.frozen? ⟨b, 8, none⟩ = false ∧ w.frozen? ⟨b, 9, none⟩ = false :=
  ⟨h.free 0, h.free 1, h.free 2, h.free 3, h.free 4, h.free 5, h.free 6, h.free 7, h.free 8, h.free 9⟩
theorem clone_any {w : World} {v : Value} {s : Sta} (h : RowI w v s.free) (hl : s.free.length ≤ 1048576) : Calls Tryz.prog 74 #[s.val v] w fun e w' => ∃ v', e = .returned (s.val v') ∧ RowI w' v' s.free ∧ (∀ g, v'.ownBlock = some g → w.heap.size ≤ g) ∧ Below w.heap.size w w' := by
  have HC := Lib.hid (fun w' (k : Below w.heap.size w w') => Clone_row (w := w') (h.turn (Turn.of_below k []) (by simp)) hl)
  clear h hl
  unfold Sta.val
  obtain ⟨n, l, ⟨r0, r1, r2, r3, r4, r5, r6, r7⟩⟩ := s
  dsimp only at *
  go_enter Tryz.func74, Tryz.ntmps74
  go_wp2_with fail
  have k1 : Below w.heap.size w (w.alloc (.cells #[.int .i64 n, v, .int .i64 r0, .int .i64 r1, .int .i64 r2, .int .i64 r3, .int .i64 r4, .int .i64 r5, .int .i64 r6, .int .i64 r7] 121)) := (Below.refl _ w).alloc (Nat.le_refl _) _
  have A1 := Blk.new w #[.int .i64 n, v, .int .i64 r0, .int .i64 r1, .int .i64 r2, .int .i64 r3, .int .i64 r4, .int .i64 r5, .int .i64 r6, .int .i64 r7] 121
  have k2 := k1.alloc k1.size (.cells #[.int .i64 0, .slice none 0 0, .int .i64 0, .int .i64 0, .int .i64 0, .int .i64 0, .int .i64 0, .int .i64 0, .int .i64 0, .int .i64 0] 121)
  have A2 := A1.alloc (.cells #[.int .i64 0, .slice none 0 0, .int .i64 0, .int .i64 0, .int .i64 0, .int .i64 0, .int .i64 0, .int .i64 0, .int .i64 0, .int .i64 0] 121)
  have B2 := Blk.new' (w.alloc (.cells #[.int .i64 n, v, .int .i64 r0, .int .i64 r1, .int .i64 r2, .int .i64 r3, .int .i64 r4, .int .i64 r5, .int .i64 r6, .int .i64 r7] 121)) #[.int .i64 0, .slice none 0 0, .int .i64 0, .int .i64 0, .int .i64 0, .int .i64 0, .int .i64 0, .int .i64 0, .int .i64 0, .int .i64 0] 121 (b := w.heap.size + 1) (by simp)
  refine (HC.out _ k2).mono ?_
  rintro e w2 ⟨v', rfl, hr, hf, hb⟩
  have A3 := A2.grew hb
  have B3 := B2.grew hb
  have k3 := k2.trans (hb.mono k2.size)
  have hf' : ∀ g, v'.ownBlock = some g → w.heap.size ≤ g ∧ g ≠ w.heap.size ∧ g ≠ w.heap.size + 1 := fun g hg => by
    have := hf g hg
    simp at this
    omega
  have HF := Lib.hid hf'
  have HK := Lib.hid k3
  obtain ⟨V, hV⟩ : ∃ V, V = v' := ⟨_, rfl⟩
  rw [← hV] at hr HF
  obtain ⟨X, cx, e, _⟩ := hr.form
  have HR := Lib.hid hr
  obtain rfl : v' = .slice X l.length cx := hV.symm.trans e
  have HV := Lib.hid hV
  clear hV e
  obtain ⟨a0, a1, a2, a3, a4, a5, a6, a7, a8, a9⟩ := A3.ten
  obtain ⟨b0, b1, b2, b3, b4, b5, b6, b7, b8, b9⟩ := B3.ten
  obtain ⟨f0, f1, f2, f3, f4, f5, f6, f7, f8, f9⟩ := A3.fz
  obtain ⟨g0, g1, g2, g3, g4, g5, g6, g7, g8, g9⟩ := B3.fz
  clear k1 A1 k2 A2 B2 hb hr hf hf' A3 B3 k3 HC
  go_wp2
  refine bodyPost_ret (v := .agg #[.int .i64 n, .slice X l.length cx, .int .i64 r0, .int .i64 r1, .int .i64 r2, .int .i64 r3, .int .i64 r4, .int .i64 r5, .int .i64 r6, .int .i64 r7]) ?_ rfl ⟨V, by rw [HV.out], ?_, fun g hg => (HF.out g hg).1, ?_⟩
  · simp [results, Tryz.results74, go_sem, b0, b1, b2, b3, b4, b5, b6, b7, b8, b9]
  · refine RowI.turn (T := [w.heap.size, w.heap.size + 1]) HR.out ?_ (fun g hg hm => ?_)
    · repeat (refine Turn.set ?_ (.inl (by simp)) _)
      exact Turn.refl _ _
    · have := HF.out g hg
      simp at hm
      omega
  · have := HK.out
    go_grown
/-! ### a load with zeros behind it -/
def Dsk.rm (D : Dsk) : Nat := (lroom D.size).toNat
theorem lroom_rm (D : Dsk) : lroom D.size = (D.rm : Nat) := by
  unfold Dsk.rm
  have : 0 ≤ lroom D.size := by unfold lroom; omega
  omega
theorem rm_le (D : Dsk) : D.rm ≤ 4051 := by
  have := lroom_rm D
  have h := room_le (D.size : Int)
  unfold lroom at this
  omega
def widen (r : Nat) (l : List Nat) : List Nat := l ++ List.replicate (r - l.length) 0
theorem widen_length {r : Nat} {l : List Nat} (h : l.length ≤ r) : (widen r l).length = r := by simp [widen]; omega
theorem BClone_any {w : World} {A : Option Addr} {n c : Nat} {l : List Nat} (hn : l.length = n) (hr : Rd w w.heap.size A l) (hl : n ≤ 900000) :
    Calls Tryz.prog 123 #[.slice A n c] w fun e w' => ∃ v', e = .returned v' ∧ Own w' w.heap.size v' l ∧ Below w.heap.size w w' := by
  cases A with
  | some p => exact Clone_any p l n c w hn hr hl
  | none =>
    have h0 : l = [] := by
      by_cases e : l = []
      · exact e
      · obtain ⟨p, e', _⟩ := hr.2 e
        cases e'
    subst h0
    have kn : ∀ w : World, (binOp .eql 108 (.slice none n c) (.slice none 0 0)).run Tryz.prog w = .ok (.bool true) w := fun w => by
      have := run_equal_slice_nil (P := Tryz.prog) (w := w) 108 5 none n c Tryz.underlying108
      simp only [binOp, Sem.run_bind, this]; rfl
    go_enter Tryz.func123, Tryz.ntmps123
    go_wp2
    go_ret
    exact ⟨_, rfl, Own.none_ _ _, Below.refl _ _⟩
section
variable {w : World} {M : Mem} {S : Pl} {D : Dsk}
theorem wide_any (h : PoolAt w M S D) {A : Option Addr} {n c : Nat} {l : List Nat} (hn : l.length = n) (hr : Rd w w.heap.size A l) (hl : n ≤ D.rm) :
    Calls Tryz.prog 65 #[.pointer (some ⟨M.p, 0, none⟩), .slice A n c] w fun e w' => ∃ v', e = .returned v' ∧ Own w' w.heap.size v' (widen D.rm l) ∧ Below w.heap.size w w' := by
  have hrm := rm_le D
  have HC := Lib.hid (BClone_any (c := c) hn hr (by omega))
  have HR := Lib.hid (fun w' (k : Below w.heap.size w w') => Room_any' (h.grew k))
  have hlr := lroom_rm D
  clear h hr
  rw [hlr] at HR
  unfold widen
  rw [hn]
  generalize D.rm = rm at *
  have e1 : IntKind.i64.wrap ((rm : Int) - n) = ((rm - n : Nat) : Int) := by rw [IntKind.wrap_i64]; omega
  go_enter Tryz.func65, Tryz.ntmps65
  go_wp2_with fail
  refine HC.out.mono ?_
  rintro e w1 ⟨v1, rfl, ho1, hb1⟩
  obtain ⟨v3, w3, hrun, ho3, hb3⟩ := run_app0 108 ho1 (rm - n) hb1.size (by omega)
  have RUN3 := Lib.hid hrun
  have HO3 := Lib.hid ho3
  have HB3 := Lib.hid (hb1.trans hb3)
  have HR1 := Lib.hid (HR.out w1 hb1)
  clear hrun ho1 hb1 ho3 hb3 HR HC
  go_wp2_with fail
  refine HR1.out.mono ?_
  rintro r _ ⟨rfl, rfl⟩
  go_wp2_with (at_builtin; refine Lib.wpList_append_run _ rfl (.tmp 6) (.tmp 11) 108 3 rfl _ _ rfl rfl v3 w3 RUN3.out ?_)
  go_ret
  exact ⟨_, rfl, HO3.out, HB3.out⟩
def Sta.root (s : Sta) (k : Int) : Int := if 0 ≤ k ∧ k < 8 then s.roots.get k.toNat else 0
end
end Go.Proofs.YtfmdmfiljplkoaaGreat
namespace Go.Proofs.YtfmdmfiljplkoaaGreat
open Go.RowKit Go.Maps
set_option maxRecDepth 8000
variable {ι : Type} [Bar ι]
def Pl.setRoot (S : Pl) (k n : Int) : Int × Pl :=
  if S.dead then (21, S) else if k < 0 ∨ 8 ≤ k ∨ n < 0 ∨ 2147483647 < n then (2, S)
  else (0, { S with now := { S.now with roots := S.now.roots.set k.toNat n }, moved := true })
section
variable {w : World} {M : Mem} {S : Pl} {D : Dsk}
end
/-! ### the load of page 0 -/
theorem ixr0 (r0 r1 r2 r3 r4 r5 r6 r7 : Int) (w : World) : (Instr.index 119 (.agg #[.int .i64 r0, .int .i64 r1, .int .i64 r2, .int .i64 r3, .int .i64 r4, .int .i64 r5, .int .i64 r6, .int .i64 r7]) (.int .i64 0)).run Tryz.prog w = .ok (.int .i64 r0) w := by kernel_rfl
theorem ixr1 (r0 r1 r2 r3 r4 r5 r6 r7 : Int) (w : World) : (Instr.index 119 (.agg #[.int .i64 r0, .int .i64 r1, .int .i64 r2, .int .i64 r3, .int .i64 r4, .int .i64 r5, .int .i64 r6, .int .i64 r7]) (.int .i64 1)).run Tryz.prog w = .ok (.int .i64 r1) w := by kernel_rfl
theorem ixr2 (r0 r1 r2 r3 r4 r5 r6 r7 : Int) (w : World) : (Instr.index 119 (.agg #[.int .i64 r0, .int .i64 r1, .int .i64 r2, .int .i64 r3, .int .i64 r4, .int .i64 r5, .int .i64 r6, .int .i64 r7]) (.int .i64 2)).run Tryz.prog w = .ok (.int .i64 r2) w := by kernel_rfl
theorem ixr3 (r0 r1 r2 r3 r4 r5 r6 r7 : Int) (w : World) : (Instr.index 119 (.agg #[.int .i64 r0, .int .i64 r1, .int .i64 r2, .int .i64 r3, .int .i64 r4, .int .i64 r5, .int .i64 r6, .int .i64 r7]) (.int .i64 3)).run Tryz.prog w = .ok (.int .i64 r3) w := by kernel_rfl
theorem ixr4 (r0 r1 r2 r3 r4 r5 r6 r7 : Int) (w : World) : (Instr.index 119 (.agg #[.int .i64 r0, .int .i64 r1, .int .i64 r2, .int .i64 r3, .int .i64 r4, .int .i64 r5, .int .i64 r6, .int .i64 r7]) (.int .i64 4)).run Tryz.prog w = .ok (.int .i64 r4) w := by kernel_rfl
theorem ixr5 (r0 r1 r2 r3 r4 r5 r6 r7 : Int) (w : World) : (Instr.index 119 (.agg #[.int .i64 r0, .int .i64 r1, .int .i64 r2, .int .i64 r3, .int .i64 r4, .int .i64 r5, .int .i64 r6, .int .i64 r7]) (.int .i64 5)).run Tryz.prog w = .ok (.int .i64 r5) w := by kernel_rfl
theorem ixr6 (r0 r1 r2 r3 r4 r5 r6 r7 : Int) (w : World) : (Instr.index 119 (.agg #[.int .i64 r0, .int .i64 r1, .int .i64 r2, .int .i64 r3, .int .i64 r4, .int .i64 r5, .int .i64 r6, .int .i64 r7]) (.int .i64 6)).run Tryz.prog w = .ok (.int .i64 r6) w := by kernel_rfl
theorem ixr7 (r0 r1 r2 r3 r4 r5 r6 r7 : Int) (w : World) : (Instr.index 119 (.agg #[.int .i64 r0, .int .i64 r1, .int .i64 r2, .int .i64 r3, .int .i64 r4, .int .i64 r5, .int .i64 r6, .int .i64 r7]) (.int .i64 7)).run Tryz.prog w = .ok (.int .i64 r7) w := by kernel_rfl
def metaR (r : R8) (k : Nat) : List Nat := ((List.range k).map fun i => lebZ (r.get i) 4).flatten
theorem metaR_succ (r : R8) (k : Nat) : metaR r (k + 1) = metaR r k ++ lebZ (r.get k) 4 := by simp [metaR, List.range_succ]
theorem metaR_length (r : R8) : ∀ k, (metaR r k).length = 4 * k
  | 0 => rfl
  | k + 1 => by rw [metaR_succ, List.length_append, metaR_length r k, lebZ_length]; omega
def Sta.metaL (s : Sta) : List Nat := metaR s.roots 8 ++ lebZ s.next 4 ++ lebZ s.top 4
theorem metaL_length (s : Sta) : s.metaL.length = 40 := by simp [Sta.metaL, metaR_length]
section
variable {w : World} {M : Mem} {S : Pl} {D : Dsk}
set_option maxHeartbeats 4000000 in
theorem meta_any (h : PoolAt w M S D) (hl : (S.now.free.length : Int) ≤ 1048576) : Calls Tryz.prog 59 #[.pointer (some ⟨M.p, 0, none⟩)] w fun e w' => ∃ v', e = .returned v' ∧ Own w' w.heap.size v' S.now.metaL ∧ Below w.heap.size w w' := by
  have HT := Lib.hid (fun w' (k : Below w.heap.size w w') => top_any (h.grew k) hl)
  have HN := Lib.hid (fun w' (k : Below w.heap.size w w') => (h.grew k).c_next)
  have hb := h.blk
  unfold plCells at hb
  have q0 : w.cell? ⟨M.p, 2, none⟩ = some (.int .i64 S.now.roots.r0) := h.blk.cell 2
  have q1 : w.cell? ⟨M.p, 3, none⟩ = some (.int .i64 S.now.roots.r1) := h.blk.cell 3
  have q2 : w.cell? ⟨M.p, 4, none⟩ = some (.int .i64 S.now.roots.r2) := h.blk.cell 4
  have q3 : w.cell? ⟨M.p, 5, none⟩ = some (.int .i64 S.now.roots.r3) := h.blk.cell 5
  have q4 : w.cell? ⟨M.p, 6, none⟩ = some (.int .i64 S.now.roots.r4) := h.blk.cell 6
  have q5 : w.cell? ⟨M.p, 7, none⟩ = some (.int .i64 S.now.roots.r5) := h.blk.cell 7
  have q6 : w.cell? ⟨M.p, 8, none⟩ = some (.int .i64 S.now.roots.r6) := h.blk.cell 8
  have q7 : w.cell? ⟨M.p, 9, none⟩ = some (.int .i64 S.now.roots.r7) := h.blk.cell 9
  clear hb h hl
  unfold Sta.metaL
  obtain ⟨N, hN⟩ : ∃ N, N = S.now.next := ⟨_, rfl⟩
  obtain ⟨T, hT⟩ : ∃ T, T = S.now.top := ⟨_, rfl⟩
  rw [← hN] at HN ⊢
  rw [← hT] at HT ⊢
  clear hN hT
  obtain ⟨r, hr⟩ : ∃ r, r = S.now.roots := ⟨_, rfl⟩
  rw [← hr] at q0 q1 q2 q3 q4 q5 q6 q7 ⊢
  clear hr
  have HG : Hid (∀ k, metaR r (k + 1) = metaR r k ++ lebZ (r.get k) 4) := Lib.hid (metaR_succ r)
  have HL : Hid (∀ k, (metaR r k).length = 4 * k) := Lib.hid (metaR_length r)
  have G0 : r.get 0 = r.r0 := rfl
  have G1 : r.get 1 = r.r1 := rfl
  have G2 : r.get 2 = r.r2 := rfl
  have G3 : r.get 3 = r.r3 := rfl
  have G4 : r.get 4 = r.r4 := rfl
  have G5 : r.get 5 = r.r5 := rfl
  have G6 : r.get 6 = r.r6 := rfl
  have G7 : r.get 7 = r.r7 := rfl
  generalize r.r0 = r0 at *
  generalize r.r1 = r1 at *
  generalize r.r2 = r2 at *
  generalize r.r3 = r3 at *
  generalize r.r4 = r4 at *
  generalize r.r5 = r5 at *
  generalize r.r6 = r6 at *
  generalize r.r7 = r7 at *
  have X0 := ixr0 r0 r1 r2 r3 r4 r5 r6 r7
  have X1 := ixr1 r0 r1 r2 r3 r4 r5 r6 r7
  have X2 := ixr2 r0 r1 r2 r3 r4 r5 r6 r7
  have X3 := ixr3 r0 r1 r2 r3 r4 r5 r6 r7
  have X4 := ixr4 r0 r1 r2 r3 r4 r5 r6 r7
  have X5 := ixr5 r0 r1 r2 r3 r4 r5 r6 r7
  have X6 := ixr6 r0 r1 r2 r3 r4 r5 r6 r7
  have X7 := ixr7 r0 r1 r2 r3 r4 r5 r6 r7
  go_enter Tryz.func59, Tryz.ntmps59
  go_wp2
  go_loopw [3, 5, 11] (fun x y i wr => ∃ k : Nat, k ≤ 8 ∧ i = .int .i64 k ∧ Hid (Own wr w.heap.size x (metaR r k)) ∧ Hid (Below w.heap.size w wr)) (fun _ _ i _ => 8 - (intOf i).toNat)
  case atStart => exact ⟨0, by omega, rfl, Lib.hid (Own.none_ _ _), Lib.hid (Below.refl _ _)⟩
  case round =>
    obtain ⟨k, hk, rfl, HO, HB⟩ := hrel
    have HLk := HL.out k
    by_cases hlt : k < 8
    · have HG' := Lib.hid (HG.out k)
      obtain ⟨k1, hk1⟩ : ∃ k1, k1 = k + 1 := ⟨_, rfl⟩
      have hcs : k = 0 ∨ k = 1 ∨ k = 2 ∨ k = 3 ∨ k = 4 ∨ k = 5 ∨ k = 6 ∨ k = 7 := by omega
      rcases hcs with rfl | rfl | rfl | rfl | rfl | rfl | rfl | rfl
      all_goals
        (first | rw [G0] at HG' | rw [G1] at HG' | rw [G2] at HG' | rw [G3] at HG' | rw [G4] at HG' | rw [G5] at HG' | rw [G6] at HG' | rw [G7] at HG')
        go_wp2_with fail
        refine (put4_any _ _ _ _ _ HO.out HB.out.size (by omega)).mono ?_
        rintro e w1 ⟨v1, rfl, ho1, hb1⟩
        have HO1 := Lib.hid ho1
        have HB1 := Lib.hid (HB.out.trans hb1)
        clear ho1 hb1
        go_wp2
        go_round
        case rel => exact ⟨k1, by omega, by rw [hk1]; first | rfl | simp, Lib.hid (by rw [hk1, HG'.out]; exact HO1.out), HB1⟩
        case measure => simp [intOf]
    · obtain rfl : k = 8 := by omega
      clear HLk
      have hc1 := HN.out _ HB.out
      go_wp2_with fail
      refine (put4_any _ _ _ _ _ HO.out HB.out.size (by rw [HL.out]; omega)).mono ?_
      rintro e w1 ⟨v1, rfl, ho1, hb1⟩
      have HO1 := Lib.hid ho1
      have HB1 := Lib.hid (HB.out.trans hb1)
      clear ho1 hb1
      go_wp2_with fail
      refine (HT.out _ HB1.out).mono ?_
      rintro e _ ⟨rfl, rfl⟩
      go_wp2_with fail
      refine (put4_any _ _ _ _ _ HO1.out HB1.out.size (by rw [List.length_append, HL.out, lebZ_length]; omega)).mono ?_
      rintro e w2 ⟨v2, rfl, ho2, hb2⟩
      have HO2 := Lib.hid ho2
      have HB2 := Lib.hid (HB1.out.trans hb2)
      clear ho2 hb2
      go_wp2
      go_ret
      exact ⟨_, rfl, HO2.out, HB2.out⟩
end
end Go.Proofs.YtfmdmfiljplkoaaGreat
