/- What bytes a node is read from (plain); regions inside a round of a range over a function; what stands while Chunk is gone through. -/
import Derived.Test.YtfmdmfiljplkoaaGreatS4
import Derived.OrdersIn
namespace Go.Proofs.YtfmdmfiljplkoaaGreat
open Go.RowKit Go.Maps Go.Shelf
set_option maxRecDepth 8000
def sgn (n : Nat) : Int := IntKind.i64.wrap n
def entAt (l : List Nat) : En := ⟨⟨sgn (num (l.take 8)), sgn (num ((l.drop 8).take 8)), sgn (num ((l.drop 16).take 8)), sgn (num ((l.drop 24).take 8))⟩, sgn (num ((l.drop 32).take 8))⟩
def goP : Nat → List Nat → List En
  | 0, _ => []
  | k + 1, l => if l.length < 40 then [] else entAt l :: goP k (l.drop 40)
def countL (l : List Nat) : Nat := l.getD 1 0 + l.getD 2 0 * 256
def parseL (l : List Nat) : List En := goP (countL l) (l.drop 3)
theorem lebZ_length8 (x : Int) : (lebZ x 8).length = 8 := by simp
theorem sgn_leb {x : Int} (h : I64 x) : sgn (num (lebZ x 8)) = x := by
  obtain ⟨h0, h1⟩ := h
  have e : lebZ x 8 = leb (x % 18446744073709551616).toNat 8 := by
    rw [← lebZ_nat, Int.toNat_of_nonneg (by omega), lebZ_mod]
  rw [e, num_leb 8 _ (by omega)]
  unfold sgn
  rw [Int.toNat_of_nonneg (by omega), IntKind.wrap_i64]
  omega
theorem entAt_ent {e : En} (h : e.Ok) (z : List Nat) : entAt (entL e ++ z) = e := by
  have l8 : ∀ x, (lebZ x 8).length = 8 := lebZ_length8
  have t8 : ∀ (x : Int) (r : List Nat), (lebZ x 8 ++ r).take 8 = lebZ x 8 := fun x r => by rw [List.take_append_of_le_length (by rw [l8]; omega), List.take_of_length_le (by rw [l8]; omega)]
  have d8 : ∀ (x : Int) (r : List Nat), (lebZ x 8 ++ r).drop 8 = r := fun x r => by rw [List.drop_append_of_le_length (by rw [l8]; omega), List.drop_eq_nil_of_le (by rw [l8]; omega), List.nil_append]
  have dd : ∀ (k : Nat) (l : List Nat), l.drop (k + 8) = (l.drop k).drop 8 := fun k l => by rw [List.drop_drop]
  unfold entAt entL
  simp only [List.append_assoc]
  rw [show (32 : Nat) = 24 + 8 from rfl, dd 24, show (24 : Nat) = 16 + 8 from rfl, dd 16, show (16 : Nat) = 8 + 8 from rfl, dd 8]
  simp only [t8, d8]
  obtain ⟨⟨x0, y0, x1, y1⟩, of⟩ := e
  simp only [sgn_leb h.x0, sgn_leb h.y0, sgn_leb h.x1, sgn_leb h.y1, sgn_leb h.of]
theorem goP_ents : ∀ (es : List En) (z : List Nat), (∀ e ∈ es, e.Ok) → goP es.length (es.flatMap entL ++ z) = es
  | [], _, _ => rfl
  | e :: es, z, h => by
    rw [List.length_cons, List.flatMap_cons, List.append_assoc]
    unfold goP
    rw [if_neg (by rw [List.length_append, entL_length]; omega), entAt_ent (h e (by simp)), List.drop_append_of_le_length (by rw [entL_length]; omega), List.drop_eq_nil_of_le (by rw [entL_length]; omega), List.nil_append, goP_ents es z (fun e he => h e (by simp [he]))]
/-- What is laid is read. -/
theorem parse_node {lv : Nat} {es : List En} (h : ∀ e ∈ es, e.Ok) (hle : es.length < 65536) (hlv : lv < 256) (z : List Nat) : (nodeL lv es ++ z).getD 0 0 = lv ∧ parseL (nodeL lv es ++ z) = es := by
  unfold nodeL headN
  refine ⟨by simp; omega, ?_⟩
  unfold parseL countL
  have e1 : (([lv % 256, es.length % 256, es.length / 256 % 256] ++ es.flatMap entL) ++ z).getD 1 0 + (([lv % 256, es.length % 256, es.length / 256 % 256] ++ es.flatMap entL) ++ z).getD 2 0 * 256 = es.length := by simp; omega
  rw [e1]
  show goP es.length (es.flatMap entL ++ z) = es
  exact goP_ents es z h
theorem goP_step {k : Nat} {l : List Nat} (h : 40 ≤ l.length) : goP (k + 1) l = entAt l :: goP k (l.drop 40) := by
  show (if l.length < 40 then [] else _) = _
  rw [if_neg (by omega)]
theorem goP_stop {k : Nat} {l : List Nat} (h : l.length < 40) : goP k l = [] := by
  cases k with
  | zero => rfl
  | succ k => show (if l.length < 40 then [] else _) = _; rw [if_pos h]
/-! ### regions in a round -/
section
variable {P : Program} {ops : Array Oper} {Q : Exit → Act → World → Prop}
def noDefer (ops : Array Oper) : Bool := ops.all fun o => match o.op with | .defer _ => false | _ => true
theorem noDefer_spec (h : noDefer ops = true) (i : Nat) (o : Oper) (hi : ops[i]? = some o) : ∀ c, o.op ≠ .defer c := by
  intro c hc
  obtain ⟨hlt, rfl⟩ := Array.getElem?_eq_some_iff.1 hi
  have := Array.all_eq_true.1 h i hlt
  rw [hc] at this
  cases this
theorem uponIn_of_upon {l n : Nat} {o : Oper} {a : Act} {K : Act → World → Prop} : ∀ {r : Result Next}, o.upon P a K Q r → o.uponIn (Fence.wide.inRound l) n P a K Q r
  | .ok (.value _) _, h => h
  | .ok .skip _, h => h
  | .ok (.defer _) _, h => h
  | .ok (.enter f args) w', h => ⟨fun h => by simp [Fence.wide] at h, callsIn_wide.2 h⟩
  | .ok (.row row args) w', h => ⟨fun h => by simp [Fence.wide] at h, fun c cs _ => let ⟨v, w', r, s⟩ := h c cs; ⟨v, w', r, stepsIn_wide.2 s⟩⟩
  | .ok (.round ..) _, h => h.elim
  | .halt (.panic _) _, h => h
theorem operIn_of {l n : Nat} {o : Oper} {K K' : Act → World → Prop} {a : Act} {w : World} (hd : ∀ c, o.op ≠ .defer c) (hQ : ¬ LetsOut Q) (hK : ∀ a w, K a w → K' a w)
    (h : o.wp P a w K Q ∨ (o.asks P a w ∧ LetsOut Q)) : o.wpIn (Fence.wide.inRound l) n P a w K' Q := by
  rcases h with h | h
  · refine Oper.wpIn_mono hK ⟨fun _ _ => trivial, ?_⟩
    rw [Oper.semAt_eq _ _ _ hd]
    exact uponIn_of_upon h
  · exact (hQ h.2).elim
variable {md : Region.Mode} {S : World → Prop}
theorem wpOpIn_of {l n i : Nat} {K K' : Act → World → Prop} {a : Act} {w : World} (hd : noDefer ops = true) (hQ : ¬ LetsOut Q) (hK : ∀ a w, K a w → K' a w)
    (h : wpOp P ops Q i K a w) : wpOpIn (Fence.wide.inRound l) n P ops Q i K' a w := by
  unfold wpOpIn
  unfold wpOp at h
  cases ho : ops[i]? with
  | none => simp only [ho] at h ⊢; exact hK _ _ h
  | some o =>
    simp only [ho] at h ⊢
    split
    · rename_i hw
      rw [if_pos hw] at h
      exact operIn_of (noDefer_spec hd i o ho) hQ hK h
    · rename_i hw
      rw [if_neg hw] at h
      exact ⟨fun _ _ => trivial, hK _ _ h⟩
theorem wpAnyIn_of {l n : Nat} (hd : noDefer ops = true) (hQ : ¬ LetsOut Q) : ∀ (fuel : Nat) (listed : Array Bool) (a : Act) (w : World), wpAny P md ops Q fuel listed a w → wpAnyIn (Fence.wide.inRound l) n P md ops Q fuel listed a w
  | 0, _, _, _, h => h
  | fuel + 1, _, _, _, h => ⟨h.1, fun i hi => wpOpIn_of hd hQ (fun a w => wpAnyIn_of hd hQ fuel _ a w) (h.2 i hi)⟩
/-- A region that draws its order. -/
theorem wpIn_region_D {id l n : Nat} {a : Act} {w : World} (hm : P.follows .mixedOrders = true) (hd : noDefer ops = true) (hQ : ¬ LetsOut Q) (hS : S w.drew)
    (h : wpX P .any ops Q S ops.size (Array.replicate ops.size false) a) : (Code.region id ops true).wpIn (Fence.wide.inRound l) n P Q a w :=
  wpIn_region_any hm (wpAnyIn_of hd hQ _ _ _ _ (wpAny_of_X _ _ _ _ _ hS h))
end
/-! ### what stands -/
structure PsSt (w v : World) (L : List Bx) (R : List Rx) (d l : Nat) (o : Loop) : Prop where
  bx : Bxs w v L R
  kd : v.heap[d]? = some (.deferred (some []))
  kl : v.heap[l]? = some (.loop o)
  ld : w.heap.size ≤ d
  ll : w.heap.size ≤ l
section
variable {w v v' : World} {L L' : List Bx} {R R' : List Rx} {d l : Nat} {o o' : Loop}
theorem PsSt.grew (h : PsSt w v L R d l o) (k : Below v.heap.size v v') : PsSt w v' L R d l o :=
  ⟨h.bx.grew k, (k.block _ (lt_of_block h.kd)).trans h.kd, (k.block _ (lt_of_block h.kl)).trans h.kl, h.ld, h.ll⟩
theorem not_row {s n : Nat} {t : TypeId} {u : Value} {xs : List Value} {B : Nat} {ob : Obj} (hr : v.ownsRow B t s u n xs) (hl : v.heap[l]? = some ob) (hk : ∀ cs ty fz, ob ≠ .cells cs ty fz) : u.ownBlock ≠ some l := by
  intro e
  obtain ⟨cs, e2⟩ := row_kind hr e
  rw [hl] at e2
  injection e2 with e2
  exact hk _ _ _ e2
theorem Bxs.turned (h : Bxs w v L R) {ob p : Obj} (hl : v.heap[l]? = some ob) (hk : ∀ cs ty fz, ob ≠ .cells cs ty fz) (hw : w.heap.size ≤ l) (k : Turned l p v v') : Bxs w v' L R := by
  refine h.of_turn k.turn (fun j hj => ?_)
  simp at hj
  subst hj
  refine ⟨hw, fun e he e2 => ?_, fun r hr => not_row (h.row r hr) hl hk⟩
  have := (h.blk e he).1
  unfold Blk at this
  rw [e2, hl] at this
  injection this with this
  exact hk _ _ _ this
theorem PsSt.turned (h : PsSt w v L R d l o) (k : Turned l (.loop o') v v') : PsSt w v' L R d l o' := by
  refine ⟨h.bx.turned h.kl (by intro _ _ _ e; cases e) h.ll k, (k.same d ?_).trans h.kd, k.at_, h.ld, h.ll⟩
  intro e
  have := h.kd
  rw [e, h.kl] at this
  cases this
theorem PsSt.of (h : PsSt w v L R d l o) (hb : Bxs w v' L' R') {T : List Nat} (k : Turn T v v') (hd : d ∉ T) (hl : l ∉ T) : PsSt w v' L' R' d l o :=
  ⟨hb, (k.block d (lt_of_block h.kd) hd).trans h.kd, (k.block l (lt_of_block h.kl) hl).trans h.kl, h.ld, h.ll⟩
theorem PsSt.push (h : PsSt w v L R d l o) (c : Array Value) (t : TypeId) : PsSt w (v.alloc (.cells c t)) (⟨v.heap.size, c, t⟩ :: L) R d l o := by
  have hb : Below v.heap.size v (v.alloc (.cells c t)) := (Below.refl _ v).alloc (Nat.le_refl _) _
  have hg := h.grew hb
  exact ⟨h.bx.push c t, hg.kd, hg.kl, h.ld, h.ll⟩
theorem blk_ne {b k : Nat} {c : Array Value} {t : TypeId} {ob : Obj} (h : Blk v b c t) (hk : v.heap[k]? = some ob) (ho : ∀ cs ty fz, ob ≠ .cells cs ty fz) : k ∉ [b] := by
  intro e
  simp at e
  subst e
  unfold Blk at h
  rw [hk] at h
  injection h with h
  exact ho _ _ _ h
theorem PsSt.setb (h : PsSt w v L R d l o) {i : Nat} {e : Bx} (hi : L[i]? = some e) {c : Array Value} (hb : Blk v' e.b c e.t) (k : Turn [e.b] v v') : PsSt w v' (L.set i { e with c := c }) R d l o :=
  h.of (h.bx.put hi hb k) k (blk_ne (h.bx.at_ hi) h.kd (by intro _ _ _ e; cases e)) (blk_ne (h.bx.at_ hi) h.kl (by intro _ _ _ e; cases e))
theorem PsSt.set (h : PsSt w v L R d l o) {i : Nat} {e : Bx} (hi : L[i]? = some e) (k : Nat) (x : Value) : PsSt w (v.setCell ⟨e.b, k, none⟩ x) (L.set i { e with c := e.c.setIfInBounds k x }) R d l o :=
  h.setb hi ((h.bx.at_ hi).set k x) ((Turn.refl [e.b] v).set (a := ⟨e.b, k, none⟩) (.inl (by simp)) x)
theorem PsSt.sub (h : PsSt w v L R d l o) (hL : L'.Sublist L) (hR : R'.Sublist R) : PsSt w v L' R' d l o := ⟨h.bx.sub hL hR, h.kd, h.kl, h.ld, h.ll⟩
/-- An entry is appended. -/
theorem PsSt.app (h : PsSt w v L R d l o) (ty : TypeId) (j : Nat) {u : Value} {n : Nat} {xs : List Value} (hj : R[j]? = some ⟨84, 5, u, n, xs⟩) {g : Nat} {news : List Value} (hsrc : v.ownsRow w.heap.size 84 5 (.slice (some ⟨g, 0, none⟩) 1 1) 1 news) (h1 : ∀ u ∈ news, u.oneCell' = true) (hb : n + 1 ≤ 2000000) :
    ∃ A c v', (Builtin.append_ #[91, 91] ty #[u, .slice (some ⟨g, 0, none⟩) 1 1]).run Tryz.prog v = .ok (.slice A (n + 1) c) v' ∧ PsSt w v' L (R.set j ⟨84, 5, .slice A (n + 1) c, n + 1, xs ++ news⟩) d l o := by
  obtain ⟨i, z, hi, hz, hs, hby, hc⟩ := el84.i
  have hr := h.bx.row_ hj
  dsimp only at hr
  obtain ⟨v2, w2, hrun, h2, h3, _, h5⟩ := run_append_own_at (P := Tryz.prog) v w.heap.size 91 ty 84 i z 5 i.bytes el84.u hi hz hs rfl hc (by decide) u n xs hr ⟨g, 0, none⟩ 1 1 news hsrc.1
    (fun k u hu => World.ownsRow.cells hsrc (g := g) rfl k u hu) h1 (by simp only [maxLen]; omega) (by have := Nat.mul_le_mul hb hby; omega) h.bx.low.size
  obtain ⟨A', c', rfl, _⟩ := slice_shape h2
  have hk : ∀ (k : Nat) (ob : Obj), v.heap[k]? = some ob → (∀ cs ty fz, ob ≠ .cells cs ty fz) → w2.heap[k]? = some ob := fun k ob e ho =>
    (h3.block k (lt_of_block e) (fun e2 => not_row hr e ho e2.symm)).trans e
  exact ⟨A', c', w2, hrun, h.bx.rowgrew hj h2 h3 h5, hk d _ h.kd (by intro _ _ _ e; cases e), hk l _ h.kl (by intro _ _ _ e; cases e), h.ld, h.ll⟩
section
variable {P : Program} {ops : Array Oper} {rest : List Oper} {q : Oper} {a : Act} {Q : Exit → Act → World → Prop} {r m : Nat}
@[irreducible] def WLI (F : Fence) (n : Nat) (P : Program) (ops : Array Oper) (Q : Exit → Act → World → Prop) (l : List Oper) (a : Act) (w : World) : Prop := wpListIn F n P ops Q l a w
theorem wpli_id (F : Fence) (n : Nat) (P : Program) (ops : Array Oper) (Q : Exit → Act → World → Prop) (l : List Oper) (a : Act) (w : World) : wpListIn F n P ops Q l a w = WLI F n P ops Q l a w := by unfold WLI; rfl
theorem operIn_of' {K : Act → World → Prop} (hd : ∀ c, q.op ≠ .defer c) (h : q.wp P a v K Q) : q.wpIn (Fence.wide.inRound r) m P a v K Q := by
  refine ⟨fun _ _ => trivial, ?_⟩
  rw [Oper.semAt_eq _ _ _ hd]
  exact uponIn_of_upon h
theorem wpli_run {u : Value} (hgd : Want ops q a) (hd : ∀ c, q.op ≠ .defer c) (hr : (execOp a.eval q).run P v = .ok (.value u) v') (k : wpListIn (Fence.wide.inRound r) m P ops Q rest (a.put q.dst u) v') : WLI (Fence.wide.inRound r) m P ops Q (q :: rest) a v := by
  unfold WLI wpListIn
  rw [if_pos hgd.out]
  refine operIn_of' hd ?_
  unfold Oper.wp
  rw [hr]
  exact k
theorem wpli_skip (hgd : Want ops q a) (hd : ∀ c, q.op ≠ .defer c) (hdst : q.dst = none) (hr : (execOp a.eval q).run P v = .ok .skip v') (k : wpListIn (Fence.wide.inRound r) m P ops Q rest a v') : WLI (Fence.wide.inRound r) m P ops Q (q :: rest) a v := by
  unfold WLI wpListIn
  rw [if_pos hgd.out]
  refine operIn_of' hd ?_
  unfold Oper.wp
  rw [hr]
  show wpListIn _ _ _ _ _ _ (a.put q.dst undef) v'
  rw [hdst]
  exact k
theorem wpli_new (H : Hid (PsSt w v L R d l o)) (t : TypeId) (ho : q.op = .alloc t) (hgd : Want ops q a) {z : Value} (hz : ∀ w, (zeroValue t).run P w = .ok z w) {cs : Array Value} (hc : z.cells = cs)
    (k : ∀ b w', Hid (PsSt w w' (⟨b, cs, t⟩ :: L) R d l o) → wpListIn (Fence.wide.inRound r) m P ops Q rest (a.put q.dst (.pointer (some ⟨b, 0, none⟩))) w') : WLI (Fence.wide.inRound r) m P ops Q (q :: rest) a v := by
  subst hc
  exact wpli_run hgd (by rw [ho]; intro c e; cases e) (exec_alloc ho (hz v)) (k _ _ (Lib.hid (H.out.push z.cells t)))
theorem wpli_st (H : Hid (PsSt w v L R d l o)) (i : Nat) {e : Bx} (hi : L[i]? = some e) (hdst : q.dst = none) (t : TypeId) (x y : Operand) (ho : q.op = .store t x y) (hgd : Want ops q a) {off : Nat} (hx : a.eval x = .pointer (some ⟨e.b, off, none⟩)) {u : Value} (hy : a.eval y = u)
    (hz : ∀ w, (Go.sizeOf t).run P w = .ok 1 w) (h1 : u.oneCell' = true) (hn : decide (off < e.c.size) = true) {cs : Array Value} (hv : e.c.setIfInBounds off u = cs)
    (k : ∀ w', Hid (PsSt w w' (L.set i { e with c := cs }) R d l o) → wpListIn (Fence.wide.inRound r) m P ops Q rest a w') : WLI (Fence.wide.inRound r) m P ops Q (q :: rest) a v := by
  subst hv
  exact wpli_skip hgd (by rw [ho]; intro c e; cases e) hdst (exec_store t x y ho hx hy (run_store_one (hz v) (H.out.bx.at_ hi) (of_decide_eq_true hn) h1)) (k _ (Lib.hid (H.out.set hi off u)))
theorem wpli_sta (H : Hid (PsSt w v L R d l o)) (i : Nat) {e : Bx} (hi : L[i]? = some e) (hdst : q.dst = none) (t : TypeId) (x y : Operand) (ho : q.op = .store t x y) (hgd : Want ops q a) {off : Nat} (hx : a.eval x = .pointer (some ⟨e.b, off, none⟩)) {u : Array Value} (hy : a.eval y = .agg u)
    {n : Nat} (hz : ∀ w, (Go.sizeOf t).run P w = .ok n w) (hs : u.size = n) (h1 : u.toList.all (·.oneCell') = true) (hn : decide (off + n ≤ e.c.size) = true) {cs : Array Value} (hv : splice e.c off u = cs)
    (k : ∀ w', Hid (PsSt w w' (L.set i { e with c := cs }) R d l o) → wpListIn (Fence.wide.inRound r) m P ops Q rest a w') : WLI (Fence.wide.inRound r) m P ops Q (q :: rest) a v := by
  subst hv
  have hb := H.out.bx.at_ hi
  have ht := setRow_turn v e.b (splice e.c off u) hb
  exact wpli_skip hgd (by rw [ho]; intro c e; cases e) hdst (exec_store t x y ho hx hy (run_store_agg (hz v) hb hs (of_decide_eq_true hn) (fun x hx => List.all_eq_true.1 h1 x hx))) (k _ (Lib.hid (H.out.setb hi ht.1 ht.2)))
theorem wpli_ld (H : Hid (PsSt w v L R d l o)) (i : Nat) {e : Bx} (hi : L[i]? = some e) (t : TypeId) (x : Operand) (ho : q.op = .load t x) (hgd : Want ops q a) {off : Nat} (hx : a.eval x = .pointer (some ⟨e.b, off, none⟩))
    (hA : ∀ w, (isAgg t).run P w = .ok false w) {u : Value} (hv : e.c.toList[off]? = some u) (k : wpListIn (Fence.wide.inRound r) m P ops Q rest (a.put q.dst u) v) : WLI (Fence.wide.inRound r) m P ops Q (q :: rest) a v :=
  wpli_run hgd (by rw [ho]; intro c e; cases e) (exec_load t x ho hx (run_load_one (hA v) (H.out.bx.at_ hi) (by rw [← Array.getElem?_toList]; exact hv))) k
theorem wpIn_region_H {id rr n : Nat} {S : World → Prop} (hm : P.follows .mixedOrders = true) (hd : noDefer ops = true) (hQ : ¬ LetsOut Q)
    (h : ∀ u, u = v.drew → wpAnyH P .any ops Q S ops.size (Array.replicate ops.size false) a u) : (Code.region id ops true).wpIn (Fence.wide.inRound rr) n P Q a v :=
  wpIn_region_any hm (wpAnyIn_of hd hQ _ _ _ _ (wpAny_of_held _ _ _ _ (h _ rfl)))
end
end
end Go.Proofs.YtfmdmfiljplkoaaGreat
