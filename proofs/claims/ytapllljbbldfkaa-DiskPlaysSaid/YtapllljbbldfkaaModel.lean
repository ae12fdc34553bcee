/- Plain laws: the document's disk as functions of lists. -/
import GoSem.Claim
namespace Go.Proofs.Ytapllljbbldfkaa

/-- A disk: what stands fast, the loose writes, the act at which it goes down. -/
structure Dsk where
  sectors : Nat
  size : Nat
  fast : Int → List Nat
  loose : List (Int × List Nat)
  armed : Int
  down : Bool

def upd (f : Int → List Nat) (a : Int) (l : List Nat) : Int → List Nat := fun x => if x = a then l else f x
/-- The last loose write to a sector. -/
def last (a : Int) : List (Int × List Nat) → Option (List Nat)
  | [] => none
  | e :: r => match last a r with
    | some x => some x
    | none => if e.1 = a then some e.2 else none
def settle (f : Int → List Nat) (L : List (Int × List Nat)) : Int → List Nat := L.foldl (fun f e => upd f e.1 e.2) f
theorem last_cons (a : Int) (e : Int × List Nat) (r : List (Int × List Nat)) : last a (e :: r) = (last a r).or (if e.1 = a then some e.2 else none) := by
  show (match last a r with | some x => some x | none => _) = _
  cases last a r <;> rfl
/-- What a fate chooses of n. -/
def pick (fs : List Int) (n : Nat) : Nat := match fs with
  | [] => 0
  | x :: _ => (x % (n : Int)).toNat
def cutAt (size : Nat) (fs : List Int) (k n : Nat) : Nat := if k + 1 < n then size * pick (fs.drop k) 2 else pick (fs.drop k) (size + 1)
/-- What stands fast when k loose writes have had their fates. -/
def crashed (size : Nat) (fs : List Int) (f : Int → List Nat) (L : List (Int × List Nat)) : Nat → Int → List Nat
  | 0 => f
  | k + 1 => match L[k]? with
    | some e => upd (crashed size fs f L k) e.1 (e.2.take (cutAt size fs k L.length) ++ (crashed size fs f L k e.1).drop (cutAt size fs k L.length))
    | none => crashed size fs f L k

namespace Dsk
def ready (d : Dsk) (a : Int) : Int := if d.down then 4 else if a < 0 ∨ (d.sectors : Int) ≤ a then 2 else 0
def tells (d : Dsk) (a : Int) : List Nat := (last a d.loose).getD (d.fast a)
def act (d : Dsk) : Dsk := if 0 < d.armed then { d with armed := d.armed - 1, down := decide (d.armed - 1 = 0) } else d
def put (d : Dsk) (a : Int) (l : List Nat) : Dsk := if d.ready a ≠ 0 ∨ l.length ≠ d.size then d else { d.act with loose := d.loose ++ [(a, l)] }
def putErr (d : Dsk) (a : Int) (l : List Nat) : Int := if d.ready a ≠ 0 then d.ready a else if l.length ≠ d.size then 3 else if d.act.down then 4 else 0
def flush (d : Dsk) : Dsk := if d.down then d else if d.act.down then d.act else { d.act with fast := settle d.fast d.loose, loose := [] }
def flushErr (d : Dsk) : Int := if d.down ∨ d.act.down then 4 else 0
def crash (d : Dsk) (fs : List Int) : Dsk := { d with fast := crashed d.size fs d.fast d.loose d.loose.length, loose := [], armed := 0, down := false }
def arm (d : Dsk) (n : Int) : Dsk := { d with armed := max n 0 }
def new (s z : Nat) : Dsk := ⟨s, z, fun _ => List.replicate z 0, [], 0, false⟩

structure Ok (d : Dsk) : Prop where
  s1 : 1 ≤ d.sectors
  s2 : d.sectors ≤ 1048576
  z1 : 64 ≤ d.size
  z2 : d.size ≤ 4096
  len : ∀ x, (d.fast x).length = d.size
  byt : ∀ x, ∀ b ∈ d.fast x, b < 256
  lose : ∀ e ∈ d.loose, 0 ≤ e.1 ∧ e.1 < (d.sectors : Int) ∧ e.2.length = d.size ∧ ∀ b ∈ e.2, b < 256
  arm0 : 0 ≤ d.armed
  arm1 : d.armed ≤ 9223372036854775807

variable {d : Dsk}
theorem Ok.act (h : d.Ok) : d.act.Ok := by
  unfold Dsk.act
  split
  · exact ⟨h.s1, h.s2, h.z1, h.z2, h.len, h.byt, h.lose, by have := h.arm0; simp; omega, by have := h.arm1; simp; omega⟩
  · exact h
theorem act_loose : d.act.loose = d.loose := by unfold Dsk.act; split <;> rfl
theorem act_fast : d.act.fast = d.fast := by unfold Dsk.act; split <;> rfl
theorem act_size : d.act.size = d.size := by unfold Dsk.act; split <;> rfl
theorem act_sectors : d.act.sectors = d.sectors := by unfold Dsk.act; split <;> rfl
theorem ready_in {a : Int} (h : d.ready a = 0) : d.down = false ∧ 0 ≤ a ∧ a < (d.sectors : Int) := by
  unfold ready at h
  split at h
  · simp at h
  · split at h
    · simp at h
    · rename_i h1 h2
      refine ⟨by simpa using h1, by omega, by omega⟩
theorem Ok.push (h : d.Ok) {a : Int} {l : List Nat} (h0 : 0 ≤ a) (h1 : a < (d.sectors : Int)) (hl : l.length = d.size) (hb : ∀ b ∈ l, b < 256) : ({ d with loose := d.loose ++ [(a, l)] } : Dsk).Ok :=
  ⟨h.s1, h.s2, h.z1, h.z2, h.len, h.byt, fun e he => by
    rcases List.mem_append.1 he with he | he
    · exact h.lose e he
    · simp at he; subst he; exact ⟨h0, h1, hl, hb⟩, h.arm0, h.arm1⟩
theorem put_eq {a : Int} {l : List Nat} (hr : d.ready a = 0) (hl : l.length = d.size) : d.put a l = { d.act with loose := d.act.loose ++ [(a, l)] } := by
  unfold put; rw [if_neg (by simp [hr, hl]), act_loose]
theorem put_stay {a : Int} {l : List Nat} (h : d.ready a ≠ 0 ∨ l.length ≠ d.size) : d.put a l = d := by unfold put; rw [if_pos h]
theorem Ok.put (h : d.Ok) (a : Int) (l : List Nat) (hb : ∀ b ∈ l, b < 256) : (d.put a l).Ok := by
  by_cases hc : d.ready a ≠ 0 ∨ l.length ≠ d.size
  · rw [put_stay hc]; exact h
  · have hr : d.ready a = 0 := by omega
    have hl : l.length = d.size := by omega
    rw [put_eq hr hl]
    have := ready_in hr
    exact h.act.push this.2.1 (by rw [act_sectors]; exact this.2.2) (by rw [act_size]; exact hl) hb
end Dsk

theorem upd_len {f : Int → List Nat} {n : Nat} (h : ∀ x, (f x).length = n) {a : Int} {l : List Nat} (hl : l.length = n) : ∀ x, (upd f a l x).length = n := by
  intro x; unfold upd; split
  · exact hl
  · exact h x
theorem upd_byt {f : Int → List Nat} (h : ∀ x, ∀ b ∈ f x, b < 256) {a : Int} {l : List Nat} (hl : ∀ b ∈ l, b < 256) : ∀ x, ∀ b ∈ upd f a l x, b < 256 := by
  intro x; unfold upd; split
  · exact hl
  · exact h x
theorem upd_self (f : Int → List Nat) (a : Int) (l : List Nat) : upd f a l a = l := by simp [upd]
theorem upd_other (f : Int → List Nat) {a x : Int} (l : List Nat) (h : x ≠ a) : upd f a l x = f x := by simp [upd, h]

theorem settle_take (f : Int → List Nat) (L : List (Int × List Nat)) (k : Nat) (h : k < L.length) : settle f (L.take (k + 1)) = upd (settle f (L.take k)) L[k].1 L[k].2 := by
  unfold settle
  rw [List.take_add_one, List.getElem?_eq_getElem h, List.foldl_append]; rfl
theorem settle_ok {n : Nat} {P : Nat → Prop} : ∀ (L : List (Int × List Nat)) (f : Int → List Nat), (∀ x, (f x).length = n ∧ ∀ b ∈ f x, P b) → (∀ e ∈ L, e.2.length = n ∧ ∀ b ∈ e.2, P b) → ∀ x, (settle f L x).length = n ∧ ∀ b ∈ settle f L x, P b
  | [], _, h, _ => h
  | e :: L, f, h, hL => settle_ok L (upd f e.1 e.2) (fun x => by
      unfold upd; split
      · exact hL e (by simp)
      · exact h x) (fun e' he => hL e' (by simp [he]))
theorem settle_other (a : Int) : ∀ (L : List (Int × List Nat)) (f : Int → List Nat), (∀ e ∈ L, e.1 ≠ a) → settle f L a = f a
  | [], _, _ => rfl
  | e :: L, f, h => by
    have := settle_other a L (upd f e.1 e.2) (fun e' he => h e' (by simp [he]))
    rw [show settle f (e :: L) = settle (upd f e.1 e.2) L from rfl, this, upd_other _ _ (Ne.symm (h e (by simp)))]
theorem settle_last (a : Int) : ∀ (L : List (Int × List Nat)) (f : Int → List Nat), settle f L a = (last a L).getD (f a)
  | [], _ => rfl
  | e :: L, f => by
    rw [show settle f (e :: L) = settle (upd f e.1 e.2) L from rfl, settle_last a L, last_cons]
    cases last a L with
    | some x => rfl
    | none =>
      unfold upd
      by_cases h : e.1 = a
      · simp [h]
      · rw [if_neg h, if_neg (Ne.symm h)]; rfl
theorem last_none (a : Int) : ∀ (L : List (Int × List Nat)), (∀ e ∈ L, e.1 ≠ a) → last a L = none
  | [], _ => rfl
  | e :: L, h => by
    rw [last_cons, last_none a L (fun e' he => h e' (by simp [he]))]
    simp [h e (by simp)]
theorem last_append (a : Int) : ∀ (L M : List (Int × List Nat)), last a (L ++ M) = (last a M).or (last a L)
  | [], M => by
    show last a M = (last a M).or none
    cases last a M <;> rfl
  | e :: L, M => by
    show last a (e :: (L ++ M)) = _
    rw [last_cons, last_cons, last_append a L M]
    cases last a M <;> cases last a L <;> rfl

theorem pick_lt (fs : List Int) {n : Nat} (h : 0 < n) : pick fs n < n := by
  unfold pick
  cases fs with
  | nil => exact h
  | cons x _ =>
    have h1 := Int.emod_lt_of_pos x (show (0 : Int) < n by omega)
    have h2 := Int.emod_nonneg x (show (n : Int) ≠ 0 by omega)
    show (x % (n : Int)).toNat < n
    omega
theorem cutAt_le (size : Nat) (fs : List Int) (k n : Nat) : cutAt size fs k n ≤ size := by
  unfold cutAt
  split
  · have := pick_lt (fs.drop k) (n := 2) (by omega)
    calc size * pick (fs.drop k) 2 ≤ size * 1 := Nat.mul_le_mul_left _ (by omega)
      _ = size := by omega
  · have := pick_lt (fs.drop k) (n := size + 1) (by omega)
    omega
theorem crashed_step {size : Nat} {fs : List Int} {f : Int → List Nat} {L : List (Int × List Nat)} {k : Nat} (h : k < L.length) :
    crashed size fs f L (k + 1) = upd (crashed size fs f L k) L[k].1 (L[k].2.take (cutAt size fs k L.length) ++ (crashed size fs f L k L[k].1).drop (cutAt size fs k L.length)) := by
  show (match L[k]? with | some e => _ | none => _) = _
  rw [List.getElem?_eq_getElem h]
theorem crashed_over {size : Nat} {fs : List Int} {f : Int → List Nat} {L : List (Int × List Nat)} {k : Nat} (h : L.length ≤ k) : crashed size fs f L (k + 1) = crashed size fs f L k := by
  show (match L[k]? with | some e => _ | none => _) = _
  rw [List.getElem?_eq_none h]
theorem crashed_ok {size : Nat} {fs : List Int} {f : Int → List Nat} {L : List (Int × List Nat)} {P : Nat → Prop} (h : ∀ x, (f x).length = size ∧ ∀ b ∈ f x, P b) (hL : ∀ e ∈ L, e.2.length = size ∧ ∀ b ∈ e.2, P b) :
    ∀ k x, (crashed size fs f L k x).length = size ∧ ∀ b ∈ crashed size fs f L k x, P b
  | 0 => h
  | k + 1 => by
    intro x
    have ih := crashed_ok h hL (fs := fs) k
    rcases Nat.lt_or_ge k L.length with hk | hk
    · rw [crashed_step hk]
      unfold upd
      split
      · have hc := cutAt_le size fs k L.length
        have he := hL _ (List.getElem_mem hk)
        have hi := ih L[k].1
        refine ⟨by simp [he.1, hi.1]; omega, fun b hb => ?_⟩
        rcases List.mem_append.1 hb with hb | hb
        · exact he.2 b (List.mem_of_mem_take hb)
        · exact hi.2 b (List.mem_of_mem_drop hb)
      · exact ih x
    · rw [crashed_over hk]
      exact ih x
theorem crashed_other {size : Nat} {fs : List Int} {f : Int → List Nat} {L : List (Int × List Nat)} {a : Int} (h : ∀ e ∈ L, e.1 ≠ a) : ∀ k, crashed size fs f L k a = f a
  | 0 => rfl
  | k + 1 => by
    rcases Nat.lt_or_ge k L.length with hk | hk
    · rw [crashed_step hk, upd_other _ _ (Ne.symm (h _ (List.getElem_mem hk)))]
      exact crashed_other h k
    · rw [crashed_over hk]
      exact crashed_other h k

namespace Dsk
variable {d : Dsk}
theorem Ok.flush (h : d.Ok) : d.flush.Ok := by
  unfold Dsk.flush
  split
  · exact h
  · split
    · exact h.act
    · have k := settle_ok (n := d.size) (P := fun b => b < 256) d.loose d.fast (fun x => ⟨h.len x, h.byt x⟩) (fun e he => ⟨(h.lose e he).2.2.1, (h.lose e he).2.2.2⟩)
      have a := h.act
      exact ⟨a.s1, a.s2, a.z1, a.z2, fun x => by show _ = d.act.size; rw [act_size]; exact (k x).1, fun x => (k x).2, by simp, a.arm0, a.arm1⟩
theorem Ok.crash (h : d.Ok) (fs : List Int) : (d.crash fs).Ok := by
  have k := crashed_ok (fs := fs) (P := fun b => b < 256) (fun x => ⟨h.len x, h.byt x⟩) (L := d.loose) (fun e he => ⟨(h.lose e he).2.2.1, (h.lose e he).2.2.2⟩) d.loose.length
  exact ⟨h.s1, h.s2, h.z1, h.z2, fun x => (k x).1, fun x => (k x).2, by simp [Dsk.crash], by simp [Dsk.crash], by simp [Dsk.crash]⟩
theorem Ok.arm (h : d.Ok) {n : Int} (hn : n ≤ 9223372036854775807) : (d.arm n).Ok :=
  ⟨h.s1, h.s2, h.z1, h.z2, h.len, h.byt, h.lose, by simp [Dsk.arm]; omega, by simp [Dsk.arm]; omega⟩
theorem Ok.new {s z : Nat} (h1 : 1 ≤ s) (h2 : s ≤ 1048576) (h3 : 64 ≤ z) (h4 : z ≤ 4096) : (Dsk.new s z).Ok :=
  ⟨h1, h2, h3, h4, by simp [Dsk.new], by simp [Dsk.new], by simp [Dsk.new], by simp [Dsk.new], by simp [Dsk.new]⟩
theorem put_sectors (a : Int) (l : List Nat) : (d.put a l).sectors = d.sectors ∧ (d.put a l).size = d.size := by
  unfold put; split
  · exact ⟨rfl, rfl⟩
  · exact ⟨act_sectors, act_size⟩
theorem flush_sectors : d.flush.sectors = d.sectors ∧ d.flush.size = d.size := by
  unfold flush; split
  · exact ⟨rfl, rfl⟩
  · split <;> exact ⟨act_sectors, act_size⟩
theorem put_loose (a : Int) (l : List Nat) : (d.put a l).loose.length ≤ d.loose.length + 1 := by
  unfold put; split <;> simp
theorem flush_loose : d.flush.loose.length ≤ d.loose.length := by
  unfold flush; split
  · exact Nat.le_refl _
  · split
    · rw [act_loose]; exact Nat.le_refl _
    · simp
theorem tells_ok (h : d.Ok) (a : Int) : (d.tells a).length = d.size ∧ ∀ b ∈ d.tells a, b < 256 := by
  have := settle_ok (n := d.size) (P := fun b => b < 256) d.loose d.fast (fun x => ⟨h.len x, h.byt x⟩) (fun e he => ⟨(h.lose e he).2.2.1, (h.lose e he).2.2.2⟩) a
  rw [settle_last] at this
  exact this
end Dsk

end Go.Proofs.Ytapllljbbldfkaa
