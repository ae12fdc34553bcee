/- Walks: how long a load may be; a mark twice; the program's sector. -/
import Derived.Test.YtipijjlajhofkaaW5
import Derived.Laws.DeepNot64
namespace Go.Proofs.Ytipijjlajhofkaa
open Go.RowKit

def okSize (n : Int) : Bool := decide (64 ≤ n ∧ n ≤ 4096)

theorem may_any (n : Int) (w : World) : Calls Try.prog 19 #[.int .i64 n] w fun e w' => e = .returned (.bool (okSize n)) ∧ w = w' := by
  unfold okSize
  go_enter Try.func19, Try.ntmps19
  go_each [64 ≤ n, n ≤ 4096] => (go_wp2; go_ret; exact ⟨by simp [*], rfl⟩)

/-- How long a load may be. -/
def room (n : Int) : Int := if okSize n then n - 36 else 0

theorem Room_any (n : Int) (w : World) : Calls Try.prog 14 #[.int .i64 n] w fun e w' => e = .returned (.int .i64 (room n)) ∧ w = w' := by
  unfold room
  have hm := may_any n
  have hc : okSize n = true → 64 ≤ n ∧ n ≤ 4096 := by unfold okSize; simp
  generalize okSize n = q at *
  go_enter Try.func14, Try.ntmps14
  go_wp2_with fail
  refine (hm w).mono ?_
  rintro e w1 ⟨rfl, rfl⟩
  cases q
  · go_wp2
    go_ret
    exact ⟨by simp, rfl⟩
  · have := hc rfl
    go_wp2
    go_ret
    exact ⟨by simp, rfl⟩

theorem refRoom_any (n : Int) (w : World) : Calls Try.prog 15 #[.int .i64 n] w fun e w' => e = .returned (.int .i64 (room n)) ∧ w = w' := by
  have e1 : n < 64 → (0 : Int) = room n := fun h => by unfold room okSize; rw [if_neg (by simp; omega)]
  have e2 : n > 4096 → (0 : Int) = room n := fun h => by unfold room okSize; rw [if_neg (by simp; omega)]
  have e3 : ¬ n < 64 → ¬ n > 4096 → n - 36 = room n := fun h1 h2 => by unfold room okSize; rw [if_pos (by simp; omega)]
  generalize room n = r at *
  have E1 := Lib.hid e1
  have E2 := Lib.hid e2
  have E3 := Lib.hid e3
  clear e1 e2 e3
  go_enter Try.func15, Try.ntmps15
  by_cases h1 : n < 64
  · go_wp2; go_ret; exact ⟨ret_int (E1.out h1), rfl⟩
  · by_cases h2 : n > 4096
    · go_wp2; go_ret; exact ⟨ret_int (E2.out h2), rfl⟩
    · go_wp2; go_ret; exact ⟨ret_int (E3.out h1 h2), rfl⟩

/-- A mark and the same with all bits turned. -/
def head (m : Nat) : List Nat := leb m 8 ++ (leb m 8).map (255 - ·)
@[simp] theorem head_length (m : Nat) : (head m).length = 16 := by simp [head]

theorem both_any (w : World) (base : Nat) (v : Value) (l : List Nat) (m : Nat) (h : Own w base v l) (hbase : base ≤ w.heap.size) (hn : l.length ≤ 800000) (hm : (m : Int) ≤ 4611686018427387904) :
    Calls Try.prog 20 #[v, .int .i64 m] w fun e w' => ∃ v', e = .returned v' ∧ Own w' base v' (l ++ head m) ∧ Below base w w' := by
  have hx : bits .xor .i64 (-1) (m : Int) = -1 - (m : Int) := by
    exact i64_not m (by omega)
  have h2 := lebZ_not m 8
  have H := Lib.hid h
  clear h
  go_enter Try.func20, Try.ntmps20
  go_wp2_with fail
  refine (put_int w base v l m H.out hbase (by omega)).mono ?_
  rintro e w1 ⟨v1, rfl, ho1, hb1⟩
  rw [lebZ_nat] at ho1
  have HO1 := Lib.hid ho1
  have HB1 := Lib.hid hb1
  clear ho1 hb1
  have h3 := put_int w1 base v1 _ (-1 - (m : Int)) HO1.out (Nat.le_trans hbase HB1.out.size) (by simp; omega)
  rw [h2, ← hx] at h3
  clear hx h2
  go_wp2_with fail
  refine h3.mono ?_
  rintro e w2 ⟨v2, rfl, ho2, hb2⟩
  have HO2 := Lib.hid ho2
  have HB2 := Lib.hid hb2
  clear ho2 hb2
  go_wp2
  go_ret
  exact ⟨_, rfl, by rw [head, ← List.append_assoc]; exact HO2.out, HB1.out.trans HB2.out⟩

/-- 'make' whose run is known. -/
theorem wpList_make_run {P : Program} {w : World} {ops : Array Oper} {rest : List Oper} {o : Oper} {a : Act} {Q : Exit → Act → World → Prop} (hg : o.guard = none) (l c : Operand) (t : TypeId) (hop : o.op = Op.makeSlice t l c)
    (vl vc v' : Value) (w' : World) (hl : a.eval l = vl) (hc : a.eval c = vc) (hr : (Instr.makeSlice t vl vc).run P w = .ok v' w') (h : wpList P ops Q rest (a.put o.dst v') w') : wpList P ops Q (o :: rest) a w := by
  refine wpList_plain hg fun K hK => ?_
  unfold Oper.wp
  simp [execOp, hop, hl, hc, hr, Result.andThen]
  exact hK _ _ h

/-- A sector's first part, and a sector. -/
def body (n m : Nat) (l : List Nat) : List Nat := head m ++ l ++ List.replicate (n - 36 - l.length) 0
def sector (n m : Nat) (l : List Nat) : List Nat := body n m l ++ leb (M.crc (body n m l)) 4 ++ head m
theorem body_length {n m : Nat} {l : List Nat} (h : l.length + 36 ≤ n) : (body n m l).length = n - 20 := by simp [body]; omega
theorem sector_length {n m : Nat} {l : List Nat} (h : l.length + 36 ≤ n) : (sector n m l).length = n := by simp [sector, body_length h]; omega

end Go.Proofs.Ytipijjlajhofkaa
