/- Walks: the table, Fold. Printed by mk_w5.py. -/
import Derived.Test.YtmdmejfcknaokaaDoorW4
import Derived.Laws.Tables
namespace Go.Proofs.YtmdmejfcknaokaaDoor
open Go.RowKit

def runV (e : Nat × Nat × List Nat) : List Value := [.int .i32 e.1, .int .i32 e.2.1, .string (str e.2.2)]
def tableV : Array Value := (runsT.flatMap runV).toArray
def zeroV : Array Value := ((List.replicate 40 [Value.int .i32 0, .int .i32 0, .string ⟨#[]⟩]).flatMap id).toArray
theorem zero38 (w : World) : (zeroValue 38).run Tryd.prog w = .ok (.agg zeroV) w := by kernel_rfl
theorem zero38_size : zeroV.size = 120 := by kernel_rfl

theorem index_any (k : Nat) (h : k < runsT.length) (w : World) : (Instr.index 38 (.agg tableV) (.int .i64 (k : Int))).run Tryd.prog w = .ok (.agg (runV runsT[k]).toArray) w :=
  match k, h with
  | 0, _ => by kernel_rfl
  | 1, _ => by kernel_rfl
  | 2, _ => by kernel_rfl
  | 3, _ => by kernel_rfl
  | 4, _ => by kernel_rfl
  | 5, _ => by kernel_rfl
  | 6, _ => by kernel_rfl
  | 7, _ => by kernel_rfl
  | 8, _ => by kernel_rfl
  | 9, _ => by kernel_rfl
  | 10, _ => by kernel_rfl
  | 11, _ => by kernel_rfl
  | 12, _ => by kernel_rfl
  | 13, _ => by kernel_rfl
  | 14, _ => by kernel_rfl
  | 15, _ => by kernel_rfl
  | 16, _ => by kernel_rfl
  | 17, _ => by kernel_rfl
  | 18, _ => by kernel_rfl
  | 19, _ => by kernel_rfl
  | 20, _ => by kernel_rfl
  | 21, _ => by kernel_rfl
  | 22, _ => by kernel_rfl
  | 23, _ => by kernel_rfl
  | 24, _ => by kernel_rfl
  | 25, _ => by kernel_rfl
  | 26, _ => by kernel_rfl
  | 27, _ => by kernel_rfl
  | 28, _ => by kernel_rfl
  | 29, _ => by kernel_rfl
  | 30, _ => by kernel_rfl
  | 31, _ => by kernel_rfl
  | 32, _ => by kernel_rfl
  | 33, _ => by kernel_rfl
  | 34, _ => by kernel_rfl
  | 35, _ => by kernel_rfl
  | 36, _ => by kernel_rfl
  | 37, _ => by kernel_rfl
  | 38, _ => by kernel_rfl
  | 39, _ => by kernel_rfl
  | k + 40, h => absurd h (by show ¬ k + 40 < 40; omega)
def row3 (a b : Int) (s : ByteArray) : Array Value := #[.int .i32 a, .int .i32 b, .string s]
set_option maxRecDepth 20000 in
theorem built38 (w : World) : (Instr.build 38 #[(0, .agg (row3 170 170 ⟨#[97]⟩)), (1, .agg (row3 181 181 ⟨#[117]⟩)), (2, .agg (row3 186 186 ⟨#[111]⟩)), (3, .agg (row3 192 197 ⟨#[97]⟩)), (4, .agg (row3 198 198 ⟨#[97, 101]⟩)), (5, .agg (row3 199 199 ⟨#[99]⟩)), (6, .agg (row3 200 203 ⟨#[101]⟩)), (7, .agg (row3 204 207 ⟨#[105]⟩)), (8, .agg (row3 208 208 ⟨#[100]⟩)), (9, .agg (row3 209 209 ⟨#[110]⟩)), (10, .agg (row3 210 214 ⟨#[111]⟩)), (11, .agg (row3 216 216 ⟨#[111]⟩)), (12, .agg (row3 217 220 ⟨#[117]⟩)), (13, .agg (row3 221 221 ⟨#[121]⟩)), (14, .agg (row3 222 222 ⟨#[116, 104]⟩)), (15, .agg (row3 223 223 ⟨#[115, 115]⟩)), (16, .agg (row3 255 255 ⟨#[121]⟩)), (17, .agg (row3 256 261 ⟨#[97]⟩)), (18, .agg (row3 262 269 ⟨#[99]⟩)), (19, .agg (row3 270 273 ⟨#[100]⟩)), (20, .agg (row3 274 283 ⟨#[101]⟩)), (21, .agg (row3 284 291 ⟨#[103]⟩)), (22, .agg (row3 292 295 ⟨#[104]⟩)), (23, .agg (row3 296 305 ⟨#[105]⟩)), (24, .agg (row3 306 307 ⟨#[105, 106]⟩)), (25, .agg (row3 308 309 ⟨#[106]⟩)), (26, .agg (row3 310 312 ⟨#[107]⟩)), (27, .agg (row3 313 322 ⟨#[108]⟩)), (28, .agg (row3 323 329 ⟨#[110]⟩)), (29, .agg (row3 330 331 ⟨#[110, 103]⟩)), (30, .agg (row3 332 337 ⟨#[111]⟩)), (31, .agg (row3 338 339 ⟨#[111, 101]⟩)), (32, .agg (row3 340 345 ⟨#[114]⟩)), (33, .agg (row3 346 353 ⟨#[115]⟩)), (34, .agg (row3 354 359 ⟨#[116]⟩)), (35, .agg (row3 360 371 ⟨#[117]⟩)), (36, .agg (row3 372 373 ⟨#[119]⟩)), (37, .agg (row3 374 376 ⟨#[121]⟩)), (38, .agg (row3 377 382 ⟨#[122]⟩)), (39, .agg (row3 383 383 ⟨#[115]⟩))]).run Tryd.prog w = .ok (.agg tableV) w := run_build w 38 _ _ (by kernel_rfl)
theorem built37 (a b : Int) (s : ByteArray) (w : World) : (Instr.build 37 #[(0, .int .i32 a), (1, .int .i32 b), (2, .string s)]).run Tryd.prog w = .ok (.agg (row3 a b s)) w := run_build w 37 _ _ (by kernel_rfl)
theorem all_one : tableV.all (·.oneCell') = true := by kernel_rfl
theorem table_size : tableV.size = 120 := by kernel_rfl
theorem store38 (w : World) (T zs : Array Value) (hT : T.size = 120) (h1 : T.all (·.oneCell') = true) (hs : zs.size = 120) : (storeVar 38 ⟨w.heap.size, 0, none⟩ (.agg T)).run Tryd.prog (w.alloc (.cells zs 38)) = .ok () ((w.alloc (.cells zs 38)).setRow w.heap.size T) :=
  run_storeVar_row _ w.heap.size 38 38 zs T (by show (w.heap.push _)[w.heap.size]? = _; simp) (by rw [hT]; kernel_rfl) (by rw [hs, hT]) h1
theorem load38 (w : World) (T zs : Array Value) (hT : T.size = 120) : (loadVar 38 ⟨w.heap.size, 0, none⟩).run Tryd.prog ((w.alloc (.cells zs 38)).setRow w.heap.size T) = .ok (.agg T) ((w.alloc (.cells zs 38)).setRow w.heap.size T) := by
  have hg : (w.alloc (.cells zs 38)).heap[w.heap.size]? = some (.cells zs 38 (0, 0)) := by show (w.heap.push _)[w.heap.size]? = _; simp
  have hc := run_loadCells_list (P := Tryd.prog) ((w.alloc (.cells zs 38)).setRow w.heap.size T) ⟨w.heap.size, 0, none⟩ T.toList (fun j v hj => by
    have e : (⟨w.heap.size, 0, none⟩ : Addr).add j = ⟨w.heap.size, j, none⟩ := by simp [Addr.add]; omega
    rw [e, cell_setRow_same _ _ _ _ _ _ _ hg]
    simpa using hj)
  have h1 : ∀ w, (isAgg 38).run Tryd.prog w = .ok true w := fun w => by kernel_rfl
  have h2 : ∀ w, (sizeOf 38).run Tryd.prog w = .ok 120 w := fun w => by kernel_rfl
  have hl : T.toList.length = 120 := by simpa using hT
  rw [hl] at hc
  simp only [loadVar, Sem.run_bind, h1, Result.andThen_ok, if_true, h2, hc, Sem.run_pure]

theorem result17 (tmps : Array Value) (w : World) (g : Nat) (hp : tmps.getD 0 undef = .pointer (some ⟨g, 0, none⟩)) (hl : (loadVar 38 ⟨g, 0, none⟩).run Tryd.prog w = .ok (.agg tableV) w) :
    (results Tryd.f17 tmps).run Tryd.prog w = .ok (.agg tableV) w := by
  have hp' : tmps[0]?.getD undef = .pointer (some ⟨g, 0, none⟩) := by simpa using hp
  simp [results, hp', asAddr, hl]
theorem below_row (w : World) (g : Nat) (cs : Array Value) : Below g w (w.setRow g cs) :=
  ⟨rfl, rfl, rfl, by simp, fun k hk => setRow_other w g k cs (by omega)⟩
theorem wpList_buildTo {P : Program} {ops : Array Oper} {rest : List Oper} {o : Oper} {a : Act} {w : World} {Q : Exit → Act → World → Prop} (hg : o.guard = none) (t : TypeId) (parts : Array (Nat × Operand)) (ho : o.op = .build t parts)
    (cells : Array Value) (hf : P.built t (parts.map fun (i, x) => (i, a.eval x)).toList = some cells)
    (h : wpList P ops Q rest (a.put o.dst (.agg cells)) w) : wpList P ops Q (o :: rest) a w :=
  wpList_build hg t parts ho (by rw [hf]; rfl) (by rw [hf]; exact h)
set_option maxRecDepth 20000 in
set_option maxHeartbeats 2000000 in
theorem table_any (w : World) : Calls Tryd.prog 17 #[] w fun e w' => e = .returned (.agg tableV) ∧ Below w.heap.size w w' := by
  obtain ⟨zs, hz, hs⟩ : ∃ zs, (∀ w, (zeroValue 38).run Tryd.prog w = .ok (.agg zs) w) ∧ zs.size = 120 := ⟨_, zero38, zero38_size⟩
  have hne : ¬ zs = #[] := by intro e; rw [e] at hs; simp at hs
  have hb := built38
  have h1 := all_one
  have ht := table_size
  have hst := store38 w tableV zs ht h1 hs
  have hld := load38 w tableV zs ht
  have hb37 := built37
  go_enter Tryd.func17, Tryd.ntmps17
  repeat (fail_if_success (refine wpList_build rfl 38 _ rfl ?_ ?_)
          go_step)
  refine wpList_buildTo rfl 38 _ rfl tableV (by kernel_rfl) ?_
  clear hb hb37 hst
  refine wpList_store_row rfl 38 _ _ rfl w.heap.size tableV rfl rfl 38 zs (by show (w.heap.push _)[w.heap.size]? = _; simp) (by kernel_rfl) (by rw [hs, ht]) h1 ?_
  simp only [Act.put]
  go_wp2
  refine bodyPost_ret (result17 _ _ _ rfl hld) rfl ?_
  exact ⟨rfl, ((Below.refl _ w).alloc (Nat.le_refl _) _).trans (below_row _ _ _)⟩
theorem look_drop (c : Int) (k : Nat) (h : k < runsT.length) : lookT c (runsT.drop k) = if (runsT[k].1 : Int) ≤ c ∧ c ≤ runsT[k].2.1 then runsT[k].2.2 else lookT c (runsT.drop (k + 1)) := by
  rw [List.drop_eq_getElem_cons h]; rfl
theorem runs_ok : ∀ e ∈ runsT, e.1 ≤ 383 ∧ e.2.1 ≤ 383 := by decide +kernel
end Go.Proofs.YtmdmejfcknaokaaDoor
