/- Walks: the document's disk: its rows, Right, act, choice. -/
import Derived.Test.YtapllljbbldfkaaW12
namespace Go.Proofs.Ytapllljbbldfkaa
open Go.RowKit Go.Maps

/-- What stands fast, as strings. -/
def fasts (s : Nat) (f : Int → List Nat) : List Value := (List.range s).map fun i => .string (str (f (i : Nat)))
def SRow (w : World) (v : Value) (s : Nat) (f : Int → List Nat) : Prop := w.ownsRow 0 9 1 v s (fasts s f)
def wstrs (L : List (Int × List Nat)) : List Value := wcells (L.map fun e => (e.1, .string (str e.2)))
def WRow (w : World) (v : Value) (L : List (Int × List Nat)) : Prop := w.ownsRow 0 78 2 v L.length (wstrs L)
/-- The document's disk as a value. -/
def RV (D : Dsk) (fv lv : Value) : Value := .agg #[.int .i64 D.sectors, .int .i64 D.size, fv, lv, .int .i64 D.armed, .bool D.down]
structure Rows (w : World) (D : Dsk) (fv lv : Value) : Prop where
  f : SRow w fv D.sectors D.fast
  l : WRow w lv D.loose

theorem fasts_length (s : Nat) (f : Int → List Nat) : (fasts s f).length = s := by simp [fasts]
theorem fasts_get {s k : Nat} (f : Int → List Nat) (h : k < s) : (fasts s f)[k]? = some (.string (str (f (k : Nat)))) := by simp [fasts, h]
theorem wstrs_length (L : List (Int × List Nat)) : (wstrs L).length = L.length * 2 := by unfold wstrs; rw [wcells_length]; simp
theorem wstrs_get {L : List (Int × List Nat)} {k : Nat} (h : k < L.length) : (wstrs L)[k * 2]? = some (.int .i64 L[k].1) ∧ (wstrs L)[k * 2 + 1]? = some (.string (str L[k].2)) := by
  unfold wstrs
  exact wcells_get (vs := L.map fun e => (e.1, .string (str e.2))) (k := k) (e := (L[k].1, .string (str L[k].2))) (by simp [h])

section
variable {w w' : World} {T : List Nat} {v : Value} {t : TypeId} {s n : Nat} {xs : List Value}
theorem row_turn {base : Nat} (h : w.ownsRow base t s v n xs) (k : Turn T w w') (hT : ∀ g, v.ownBlock = some g → g ∉ T) : w'.ownsRow base t s v n xs := by
  refine ⟨h.1, ?_⟩
  rcases h.2 with h0 | ⟨g, cap, cur, rfl, hb, hh, r⟩
  · exact .inl h0
  · exact .inr ⟨g, cap, cur, rfl, hb, (k.block g (lt_of_block hh) (hT g rfl)).trans hh, r⟩
theorem row_grew {base : Nat} (h : w.ownsRow base t s v n xs) (k : Below w.heap.size w w') : w'.ownsRow base t s v n xs := row_turn h (Turn.of_below k []) (by simp)
theorem row_kind {base : Nat} (h : w.ownsRow base t s v n xs) {g : Nat} (hg : v.ownBlock = some g) : ∃ cs, w.heap[g]? = some (.cells cs t (0, 0)) := by
  rcases h.2 with ⟨rfl, _⟩ | ⟨g', cap, cur, rfl, _, hh, _⟩
  · simp [Value.ownBlock] at hg
  · simp [Value.ownBlock] at hg; subst hg; exact ⟨_, hh⟩
theorem row_form {base : Nat} (h : w.ownsRow base t s v n xs) : ∃ A c, v = .slice A n c ∧ n ≤ c := by
  rcases h.2 with ⟨rfl, h0⟩ | ⟨g', cap, cur, rfl, _, hh, hc, _⟩
  · exact ⟨none, 0, by rw [h0], by omega⟩
  · exact ⟨_, _, rfl, hc⟩
theorem row_some {base : Nat} (h : w.ownsRow base t s v n xs) (hn : 0 < n) : ∃ g c, v = .slice (some ⟨g, 0, none⟩) n c ∧ n ≤ c ∧ g < w.heap.size := by
  rcases h.2 with ⟨rfl, h0⟩ | ⟨g', cap, cur, rfl, _, hh, hc, _⟩
  · omega
  · exact ⟨_, _, rfl, hc, lt_of_block hh⟩
end
theorem Rows.grew {w w' : World} {D : Dsk} {fv lv : Value} (h : Rows w D fv lv) (k : Below w.heap.size w w') : Rows w' D fv lv := ⟨row_grew h.f k, row_grew h.l k⟩
theorem Rows.turn {w w' : World} {D : Dsk} {fv lv : Value} {T : List Nat} (h : Rows w D fv lv) (k : Turn T w w') (hT : ∀ j ∈ T, ∀ cs t, w.heap[j]? = some (.cells cs t (0, 0)) → t ≠ 9 ∧ t ≠ 78) : Rows w' D fv lv :=
  ⟨row_turn h.f k (fun g hg hj => by obtain ⟨cs, e⟩ := row_kind h.f hg; exact (hT g hj _ _ e).1 rfl), row_turn h.l k (fun g hg hj => by obtain ⟨cs, e⟩ := row_kind h.l hg; exact (hT g hj _ _ e).2 rfl)⟩

/-- May there be such a disk? -/
def rightB (s z : Int) : Bool := decide (1 ≤ s ∧ s ≤ 1048576 ∧ 64 ≤ z ∧ z ≤ 4096)
theorem Right_any (s z : Int) (w : World) : Calls Try.prog 15 #[.int .i64 s, .int .i64 z] w fun e w' => e = .returned (.bool (rightB s z)) ∧ w' = w := by
  obtain ⟨r, hr⟩ : ∃ r, r = rightB s z := ⟨_, rfl⟩
  rw [← hr]
  have HR := Lib.hid hr
  clear hr
  by_cases h1 : 1 ≤ s <;> by_cases h2 : s ≤ 1048576 <;> by_cases h3 : 64 ≤ z <;> by_cases h4 : z ≤ 4096
  all_goals
    have hv := HR.out
    unfold rightB at hv
    first
    | (rw [decide_eq_true (by omega)] at hv; have HV := Lib.hid hv; clear hv HR)
    | (rw [decide_eq_false (by omega)] at hv; have HV := Lib.hid hv; clear hv HR)
    go_enter Try.func15, Try.ntmps15
    go_wp2
    all_goals first | (go_ret; exact ⟨ret_bool HV.out.symm, rfl⟩) | (exfalso; omega)

set_option maxHeartbeats 1000000 in
theorem act_ref (D : Dsk) (FA LA : Option Addr) (fn fc ln lc : Nat) (w : World) (h0 : 0 ≤ D.armed) (h1 : D.armed ≤ 9223372036854775807) : Calls Try.prog 35 #[RV D (.slice FA fn fc) (.slice LA ln lc)] w fun e w' => e = .returned (RV D.act (.slice FA fn fc) (.slice LA ln lc)) ∧ Below w.heap.size w w' := by
  unfold RV
  rw [Dsk.act_sectors, Dsk.act_size]
  obtain ⟨a, ha⟩ : ∃ a, a = D.act.armed := ⟨_, rfl⟩
  obtain ⟨z, hz⟩ : ∃ z, z = D.act.down := ⟨_, rfl⟩
  rw [← ha, ← hz]
  by_cases hp : 0 < D.armed
  · have e : D.act = { D with armed := D.armed - 1, down := decide (D.armed - 1 = 0) } := by unfold Dsk.act; rw [if_pos hp]
    rw [e] at ha hz
    dsimp only at ha hz
    rw [← beq_dec] at hz
    subst ha hz
    clear e
    generalize D.armed = x at *
    generalize D.down = y at *
    go_enter Try.func35, Try.ntmps35
    go_wp2
    refine bodyPost_ret (v := .agg #[.int .i64 D.sectors, .int .i64 D.size, .slice FA fn fc, .slice LA ln lc, .int .i64 (x - 1), .bool (x - 1 == 0)]) ?_ rfl ⟨rfl, ?_⟩
    · simp [results, Try.results35, go_sem]
    · go_grown
  · have e : D.act = D := by unfold Dsk.act; rw [if_neg hp]
    rw [e] at ha hz
    subst ha hz
    clear e
    generalize D.armed = x at *
    generalize D.down = y at *
    go_enter Try.func35, Try.ntmps35
    go_wp2
    refine bodyPost_ret (v := .agg #[.int .i64 D.sectors, .int .i64 D.size, .slice FA fn fc, .slice LA ln lc, .int .i64 x, .bool y]) ?_ rfl ⟨rfl, ?_⟩
    · simp [results, Try.results35, go_sem]
    · go_grown

theorem rem_lt (x : Int) (n : Nat) (hn : 0 < n) : (if x.tmod n < 0 then x.tmod n + n else x.tmod n) = ((x % (n : Int)).toNat : Int) := by
  have h1 := Int.emod_nonneg x (show (n : Int) ≠ 0 by omega)
  rw [Int.toNat_of_nonneg h1]
  by_cases h : x < 0
  · have hm : x.tmod n = if (n : Int) ∣ x then x % n else x % n - n := by
      rw [Int.tmod_eq_emod]
      by_cases hd : (n : Int) ∣ x
      · simp [hd]
      · rw [if_neg hd, if_neg (by omega)]
        simp
    have h2 := Int.emod_lt_of_pos x (show (0 : Int) < n by omega)
    rw [hm]
    by_cases hd : (n : Int) ∣ x
    · rw [if_pos hd]
      have : x % (n : Int) = 0 := Int.emod_eq_zero_of_dvd hd
      rw [this]; simp
    · rw [if_neg hd, if_pos (by omega)]
      omega
  · rw [Int.tmod_eq_emod_of_nonneg (by omega), if_neg (by omega)]

set_option maxHeartbeats 1000000 in
theorem choice_ref (A : Option Addr) (fs : List Int) (m c k : Nat) (n : Int) (nn : Nat) (w : World) (hn : n = nn) (hm : fs.length = m) (h1 : (1 : Int) ≤ n) (h2 : n ≤ 5000) (hr : IRd w A fs) :
    Calls Try.prog 36 #[.slice A m c, .int .i64 k, .int .i64 n] w fun e w' => e = .returned (.int .i64 (pick (fs.drop k) nn)) ∧ w' = w := by
  by_cases hk : k < m
  · have hkl : k < fs.length := by omega
    obtain ⟨p, rfl, _, hc⟩ := hr.2 (by intro e; rw [e] at hkl; simp at hkl)
    have hx := hc k hkl
    have hp : pick (fs.drop k) nn = (fs[k] % (nn : Int)).toNat := by
      rw [List.drop_eq_getElem_cons hkl]; rfl
    rw [hp]
    obtain ⟨x, hxe⟩ : ∃ x, x = fs[k] := ⟨_, rfl⟩
    rw [← hxe] at hx ⊢
    have hl := rem_lt x nn (by omega)
    rw [← hn] at hl
    have t1 := Int.tmod_lt_of_pos x (show (0 : Int) < n by omega)
    have t2 := Int.lt_tmod_of_pos x (show (0 : Int) < n by omega)
    have hkm : (k : Int) < m := by omega
    rw [hn] at hl
    obtain ⟨r, hre⟩ : ∃ r, r = (x % (nn : Int)).toNat := ⟨_, rfl⟩
    rw [← hre] at hl ⊢
    rw [← hn] at hl
    clear hc hp hr hxe hre hm hk hkl hn
    by_cases hneg : x.tmod n < 0
    · rw [if_pos hneg] at hl
      go_enter Try.func36, Try.ntmps36
      go_wp2
      all_goals (go_ret; exact ⟨rfl, rfl⟩)
    · rw [if_neg hneg] at hl
      go_enter Try.func36, Try.ntmps36
      go_wp2
      all_goals (go_ret; exact ⟨rfl, rfl⟩)
  · have hp : pick (fs.drop k) nn = 0 := by rw [List.drop_eq_nil_of_le (by omega)]; rfl
    rw [hp]
    have hkm : ¬ (k : Int) < m := by omega
    clear hr hp hm hk
    go_enter Try.func36, Try.ntmps36
    go_wp2
    all_goals (go_ret; exact ⟨rfl, rfl⟩)
end Go.Proofs.Ytapllljbbldfkaa
