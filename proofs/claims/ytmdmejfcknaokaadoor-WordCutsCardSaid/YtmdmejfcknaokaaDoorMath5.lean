/- Plain laws: a word cut out of its text; the words of two texts; the words of a word. -/
import Derived.Test.YtmdmejfcknaokaaDoorMath4
namespace Go.Proofs.YtmdmejfcknaokaaDoor

theorem byteAt_in (s : ByteArray) (i : Nat) (h : i < s.size) : byteAt s i = (s[i]).toNat := by
  unfold byteAt
  have : s.get! i = s[i] := by
    show s.data[i]! = _
    rw [getElem!_pos s.data i h]; rfl
  rw [this]
theorem byteAt_extract (s : ByteArray) (a e j : Nat) (he : e ≤ s.size) (hj : a + j < e) : byteAt (s.extract a e) j = byteAt s (a + j) := by
  rw [byteAt_in _ j (by rw [ByteArray.size_extract]; omega), byteAt_in _ (a + j) (by omega), ByteArray.getElem_extract]
theorem byteAt_left (a b : ByteArray) (j : Nat) (hj : j < a.size) : byteAt (a ++ b) j = byteAt a j := by
  rw [byteAt_in _ j (by rw [ByteArray.size_append]; omega), byteAt_in _ j hj, ByteArray.getElem_append_left hj]
theorem byteAt_right (a b : ByteArray) (j : Nat) (hj : j < b.size) : byteAt (a ++ b) (a.size + j) = byteAt b j := by
  rw [byteAt_in _ (a.size + j) (by rw [ByteArray.size_append]; omega), byteAt_in _ j hj, ByteArray.getElem_append_right (by omega)]
  congr 2
  omega

/-! ### A word cut out -/
theorem fold_is {s : ByteArray} {i : Nat} (h : fold (signR s i).1 ≠ []) : (signR s i).1 ≠ -1 := fun e => h (by rw [e]; exact fold_none)
theorem cut_run (s sub : ByteArray) (a e : Nat) (he : e ≤ s.size) (hz : sub.size = e - a) (hb : ∀ j, a + j < e → byteAt sub j = byteAt s (a + j)) : ∀ (k i : Nat) (t : List Nat) (c : Bool), s.size - i ≤ k → a ≤ i → i ≤ s.size → endW s i = e →
    wm (toks sub (i - a)) (some (0, t, c)) = [(runW s i t c, 0, e - a)]
  | k, i, t, c, hk, hai, hi, hend => by
    by_cases h : i < s.size ∧ fold (signR s i).1 ≠ []
    · have hp := sign_pos s i
      have hse := sign_end s i h.1
      have e1 := endW_go s i h
      have hle := endW_le s s.size (i + (signR s i).2) (by omega) hse
      have hs : signR sub (i - a) = signR s i := sign_own s sub i (i - a) (fold_is h.2) (fun m hm => by
        rw [hb _ (by omega)]; congr 1; omega) (by omega)
      have e2 : i - a + (signR s i).2 = i + (signR s i).2 - a := by omega
      rw [runW_go s i t c h, toks_lt sub (i - a) (by omega), hs, wm_go h.2, e2]
      cases k with
      | zero => omega
      | succ k => exact cut_run s sub a e he hz hb k _ _ _ (by omega) (by omega) hse (by rw [← e1]; exact hend)
    · rw [endW_stop s i h] at hend
      rw [runW_stop s i t c h, toks_end sub (i - a) (by omega), wm_stop rfl, hz]
      rfl
theorem words_cut (s : ByteArray) (a : Nat) (ha : a < s.size) (hf : fold (signR s a).1 ≠ []) : wordsL (s.extract a (endW s a)) = [(runW s a [] false, 0, endW s a - a)] := by
  have hle := endW_le s s.size a (by omega) (by omega)
  have h := endW_go s a ⟨ha, hf⟩
  have hp := sign_pos s a
  have hle2 := endW_le s s.size (a + (signR s a).2) (by omega) (sign_end s a ha)
  have hz : (s.extract a (endW s a)).size = endW s a - a := by rw [ByteArray.size_extract]; omega
  have hb : ∀ j, a + j < endW s a → byteAt (s.extract a (endW s a)) j = byteAt s (a + j) := fun j hj => byteAt_extract s a _ j hle.2 hj
  have hr := cut_run s (s.extract a (endW s a)) a (endW s a) hle.2 hz hb s.size a [] false (by omega) (by omega) (by omega) rfl
  rw [Nat.sub_self] at hr
  unfold wordsL
  rw [← hr]
  have hs : signR (s.extract a (endW s a)) 0 = signR s a := sign_own s _ a 0 (fold_is hf) (fun m hm => by
    rw [Nat.zero_add]; exact hb m (by omega)) (by omega)
  rw [toks_lt _ 0 (by omega), hs]
  exact wm_start hf

/-! ### Two texts -/
def shT (k : Nat) (x : Nat × List Nat) : Nat × List Nat := (x.1 + k, x.2)
def shW (k : Nat) (x : Wd) : Wd := (x.1, x.2.1 + k, x.2.2 + k)
def shS (k : Nat) : WSt → WSt
  | none => none
  | some (a, t, c) => some (a + k, t, c)
theorem wm_shift (k : Nat) : ∀ (l : List (Nat × List Nat)) (st : WSt), wm (l.map (shT k)) (shS k st) = (wm l st).map (shW k)
  | [], st => by rcases st with _ | ⟨a, t, c⟩ <;> rfl
  | (i, f) :: r, none => by
    by_cases h : f = []
    · show wm ((i + k, f) :: r.map (shT k)) none = _
      rw [wm_skip h, wm_skip h]; exact wm_shift k r none
    · show wm ((i + k, f) :: r.map (shT k)) none = _
      rw [wm_start h, wm_start h, wm_go h, wm_go h]; exact wm_shift k r (some (i, _, _))
  | (i, f) :: r, some (a, t, c) => by
    by_cases h : f = []
    · show wm ((i + k, f) :: r.map (shT k)) (some (a + k, t, c)) = _
      rw [wm_stop h, wm_stop h, List.map_cons]; exact congrArg _ (wm_shift k r none)
    · show wm ((i + k, f) :: r.map (shT k)) (some (a + k, t, c)) = _
      rw [wm_go h, wm_go h]; exact wm_shift k r (some (a, _, _))
theorem wm_split (e : Nat) (B : List (Nat × List Nat)) : ∀ (l : List (Nat × List Nat)) (st : WSt), wm (l ++ (e, []) :: B) st = wm (l ++ [(e, [])]) st ++ wm B none
  | [], none => by simp [wm]
  | [], some (a, t, c) => by simp [wm]
  | (i, f) :: r, none => by
    simp only [List.cons_append]
    by_cases h : f = []
    · rw [wm_skip h, wm_skip h]; exact wm_split e B r none
    · rw [wm_start h, wm_start h, wm_go h, wm_go h]; exact wm_split e B r _
  | (i, f) :: r, some (a, t, c) => by
    simp only [List.cons_append]
    by_cases h : f = []
    · rw [wm_stop h, wm_stop h, wm_split e B r none]; rfl
    · rw [wm_go h, wm_go h]; exact wm_split e B r _
theorem toks_part (s t : ByteArray) (k : Nat) (hb : ∀ j, j < s.size → byteAt t (k + j) = byteAt s j) (hk : k + s.size ≤ t.size) (hc : contB t (k + s.size) = false) : ∀ (n i : Nat), s.size - i ≤ n → i ≤ s.size →
    ∃ L, toks s i = L ++ [(s.size, [])] ∧ toks t (k + i) = L.map (shT k) ++ toks t (k + s.size)
  | n, i, hn, hi => by
    by_cases h : i < s.size
    · have hp := sign_pos s i
      have he := sign_end s i h
      cases n with
      | zero => omega
      | succ n =>
        obtain ⟨L, h1, h2⟩ := toks_part s t k hb hk hc n (i + (signR s i).2) (by omega) he
        refine ⟨(i, fold (signR s i).1) :: L, by rw [toks_lt s i h, h1]; rfl, ?_⟩
        rw [toks_lt t (k + i) (by omega), sign_embed s t k i h hb hk hc, Nat.add_assoc, h2, List.map_cons]
        show _ = (i + k, _) :: _
        rw [Nat.add_comm k i]
        rfl
    · have : i = s.size := by omega
      subst this
      exact ⟨[], by rw [toks_end s _ h]; rfl, rfl⟩
theorem cont_out (s : ByteArray) (i : Nat) (h : s.size ≤ i) : contB s i = false := by unfold contB; exact decide_eq_false (by omega)
theorem words_join (a b t : ByteArray) (ht : t = a ++ ⟨#[32]⟩ ++ b) : wordsL t = wordsL a ++ (wordsL b).map (shW (a.size + 1)) := by
  have hz : t.size = a.size + 1 + b.size := by rw [ht, ByteArray.size_append, ByteArray.size_append]; rfl
  have hA : ∀ j, j < a.size → byteAt t (0 + j) = byteAt a j := fun j hj => by
    rw [ht, Nat.zero_add, byteAt_left _ _ j (by rw [ByteArray.size_append]; omega), byteAt_left _ _ j hj]
  have h32 : byteAt t a.size = 32 := by
    rw [ht, byteAt_left _ _ a.size (by rw [ByteArray.size_append]; exact Nat.lt_succ_self _)]
    have := byteAt_right a ⟨#[32]⟩ 0 (by decide)
    rw [Nat.add_zero] at this
    rw [this]; rfl
  have hB : ∀ j, j < b.size → byteAt t (a.size + 1 + j) = byteAt b j := fun j hj => by
    have hs : (a ++ ⟨#[32]⟩ : ByteArray).size = a.size + 1 := by rw [ByteArray.size_append]; rfl
    have := byteAt_right (a ++ ⟨#[32]⟩) b j hj
    rw [hs] at this
    rw [ht]; exact this
  have c1 : contB t (0 + a.size) = false := by unfold contB; rw [Nat.zero_add, h32]; exact decide_eq_false (by omega)
  obtain ⟨LA, e1, e2⟩ := toks_part a t 0 hA (by omega) c1 a.size 0 (by omega) (by omega)
  obtain ⟨LB, e3, e4⟩ := toks_part b t (a.size + 1) hB (by omega) (cont_out _ _ (by omega)) b.size 0 (by omega) (by omega)
  have hs : signR t a.size = (32, 1) := by unfold signR; simp [h32]
  rw [Nat.zero_add, Nat.zero_add, toks_lt t a.size (by omega), hs, fold_blank] at e2
  rw [Nat.add_zero, toks_end t (a.size + 1 + b.size) (by omega)] at e4
  have e5 : (LB ++ [(b.size, ([] : List Nat))]).map (shT (a.size + 1)) = LB.map (shT (a.size + 1)) ++ [(t.size, [])] := by
    rw [List.map_append]
    simp only [List.map_cons, List.map_nil, shT]
    rw [hz, Nat.add_comm b.size]
  have e6 : LA.map (shT 0) = LA := by
    have : shT 0 = id := by funext x; rfl
    rw [this, List.map_id]
  unfold wordsL
  rw [e1, e2, e3, e6]
  show wm (LA ++ (a.size, []) :: toks t (a.size + 1)) none = _
  rw [wm_split, e4, ← e5]
  exact congrArg _ (wm_shift (a.size + 1) _ none)

/-! ### A word's own words -/
/-- Signs that stay what they are. -/
def Stays (t : List Nat) : Prop := ∃ cs : List Nat, t = cs.flatMap enc ∧ ∀ c ∈ cs, c ≤ 1114111 ∧ ¬ (55296 ≤ c ∧ c < 57344) ∧ fold (c : Int) = enc c
theorem Stays.nil : Stays [] := ⟨[], rfl, fun _ h => by simp at h⟩
theorem Stays.append {a b : List Nat} (h : Stays a) (k : Stays b) : Stays (a ++ b) := by
  obtain ⟨x, rfl, hx⟩ := h
  obtain ⟨y, rfl, hy⟩ := k
  refine ⟨x ++ y, by rw [List.flatMap_append], fun c hc => ?_⟩
  rcases List.mem_append.1 hc with h | h
  · exact hx c h
  · exact hy c h
theorem fold_letter (n : Nat) (h : 97 ≤ n ∧ n ≤ 122 ∨ 48 ≤ n ∧ n ≤ 57) : fold (n : Int) = enc n := by
  unfold fold
  rw [if_pos (by omega), Int.toNat_natCast]
theorem fold_stays (c : Int) : Stays (fold c) := by
  rcases fold_cases c with h | ⟨n, h, hn, h2⟩ | ⟨_, _, h⟩
  · rw [h]; exact Stays.nil
  · refine ⟨[n], by rw [h]; simp, fun c hc => ?_⟩
    obtain rfl : c = n := by simpa using hc
    rcases h2 with h2 | h2 | ⟨h2, h3⟩
    · exact ⟨hn, by omega, fold_letter _ (Or.inl h2)⟩
    · exact ⟨hn, by omega, fold_letter _ (Or.inr h2)⟩
    · have hv := apart_no _ h3
      unfold Utf8.valid at hv
      simp at hv
      refine ⟨hn, by omega, ?_⟩
      unfold fold
      rw [if_neg (by omega), if_neg (by omega), if_pos (by omega), h3, Int.toNat_natCast]
      rfl
  · generalize fold c = l at h
    induction l with
    | nil => exact Stays.nil
    | cons b l ih =>
      have hb := h b (by simp)
      have : Stays [b] := ⟨[b], by simp [enc]; omega, fun c hc => by
        obtain rfl : c = b := by simpa using hc
        exact ⟨by omega, by omega, fold_letter _ (Or.inl hb)⟩⟩
      exact this.append (ih (fun x hx => h x (by simp [hx])))
theorem runW_spec (s : ByteArray) : ∀ (k i : Nat) (t : List Nat) (c : Bool), s.size - i ≤ k → i ≤ s.size → Stays t → t.length ≤ 32 → Stays (runW s i t c) ∧ (runW s i t c).length ≤ 32 ∧ (t ≠ [] → runW s i t c ≠ [])
  | k, i, t, c, hk, hi, ht, hl => by
    by_cases h : i < s.size ∧ fold (signR s i).1 ≠ []
    · have hp := sign_pos s i
      have he := sign_end s i h.1
      rw [runW_go s i t c h]
      cases k with
      | zero => omega
      | succ k =>
        have hst : Stays (putW t c (fold (signR s i).1)) := by
          unfold putW
          split
          · exact ht
          · exact ht.append (fold_stays _)
        have ih := runW_spec s k (i + (signR s i).2) (putW t c (fold (signR s i).1)) (cutW t c (fold (signR s i).1)) (by omega) he hst (putW_le t c _ hl)
        refine ⟨ih.1, ih.2.1, fun hne => ih.2.2 ?_⟩
        unfold putW
        split
        · exact hne
        · intro e; exact hne (List.append_eq_nil_iff.1 e).1
    · rw [runW_stop s i t c h]
      exact ⟨ht, hl, id⟩
theorem runW_ok (s : ByteArray) (a : Nat) (ha : a < s.size) (hf : fold (signR s a).1 ≠ []) : Stays (runW s a [] false) ∧ (runW s a [] false).length ≤ 32 ∧ runW s a [] false ≠ [] := by
  have hlen := fold_len (signR s a).1
  have hput : putW [] false (fold (signR s a).1) = fold (signR s a).1 := by unfold putW cutW; simp; omega
  rw [runW_go s a [] false ⟨ha, hf⟩, hput]
  have := runW_spec s s.size (a + (signR s a).2) (fold (signR s a).1) (cutW [] false (fold (signR s a).1)) (by omega) (sign_end s a ha) (fold_stays _) (by omega)
  exact ⟨this.1, this.2.1, this.2.2 hf⟩

theorem byteAt_str (l : List Nat) (i : Nat) (h : i < l.length) (hb : l[i] < 256) : byteAt (str l) i = l[i] := by
  have hs : (str l).size = l.length := by simp [str, ByteArray.size]
  rw [byteAt_in _ i (by omega)]
  have : (str l)[i]'(by omega) = UInt8.ofNat l[i] := by simp [str, ByteArray.getElem_eq_getElem_data]
  rw [this]
  simp; omega
/-- A sign's bytes read as it. -/
theorem sign_enc (c : Nat) (h1 : c ≤ 1114111) (h2 : ¬ (55296 ≤ c ∧ c < 57344)) : signR (str (enc c)) 0 = ((c : Int), (enc c).length) := by
  have hsm := enc_small c h1
  have hs : (str (enc c)).size = (enc c).length := by simp [str, ByteArray.size]
  have hb : ∀ i (h : i < (enc c).length), byteAt (str (enc c)) i = (enc c)[i] := fun i h => byteAt_str _ i h (hsm _ (List.getElem_mem h))
  have hok : ∀ l, l ≤ c → okB l c = true := fun l hl => by unfold okB; exact decide_eq_true ⟨hl, h1, h2⟩
  generalize he : str (enc c) = t at *
  clear he
  unfold enc at *
  by_cases g0 : c < 128
  · simp only [g0, if_true, List.length_cons, List.length_nil] at *
    have b0 := hb 0 (by omega)
    simp only [List.getElem_cons_zero] at b0
    unfold signR
    simp only [b0]
    rw [if_pos (by omega)]
  · by_cases g1 : c < 2048
    · simp only [g0, g1, if_true, if_false, List.length_cons, List.length_nil] at *
      have b0 := hb 0 (by omega)
      have b1 := hb 1 (by omega)
      simp only [List.getElem_cons_zero, List.getElem_cons_succ] at b0 b1
      have c1 : contB t 1 = true := by unfold contB; rw [b1]; exact decide_eq_true (by omega)
      have e : 64 * (192 + c / 64 - 192) + (128 + c % 64 - 128) = c := by omega
      unfold signR
      simp only [Nat.zero_add, b0, b1, c1, e, hok 128 (by omega)]
      rw [if_neg (by omega), if_pos (by omega)]
      rfl
    · by_cases g2 : c < 65536
      · simp only [g0, g1, g2, if_true, if_false, List.length_cons, List.length_nil] at *
        have b0 := hb 0 (by omega)
        have b1 := hb 1 (by omega)
        have b2 := hb 2 (by omega)
        simp only [List.getElem_cons_zero, List.getElem_cons_succ] at b0 b1 b2
        have c1 : contB t 1 = true := by unfold contB; rw [b1]; exact decide_eq_true (by omega)
        have c2 : contB t 2 = true := by unfold contB; rw [b2]; exact decide_eq_true (by omega)
        have e : 64 * (64 * (224 + c / 4096 - 224) + (128 + c / 64 % 64 - 128)) + (128 + c % 64 - 128) = c := by omega
        unfold signR
        simp only [Nat.zero_add, b0, b1, b2, c1, c2, e, hok 2048 (by omega)]
        rw [if_neg (by omega), if_neg (by omega), if_pos (by omega)]
        rfl
      · simp only [g0, g1, g2, if_false, List.length_cons, List.length_nil] at *
        have b0 := hb 0 (by omega)
        have b1 := hb 1 (by omega)
        have b2 := hb 2 (by omega)
        have b3 := hb 3 (by omega)
        simp only [List.getElem_cons_zero, List.getElem_cons_succ] at b0 b1 b2 b3
        have c1 : contB t 1 = true := by unfold contB; rw [b1]; exact decide_eq_true (by omega)
        have c2 : contB t 2 = true := by unfold contB; rw [b2]; exact decide_eq_true (by omega)
        have c3 : contB t 3 = true := by unfold contB; rw [b3]; exact decide_eq_true (by omega)
        have e : 64 * (64 * (64 * (240 + c / 262144 - 240) + (128 + c / 4096 % 64 - 128)) + (128 + c / 64 % 64 - 128)) + (128 + c % 64 - 128) = c := by omega
        unfold signR
        simp only [Nat.zero_add, b0, b1, b2, b3, c1, c2, c3, e, hok 65536 (by omega)]
        rw [if_neg (by omega), if_neg (by omega), if_neg (by omega), if_pos (by omega)]
        rfl
theorem once_run (t : List Nat) (hl : t.length ≤ 32) (hsm : ∀ b ∈ t, b < 256) : ∀ (cs pre : List Nat), t = pre ++ cs.flatMap enc → (∀ c ∈ cs, c ≤ 1114111 ∧ ¬ (55296 ≤ c ∧ c < 57344) ∧ fold (c : Int) = enc c) →
    wm (toks (str t) pre.length) (some (0, pre, false)) = [(t, 0, t.length)]
  | [], pre, ht, _ => by
    have hs : (str t).size = t.length := by simp [str, ByteArray.size]
    have : pre = t := by rw [ht]; simp
    subst this
    rw [toks_end _ _ (by omega), wm_stop rfl, hs]
    rfl
  | c :: cs, pre, ht, hc => by
    have hs : (str t).size = t.length := by simp [str, ByteArray.size]
    obtain ⟨h1, h2, h3⟩ := hc c (by simp)
    have hel := enc_len c
    rw [List.flatMap_cons, ← List.append_assoc] at ht
    have hlen : pre.length + (enc c).length ≤ t.length := by rw [ht]; simp
    have hse := sign_enc c h1 h2
    have hne : (signR (str (enc c)) 0).1 ≠ -1 := by rw [hse]; show (c : Int) ≠ -1; omega
    have hsg : signR (str t) pre.length = ((c : Int), (enc c).length) := by
      rw [← hse]
      refine sign_own (str (enc c)) (str t) 0 pre.length hne (fun m hm => ?_) (by rw [hse, hs]; exact hlen)
      rw [hse] at hm
      have hm' : m < (enc c).length := hm
      have hmt : pre.length + m < t.length := by omega
      have hme : (enc c)[m] < 256 := enc_small c h1 _ (List.getElem_mem hm')
      have hget : t[pre.length + m] = (enc c)[m] := by
        have : t[pre.length + m]? = (enc c)[m]? := by
          rw [ht, List.getElem?_append_left (by simp; omega), List.getElem?_append_right (by omega)]
          congr 1; omega
        rw [List.getElem?_eq_getElem hmt, List.getElem?_eq_getElem hm'] at this
        exact Option.some.inj this
      rw [Nat.zero_add, byteAt_str t _ hmt (by rw [hget]; exact hme), byteAt_str _ m hm' hme, hget]
    have hf : fold (c : Int) ≠ [] := by rw [h3]; intro e; rw [e] at hel; simp at hel
    have hcut : cutW pre false (enc c) = false := by unfold cutW; simp; omega
    have hput : putW pre false (enc c) = pre ++ enc c := by unfold putW; rw [hcut]; rfl
    rw [toks_lt _ _ (by omega), hsg, wm_go hf, h3, hcut, hput]
    have := once_run t hl hsm cs (pre ++ enc c) ht (fun x hx => hc x (by simp [hx]))
    rw [List.length_append] at this
    exact this
theorem words_once (t : List Nat) (h : Stays t) (hl : t.length ≤ 32) (hne : t ≠ []) : wordsL (str t) = [(t, 0, t.length)] := by
  obtain ⟨cs, ht, hc⟩ := h
  have hsm : ∀ b ∈ t, b < 256 := by
    intro b hb
    rw [ht] at hb
    obtain ⟨c, hc1, hb⟩ := List.mem_flatMap.1 hb
    exact enc_small c (hc c hc1).1 b hb
  have hr := once_run t hl hsm cs [] (by simpa using ht) hc
  unfold wordsL
  rw [← hr]
  show wm (toks (str t) 0) none = wm (toks (str t) 0) _
  have hs : (str t).size = t.length := by simp [str, ByteArray.size]
  have hpos : 0 < t.length := List.length_pos_iff.2 hne
  rw [toks_lt _ 0 (by omega)]
  refine wm_start ?_
  cases cs with
  | nil => exact absurd (by simpa using ht) hne
  | cons c cs =>
    obtain ⟨h1, h2, h3⟩ := hc c (by simp)
    have hse := sign_enc c h1 h2
    have hel := enc_len c
    have hlen : (enc c).length ≤ t.length := by rw [ht, List.flatMap_cons]; simp
    have hsg : signR (str t) 0 = ((c : Int), (enc c).length) := by
      rw [← hse]
      refine sign_own (str (enc c)) (str t) 0 0 (by rw [hse]; show (c : Int) ≠ -1; omega) (fun m hm => ?_) (by rw [hse, hs]; simpa using hlen)
      rw [hse] at hm
      have hm' : m < (enc c).length := hm
      have hmt : m < t.length := by omega
      have hme : (enc c)[m] < 256 := enc_small c h1 _ (List.getElem_mem hm')
      have hget : t[m] = (enc c)[m] := by
        have : t[m]? = (enc c)[m]? := by rw [ht, List.flatMap_cons, List.getElem?_append_left hm']
        rw [List.getElem?_eq_getElem hmt, List.getElem?_eq_getElem hm'] at this
        exact Option.some.inj this
      rw [Nat.zero_add, byteAt_str t _ hmt (by rw [hget]; exact hme), byteAt_str _ m hm' hme, hget]
    rw [hsg, h3]
    intro e; rw [e] at hel; simp at hel
end Go.Proofs.YtmdmejfcknaokaaDoor
