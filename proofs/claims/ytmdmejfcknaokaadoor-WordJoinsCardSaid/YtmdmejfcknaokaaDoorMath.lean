/- Plain laws: what a sign becomes; signs of a text. -/
import GoSem.Claim
namespace Go.Proofs.YtmdmejfcknaokaaDoor

/-- A sign's bytes. -/
def enc (c : Nat) : List Nat :=
  if c < 128 then [c] else if c < 2048 then [192 + c / 64, 128 + c % 64] else if c < 65536 then [224 + c / 4096, 128 + c / 64 % 64, 128 + c % 64]
  else [240 + c / 262144, 128 + c / 4096 % 64, 128 + c / 64 % 64, 128 + c % 64]
def str (l : List Nat) : ByteArray := ⟨(l.map UInt8.ofNat).toArray⟩
theorem encode_eq (c : Nat) (h : Utf8.valid (c : Int) = true) : Utf8.encode (c : Int) = str (enc c) := by
  unfold Utf8.encode enc str
  rw [h]
  simp only [if_true, Int.toNat_natCast]
  split
  · simp
  · split
    · simp
    · split <;> simp

/-- What signs from C0 on become: first, last, text. -/
def runsT : List (Nat × Nat × List Nat) :=
  [(0xAA, 0xAA, [97]), (0xB5, 0xB5, [117]), (0xBA, 0xBA, [111]),
   (0xC0, 0xC5, [97]), (0xC6, 0xC6, [97, 101]), (0xC7, 0xC7, [99]), (0xC8, 0xCB, [101]), (0xCC, 0xCF, [105]),
   (0xD0, 0xD0, [100]), (0xD1, 0xD1, [110]), (0xD2, 0xD6, [111]), (0xD8, 0xD8, [111]), (0xD9, 0xDC, [117]),
   (0xDD, 0xDD, [121]), (0xDE, 0xDE, [116, 104]), (0xDF, 0xDF, [115, 115]), (0xFF, 0xFF, [121]),
   (0x100, 0x105, [97]), (0x106, 0x10D, [99]), (0x10E, 0x111, [100]), (0x112, 0x11B, [101]), (0x11C, 0x123, [103]),
   (0x124, 0x127, [104]), (0x128, 0x131, [105]), (0x132, 0x133, [105, 106]), (0x134, 0x135, [106]), (0x136, 0x138, [107]),
   (0x139, 0x142, [108]), (0x143, 0x149, [110]), (0x14A, 0x14B, [110, 103]), (0x14C, 0x151, [111]), (0x152, 0x153, [111, 101]),
   (0x154, 0x159, [114]), (0x15A, 0x161, [115]), (0x162, 0x167, [116]), (0x168, 0x173, [117]), (0x174, 0x175, [119]),
   (0x176, 0x178, [121]), (0x179, 0x17E, [122]), (0x17F, 0x17F, [115])]
/-- The first run that holds it. -/
def lookT (c : Int) : List (Nat × Nat × List Nat) → List Nat
  | [] => []
  | e :: r => if (e.1 : Int) ≤ c ∧ c ≤ e.2.1 then e.2.2 else lookT c r
def apart (c : Int) : Bool := decide (0x2000 ≤ c ∧ c ≤ 0x206F ∨ 0x3000 ≤ c ∧ c ≤ 0x303F ∨ c = 65533) || !Utf8.valid c
def fold (c : Int) : List Nat :=
  if 97 ≤ c ∧ c ≤ 122 ∨ 48 ≤ c ∧ c ≤ 57 then enc c.toNat
  else if 65 ≤ c ∧ c ≤ 90 then enc (c + 32).toNat
  else if 384 ≤ c then (if apart c then [] else enc c.toNat)
  else lookT (if 0xE0 ≤ c ∧ c ≤ 0xFE then c - 32 else c) runsT

/-- The pieces of a text, each with a blank behind it, as lists. -/
def piecesGo : List Nat → List Nat → List (List Nat)
  | _, [] => []
  | out, b :: r => if b = 32 then out :: piecesGo [] r else piecesGo (out ++ [b]) r
/-- The n-th piece. -/
def piece (s : List Nat) (n : Nat) : List Nat := ((piecesGo [] s)[n]?).getD []
def bytesOf (s : String) : List Nat := s.toUTF8.toList.map UInt8.toNat
def basesL : List Nat := bytesOf "a a a a a a ae c e e e e i i i i d n o o o o o - o u u u u y th ss "
def moreL : List Nat := bytesOf "a a a a a a c c c c c c c c d d d d e e e e e e e e e e g g g g g g g g h h h h i i i i i i i i i i ij ij j j k k k l l l l l l l l l l n n n n n n n ng ng o o o o o o oe oe r r r r r r s s s s s s s s t t t t t t u u u u u u u u u u u u w w y y y z z z z z z s "
def dash (l : List Nat) : List Nat := if l = [45] then [] else l
/-- The document's. -/
def foldR (c0 : Int) : List Nat :=
  let c := if 65 ≤ c0 ∧ c0 ≤ 90 then c0 + 32 else c0
  if 97 ≤ c ∧ c ≤ 122 ∨ 48 ≤ c ∧ c ≤ 57 then enc c.toNat
  else if c < 0 ∨ 1114111 < c ∨ 55296 ≤ c ∧ c < 57344 then []
  else if 384 ≤ c then (if 8192 ≤ c ∧ c ≤ 8303 ∨ 12288 ≤ c ∧ c ≤ 12351 ∨ c = 65533 then [] else enc c.toNat)
  else dash (if c = 170 then [97] else if c = 181 then [117] else if c = 186 then [111] else if c = 255 then [121] else if 256 ≤ c then piece moreL (c - 256).toNat else if 224 ≤ c then piece basesL (c - 224).toNat else if 192 ≤ c then piece basesL (c - 192).toNat else [])

theorem low_same : ∀ n : Nat, n < 384 → fold (n : Int) = foldR (n : Int) := by decide +kernel
theorem look_neg (c : Int) (h : c < 0) : ∀ l : List (Nat × Nat × List Nat), lookT c l = []
  | [] => rfl
  | e :: r => by
    unfold lookT
    rw [if_neg (by omega)]
    exact look_neg c h r
theorem fold_same (c : Int) : fold c = foldR c := by
  by_cases h0 : c < 0
  · unfold fold foldR
    simp only
    rw [if_neg (by omega), if_neg (by omega), if_neg (by omega), if_neg (by omega)]
    rw [if_neg (show ¬ (65 ≤ c ∧ c ≤ 90) by omega), if_neg (by omega), if_pos (by omega)]
    exact look_neg c h0 _
  · by_cases h1 : c < 384
    · obtain ⟨n, rfl⟩ := Int.eq_ofNat_of_zero_le (show 0 ≤ c by omega)
      exact low_same n (by omega)
    · have a1 : ¬ (97 ≤ c ∧ c ≤ 122 ∨ 48 ≤ c ∧ c ≤ 57) := by omega
      have a2 : ¬ (65 ≤ c ∧ c ≤ 90) := by omega
      have a3 : 384 ≤ c := by omega
      unfold fold foldR
      simp only [if_neg a1, if_neg a2, if_pos a3]
      by_cases hv : c < 0 ∨ 1114111 < c ∨ 55296 ≤ c ∧ c < 57344
      · rw [if_pos hv]
        have : apart c = true := by
          unfold apart Utf8.valid
          simp
          right
          omega
        rw [this]; rfl
      · rw [if_neg hv]
        by_cases ha : 8192 ≤ c ∧ c ≤ 8303 ∨ 12288 ≤ c ∧ c ≤ 12351 ∨ c = 65533
        · rw [if_pos ha]
          have : apart c = true := by
            unfold apart
            rw [decide_eq_true (by omega)]; rfl
          rw [this]; rfl
        · rw [if_neg ha]
          have : apart c = false := by
            unfold apart Utf8.valid
            rw [decide_eq_false (by omega)]
            simp
            omega
          rw [this]; rfl

/-- The sign at a place: the document's reading. -/
def byteAt (s : ByteArray) (i : Nat) : Nat := (s.get! i).toNat
def contB (s : ByteArray) (i : Nat) : Bool := decide (i < s.size ∧ 128 ≤ byteAt s i ∧ byteAt s i < 192)
def okB (least c : Nat) : Bool := decide (least ≤ c ∧ c ≤ 1114111 ∧ ¬ (55296 ≤ c ∧ c < 57344))
def signR (s : ByteArray) (i : Nat) : Int × Nat :=
  let b0 := byteAt s i
  if b0 < 128 then (b0, 1)
  else if 194 ≤ b0 ∧ b0 < 224 then
    if contB s (i + 1) then (let c := 64 * (b0 - 192) + (byteAt s (i + 1) - 128); if okB 128 c then ((c : Int), 2) else (-1, 1)) else (-1, 1)
  else if 224 ≤ b0 ∧ b0 < 240 then
    if contB s (i + 1) && contB s (i + 2) then (let c := 64 * (64 * (b0 - 224) + (byteAt s (i + 1) - 128)) + (byteAt s (i + 2) - 128); if okB 2048 c then ((c : Int), 3) else (-1, 1)) else (-1, 1)
  else if 240 ≤ b0 ∧ b0 < 245 then
    if contB s (i + 1) && contB s (i + 2) && contB s (i + 3) then (let c := 64 * (64 * (64 * (b0 - 240) + (byteAt s (i + 1) - 128)) + (byteAt s (i + 2) - 128)) + (byteAt s (i + 3) - 128); if okB 65536 c then ((c : Int), 4) else (-1, 1)) else (-1, 1)
  else (-1, 1)

theorem byteAt_lt (s : ByteArray) (i : Nat) : byteAt s i < 256 := (s.get! i).toNat_lt
theorem cont_eq (s : ByteArray) (i k : Nat) : (decide (i + k < s.size) && (s.get! (i + k)).toNat / 64 == 2) = contB s (i + k) := by
  have hb := byteAt_lt s (i + k)
  unfold contB byteAt at *
  generalize (s.get! (i + k)).toNat = x at *
  rw [Bool.eq_iff_iff]
  simp
  omega
theorem valid_ok (c : Nat) (l : Nat) (hl : l ≤ c) : Utf8.valid (c : Int) = okB l c := by
  unfold Utf8.valid okB
  rw [Bool.eq_iff_iff]
  simp
  omega

/-- What ranges over a string and what the document reads are the same, but for what is none. -/
theorem sign_decode (s : ByteArray) (i : Nat) : (Utf8.decode s i).2 = (signR s i).2 ∧ (((Utf8.decode s i).1 : Int) = (signR s i).1 ∨ (Utf8.decode s i).1 = 65533 ∧ (signR s i).1 = -1) := by
  unfold Utf8.decode
  simp only [cont_eq, Nat.add_zero]
  have e : ∀ k, (s.get! k).toNat = byteAt s k := fun _ => rfl
  simp only [e]
  unfold signR
  simp only
  have h0 := byteAt_lt s i
  have c1 : contB s (i + 1) = true → 128 ≤ byteAt s (i + 1) ∧ byteAt s (i + 1) < 192 := fun h => (of_decide_eq_true h).2
  have c2 : contB s (i + 2) = true → 128 ≤ byteAt s (i + 2) ∧ byteAt s (i + 2) < 192 := fun h => (of_decide_eq_true h).2
  have c3 : contB s (i + 3) = true → 128 ≤ byteAt s (i + 3) ∧ byteAt s (i + 3) < 192 := fun h => (of_decide_eq_true h).2
  generalize byteAt s i = b0 at *
  generalize byteAt s (i + 1) = b1 at *
  generalize byteAt s (i + 2) = b2 at *
  generalize byteAt s (i + 3) = b3 at *
  generalize contB s (i + 1) = k1 at *
  generalize contB s (i + 2) = k2 at *
  generalize contB s (i + 3) = k3 at *
  have er : Utf8.runeError = 65533 := rfl
  rw [er]
  by_cases g0 : b0 < 128
  · simp [g0]
  · rw [if_neg g0, if_neg g0]
    by_cases g1 : b0 / 32 = 6
    · have n2 : ¬ b0 / 16 = 14 := by omega
      have n3 : ¬ b0 / 8 = 30 := by omega
      have m2 : ¬ (224 ≤ b0 ∧ b0 < 240) := by omega
      have m3 : ¬ (240 ≤ b0 ∧ b0 < 245) := by omega
      cases k1 with
      | false => simp [m2, m3]
      | true =>
        have hb := c1 rfl
        by_cases g2 : 194 ≤ b0 ∧ b0 < 224
        · have hc : b0 % 32 * 64 + b1 % 64 = 64 * (b0 - 192) + (b1 - 128) := by omega
          have hok : okB 128 (64 * (b0 - 192) + (b1 - 128)) = true := by unfold okB; simp; omega
          have hge : 128 ≤ 64 * (b0 - 192) + (b1 - 128) := by omega
          simp [g1, g2, hc, hok, hge]
        · have hlt : ¬ 128 ≤ b0 % 32 * 64 + b1 % 64 := by omega
          simp [g1, g2, m2, m3, hlt]
    · have l2 : ¬ (194 ≤ b0 ∧ b0 < 224) := by omega
      by_cases g2 : b0 / 16 = 14
      · have n3 : ¬ b0 / 8 = 30 := by omega
        have m2 : 224 ≤ b0 ∧ b0 < 240 := by omega
        cases k1 with
        | false => simp [l2, m2]
        | true =>
        cases k2 with
        | false => simp [g1, l2, m2]
        | true =>
          have hb1 := c1 rfl
          have hb2 := c2 rfl
          have hc : b0 % 16 * 4096 + b1 % 64 * 64 + b2 % 64 = 64 * (64 * (b0 - 224) + (b1 - 128)) + (b2 - 128) := by omega
          simp only [hc]
          generalize 64 * (64 * (b0 - 224) + (b1 - 128)) + (b2 - 128) = c at *
          by_cases hl : 2048 ≤ c
          · have hv := valid_ok c 2048 hl
            cases ho : okB 2048 c <;> simp [g1, g2, l2, m2, hl, hv, ho]
          · have ho : okB 2048 c = false := by unfold okB; simp; omega
            simp [g1, g2, l2, m2, hl, ho]
      · have m2 : ¬ (224 ≤ b0 ∧ b0 < 240) := by omega
        by_cases g3 : b0 / 8 = 30
        · cases k1 with
          | false => simp [l2, m2]
          | true =>
          cases k2 with
          | false => simp [g1, l2, m2]
          | true =>
          cases k3 with
          | false => simp [g1, g2, l2, m2]
          | true =>
            have hb1 := c1 rfl
            have hb2 := c2 rfl
            have hb3 := c3 rfl
            have hc : b0 % 8 * 262144 + b1 % 64 * 4096 + b2 % 64 * 64 + b3 % 64 = 64 * (64 * (64 * (b0 - 240) + (b1 - 128)) + (b2 - 128)) + (b3 - 128) := by omega
            simp only [hc]
            by_cases g4 : 240 ≤ b0 ∧ b0 < 245
            · generalize 64 * (64 * (64 * (b0 - 240) + (b1 - 128)) + (b2 - 128)) + (b3 - 128) = c at *
              by_cases hl : 65536 ≤ c
              · have hv := valid_ok c 65536 hl
                cases ho : okB 65536 c <;> simp [g1, g2, g3, l2, m2, g4, hl, hv, ho]
              · have ho : okB 65536 c = false := by unfold okB; simp; omega
                simp [g1, g2, g3, l2, m2, g4, hl, ho]
            · have hv : Utf8.valid ((64 * (64 * (64 * (b0 - 240) + (b1 - 128)) + (b2 - 128)) + (b3 - 128) : Nat) : Int) = false := by
                rw [valid_ok _ 0 (by omega)]
                unfold okB
                simp
                omega
              generalize 64 * (64 * (64 * (b0 - 240) + (b1 - 128)) + (b2 - 128)) + (b3 - 128) = c at *
              simp [g1, g2, g3, l2, m2, g4, hv]
        · have g4 : ¬ (240 ≤ b0 ∧ b0 < 245) := by omega
          simp [g1, g2, g3, l2, m2, g4]
end Go.Proofs.YtmdmejfcknaokaaDoor
