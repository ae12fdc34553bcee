/- Walks: the reference's sector. -/
import Derived.Test.YtipijjlajhofkaaW9
namespace Go.Proofs.Ytipijjlajhofkaa
open Go.RowKit

def slen : Value → Nat
  | .slice _ n _ => n
  | _ => 0

theorem Own.cap {w : World} {base : Nat} {A : Option Addr} {n c : Nat} {l : List Nat} (h : Own w base (.slice A n c) l) : l.length ≤ c := by
  rcases h.2.2 with ⟨e, h0⟩ | ⟨g, cap, cur, e, _, _, hnc, _⟩
  · omega
  · injection e with e1 e2 e3
    omega

def N6 (n : Nat) (l : List Nat) : Nat := 16 + l.length + (n - 36 - l.length) + 4

theorem Rd.take_ {w : World} {L : Nat} {A : Option Addr} {l : List Nat} (h : Rd w L A l) (k : Nat) : Rd w L A (l.take k) := by
  refine ⟨fun b hb => h.1 b (List.mem_of_mem_take hb), fun hn => ?_⟩
  obtain ⟨p, e, hp, hc⟩ := h.2 (by intro e; rw [e] at hn; simp at hn)
  refine ⟨p, e, hp, fun j hj => ?_⟩
  have hj' : j < l.length := by simp at hj; omega
  rw [hc j hj', List.getElem_take]

theorem take_turned (L : List Nat) (k : Nat) (h : k < L.length) : (L.take (k + 1)).map (255 - ·) = (L.take k).map (255 - ·) ++ [255 - L[k]] := by
  rw [List.take_add_one, List.getElem?_eq_getElem h, List.map_append]; rfl

set_option maxHeartbeats 400000 in
theorem refBuild_size (n m : Int) (A : Option Addr) (k c : Nat) (w : World) (h : okSize n = false) :
    Calls Try.prog 13 #[.int .i64 n, .int .i64 m, .slice A k c] w fun e w' => e = .returned (.tuple #[.slice none 0 0, .int .i64 3]) ∧ w = w' := by
  have h : n < 64 ∨ 4096 < n := by simp [okSize] at h; omega
  by_cases h1 : n < 64
  · clear h
    go_enter Try.func13, Try.ntmps13
    go_wp2
    go_ret2
    exact ⟨rfl, rfl⟩
  · have h2 : 4096 < n := by omega
    clear h
    go_enter Try.func13, Try.ntmps13
    go_wp2
    go_ret2
    exact ⟨rfl, rfl⟩

set_option maxHeartbeats 400000 in
theorem refBuild_mark (n m : Int) (A : Option Addr) (k c : Nat) (w : World) (h : okSize n = true) (h2 : m < 1 ∨ 4611686018427387904 < m) :
    Calls Try.prog 13 #[.int .i64 n, .int .i64 m, .slice A k c] w fun e w' => e = .returned (.tuple #[.slice none 0 0, .int .i64 2]) ∧ w = w' := by
  have h : 64 ≤ n ∧ n ≤ 4096 := by simpa [okSize] using h
  obtain ⟨ha, hb⟩ := h
  by_cases h1 : m < 1
  · clear h2
    go_enter Try.func13, Try.ntmps13
    go_wp2
    go_ret2
    exact ⟨rfl, rfl⟩
  · have h3 : 4611686018427387904 < m := by omega
    clear h2
    go_enter Try.func13, Try.ntmps13
    go_wp2
    go_ret2
    exact ⟨rfl, rfl⟩

set_option maxHeartbeats 400000 in
theorem refBuild_long (n m : Int) (A : Option Addr) (k c : Nat) (w : World) (h : okSize n = true) (hm1 : 1 ≤ m) (hm2 : m ≤ 4611686018427387904) (hl : n - 36 < (k : Int)) :
    Calls Try.prog 13 #[.int .i64 n, .int .i64 m, .slice A k c] w fun e w' => e = .returned (.tuple #[.slice none 0 0, .int .i64 9]) ∧ w = w' := by
  have h : 64 ≤ n ∧ n ≤ 4096 := by simpa [okSize] using h
  obtain ⟨ha, hb⟩ := h
  go_enter Try.func13, Try.ntmps13
  go_wp2
  go_ret2
  exact ⟨rfl, rfl⟩

set_option maxHeartbeats 400000 in
theorem refBuild_ok (n m : Nat) (A : Option Addr) (l : List Nat) (c : Nat) (w : World) (hr : Rd w w.heap.size A l) (hn1 : (64 : Int) ≤ n) (hn2 : (n : Int) ≤ 4096) (hm1 : (1 : Int) ≤ m) (hm2 : (m : Int) ≤ 4611686018427387904) (hl : (l.length : Int) ≤ n - 36) :
    Calls Try.prog 13 #[.int .i64 n, .int .i64 m, .slice A l.length c] w fun e w' => ∃ v', e = .returned (.tuple #[v', .int .i64 0]) ∧ Own w' w.heap.size v' (sector n m l) ∧ Below w.heap.size w w' := by
  have HR := Lib.hid hr
  clear hr
  go_enter Try.func13, Try.ntmps13
  go_wp2_with fail
  refine (Bytes_any w m 8 (by omega) (by omega)).mono ?_
  rintro e w1 ⟨v1, rfl, ho1, hb1⟩
  have HO1 := Lib.hid ho1
  have HB1 := Lib.hid hb1
  clear ho1 hb1
  have hhead : head m = leb m 8 ++ (leb m 8).map (255 - ·) := rfl
  have hL : (leb m 8).length = 8 := by simp
  generalize leb m 8 = L at *
  have HH := Lib.hid hhead
  clear hhead
  go_wp2
  go_loopw [8, 9] (fun x i wr => ∃ k : Nat, k ≤ 8 ∧ i = .int .i64 k ∧ Hid (Own wr w.heap.size x (L ++ (L.take k).map (255 - ·))) ∧ Hid (Below w.heap.size w wr)) (fun _ i _ => 8 - (intOf i).toNat)
  case atStart => exact ⟨0, by omega, rfl, Lib.hid (by rw [List.take_zero, List.map_nil, List.append_nil]; exact HO1.out), HB1⟩
  case round =>
    obtain ⟨k, hk, rfl, HO, HB⟩ := hrel
    by_cases hlt : k < 8
    · have hlen : (L ++ (L.take k).map (255 - ·)).length = 8 + k := by simp; omega
      have hLk : k < L.length := by omega
      have hb256 : L[k] < 256 := HO.out.1 _ (by simp)
      have htk : (L.take (k + 1)).map (255 - ·) = (L.take k).map (255 - ·) ++ [255 - L[k]] := take_turned L k hLk
      have hget : (L ++ (L.take k).map (255 - ·))[k]? = some L[k] := by rw [List.getElem?_append_left hLk, List.getElem?_eq_getElem hLk]
      obtain ⟨p, c', rfl, hp, hc⟩ := HO.out.at_ (8 + k) hlen (by omega)
      have hcell := hc k _ hget
      have HT := Lib.hid htk
      clear hc hget htk
      generalize L[k] = b at *
      obtain ⟨v', w', hrun, ho, hb⟩ := run_push 22 HO.out (255 - (b : Int)) (by omega) (by omega) HB.out.size (by omega)
      have hbn : (255 - (b : Int)).toNat = 255 - b := by omega
      rw [hbn] at ho
      have HRUN := Lib.hid hrun
      have HO' := Lib.hid ho
      have HB' := Lib.hid (HB.out.trans hb)
      have HLEN := Lib.hid hlen
      clear hrun ho hb hlen hbn
      go_wp2_with (at_builtin; refine Lib.wpList_append_run _ rfl (.tmp 34) (.tmp 40) 22 22 rfl _ _ rfl rfl v' w' HRUN.out ?_)
      go_round
      case rel => exact ⟨k + 1, by omega, by simp, Lib.hid (by rw [HT.out, ← List.append_assoc]; exact HO'.out), HB'⟩
      case measure => simp [intOf]; omega
    · obtain rfl : k = 8 := by omega
      have et : L.take 8 = L := List.take_of_length_le (by omega)
      have HO2 := HO.out
      rw [et, ← HH.out] at HO2
      have HO2 := Lib.hid HO2
      obtain ⟨v2, w2, hrun, ho, hb⟩ := run_app 22 HO2.out w.heap.size A c l (HR.out.below HB.out (Nat.le_refl _)) HB.out.size (by simp; omega)
      have RUN2 := Lib.hid hrun
      have HO3 := Lib.hid ho
      have HB3 := Lib.hid (HB.out.trans hb)
      clear hrun ho hb
      go_wp2_with (at_builtin; refine Lib.wpList_append_run _ rfl (.tmp 42) (.tmp 43) 22 22 rfl _ _ rfl rfl v2 w2 RUN2.out ?_)
      have hlen0 : (head m ++ l).length = 16 + l.length := by simp
      go_loopw [8] (fun x wr => ∃ k : Nat, k ≤ n - 36 - l.length ∧ Hid (Own wr w.heap.size x (head m ++ l ++ List.replicate k 0)) ∧ Hid (Below w.heap.size w wr)) (fun x _ => n - slen x)
      case atStart => exact ⟨0, by omega, Lib.hid (by rw [List.replicate_zero, List.append_nil]; exact HO3.out), HB3⟩
      case round =>
        obtain ⟨k, hk, HO, HB⟩ := hrel
        have hlen : (head m ++ l ++ List.replicate k 0).length = 16 + l.length + k := by simp; omega
        by_cases hlt : k < n - 36 - l.length
        · have hrep : head m ++ l ++ List.replicate (k + 1) 0 = head m ++ l ++ List.replicate k 0 ++ [0] := by rw [List.replicate_succ', List.append_assoc (head m ++ l)]
          obtain ⟨v', w', hrun, ho, hb⟩ := run_push 22 HO.out 0 (by omega) (by omega) HB.out.size (by omega)
          have ho' : Own w' w.heap.size v' (head m ++ l ++ List.replicate (k + 1) 0) := by rw [hrep]; exact ho
          have hlen' : (head m ++ l ++ List.replicate (k + 1) 0).length = 16 + l.length + (k + 1) := by simp; omega
          obtain ⟨p', c'', rfl, _, _⟩ := ho'.at_ (16 + l.length + (k + 1)) hlen' (by omega)
          obtain ⟨p, c', rfl, hp, hc⟩ := HO.out.at_ (16 + l.length + k) hlen (by omega)
          have HRUN := Lib.hid hrun
          have HO' := Lib.hid ho'
          have HB' := Lib.hid (HB.out.trans hb)
          have HLEN := Lib.hid hlen
          clear hrun ho ho' hb hlen hlen' hc hrep
          go_wp2_with (at_builtin; refine Lib.wpList_append_run _ rfl (.tmp 50) (.tmp 51) 22 22 rfl _ _ rfl rfl _ w' HRUN.out ?_)
          go_round
          case rel => exact ⟨k + 1, by omega, HO', HB'⟩
          case measure => simp only [slen]; omega
        · obtain rfl : k = n - 36 - l.length := by omega
          have e : head m ++ l ++ List.replicate (n - 36 - l.length) 0 = body n m l := rfl
          rw [e] at hlen
          have HO4 := HO.out
          rw [e] at HO4
          obtain ⟨p, c', rfl, hp, hc⟩ := HO4.at_ (16 + l.length + (n - 36 - l.length)) hlen (by omega)
          have HO4 := Lib.hid HO4
          clear hc e
          go_wp2_with fail
          have HC := refCheck_any (some p) (body n m l) c' wr (by
            obtain ⟨A2, c2, e2, hr2⟩ := HO4.out.form
            injection e2 with e3 e4 e5
            rw [e3]; exact hr2) (by omega)
          rw [hlen] at HC
          have hsec : sector n m l = body n m l ++ leb (M.crc (body n m l)) 4 ++ head m := rfl
          have htake : (body n m l ++ leb (M.crc (body n m l)) 4).take 16 = head m := by
            unfold body
            rw [List.append_assoc, List.append_assoc]
            exact List.take_left' (by simp)
          have hcl := M.crc_lt (body n m l)
          generalize body n m l = bd at *
          generalize M.crc bd = cr at *
          have hcl' : (cr : Int) ≤ 4294967295 := by omega
          have hl4 : (leb cr 4).length = 4 := by simp
          clear hcl
          have HSEC := Lib.hid hsec
          have HTAKE := Lib.hid htake
          clear hsec htake
          refine HC.mono ?_
          clear HC
          rintro e w5 ⟨rfl, rfl⟩
          go_wp2_with fail
          refine (Bytes_any wr cr 4 (by omega) (by omega)).mono ?_
          rintro e w5 ⟨v5, rfl, ho5, hb5⟩
          obtain ⟨A5, c5, rfl, hr5⟩ := ho5.form
          rw [hl4]
          obtain ⟨v6, w6, hrun, ho6, hb6⟩ := run_app 22 (HO4.out.below hb5) w5.heap.size A5 c5 (leb cr 4) hr5 (Nat.le_trans HB.out.size hb5.size) (by omega)
          rw [hl4] at hrun
          have RUN6 := Lib.hid hrun
          have HB6 := Lib.hid (grow HB.out hb5)
          have HB6 := Lib.hid (HB6.out.trans hb6)
          have hlen6 : (bd ++ leb cr 4).length = N6 n l := by simp [N6]; omega
          obtain ⟨p6, c6, rfl, hp6, _⟩ := ho6.at_ (N6 n l) hlen6 (by simp [N6])
          have hcap : (N6 n l : Int) ≤ c6 := by
            have := ho6.cap
            rw [hlen6] at this
            omega
          have h16 : (16 : Int) ≤ N6 n l := by simp [N6]; omega
          have hr6 : Rd w6 w6.heap.size (some p6) (head m) := by
            obtain ⟨A7, c7, e7, hr7⟩ := ho6.form
            injection e7 with e8 e9 e10
            rw [e8, ← HTAKE.out]; exact hr7.take_ 16
          obtain ⟨v7, w7, hrun7, ho7, hb7⟩ := run_app 22 ho6 w6.heap.size (some p6) c6 (head m) hr6 (Nat.le_trans HB.out.size (Nat.le_trans hb5.size hb6.size)) (by simp; omega)
          rw [head_length, ← HSEC.out] at *
          have RUN7 := Lib.hid hrun7
          have HO7 := Lib.hid ho7
          have HB7 := Lib.hid (HB6.out.trans hb7)
          clear hrun ho5 hb5 hb6 hr5 ho6 hrun7 ho7 hb7 hr6
          generalize N6 n l = N at *
          go_wp2_with (first
            | (at_builtin; refine Lib.wpList_append_run _ rfl (.tmp 55) (.tmp 57) 22 22 rfl _ _ rfl rfl _ w6 RUN6.out ?_)
            | (at_builtin; refine Lib.wpList_append_run _ rfl (.tmp 59) (.tmp 61) 22 22 rfl _ _ rfl rfl v7 w7 RUN7.out ?_))
          go_ret2
          exact ⟨_, rfl, HO7.out, HB7.out⟩

end Go.Proofs.Ytipijjlajhofkaa
