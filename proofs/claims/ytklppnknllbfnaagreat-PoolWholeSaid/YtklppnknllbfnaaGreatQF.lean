/- Plain laws: a commit, a checkpoint on an armed disk: made, or a crash that keeps what was committed, or all of the commit. Plain laws: a commit on an armed disk: made, or a crash that keeps what was committed, or all of the commit. Plain laws: Commit on an armed disk. Plain laws: the pool that is opened at last. -/
import Derived.Test.YtklppnknllbfnaaGreatQB
import Derived.Test.YtklppnknllbfnaaGreatLD
namespace Go.Proofs.YtklppnknllbfnaaGreat
open Go.RowKit Go.Maps
set_option maxRecDepth 8000
section
variable {D D' : Dsk} {E : Nat} {rows : List (List (Int × List Nat))} {s : Sta} {V : Nat → List Nat} {S : Pl} {L : Lg} {W : List (Int × List Nat)} {P : Pgs}
theorem Rest.re (h : Rest D) {n : Int} (h0 : 0 ≤ n) (h1 : n ≤ 9223372036854775807) : Rest { D with armed := n } := ⟨⟨h.ok.s1, h.ok.s2, h.ok.z1, h.ok.z2, h.ok.len, h.ok.byt, h.ok.lose, h0, h1⟩, h.up, h.lose⟩
theorem Cln.re (h : Cln D E) {n : Int} (h0 : 0 ≤ n) (h1 : n ≤ 9223372036854775807) : Cln { D with armed := n } E := ⟨⟨h.ok.s1, h.ok.s2, h.ok.z1, h.ok.z2, h.ok.len, h.ok.byt, h.ok.lose, h0, h1⟩, h.up, h.s, h.z, h.lose, h.own, h.oth, h.sl⟩
theorem LogHas.re (h : LogHas D L rows) (n : Int) : LogHas { D with armed := n } L rows := ⟨h.up, h.room, h.lok, h.nx, h.ch, h.ne, h.z, h.slots, h.rest⟩
theorem Pl.Ok.re (h : S.Ok D) (n : Int) : S.Ok { D with armed := n } := ⟨h.z, h.s, h.s2, h.slots, h.first, h.now, h.was, h.last, h.pend, h.seen⟩
theorem InvR.re (h : InvR S D rows) {n : Int} (h0 : 0 ≤ n) (h1 : n ≤ 9223372036854775807) : InvR S { D with armed := n } rows :=
 ⟨h.cl.re h0 h1, h.e1, h.ok.re n, h.dead, h.log.imp fun _ x => ⟨x.1, x.2.re n⟩, h.rl, h.rp, h.seen, h.mv, h.p0, h.cw, h.cn, h.pz, h.bp, h.bl⟩
theorem PendOk.re (h : PendOk S D P) (n : Int) : PendOk S { D with armed := n } P := ⟨h.ok, h.byt, h.same, h.zero⟩
theorem InvR.rest (h : InvR S D rows) : Rest D := ⟨h.cl.ok, h.cl.up, h.cl.lose⟩
/-- What a live pool's disk holds. -/
theorem InvR.holds (h : InvR S D rows) (hE : S.epoch ≤ 900000000000) : Holds D S.epoch rows S.was (S.valC D) ∧ Strong D S.epoch := by
 obtain ⟨n, hl, hlh⟩ := h.log
 have hsl : S.slots = D.slots := h.ok.slots
 have hfi := h.ok.first
 have ho := h.opens hE
 have hpg : S.pages D = D.pg := by rw [← laid_pages h, pg_pages]
 have hg := hlh.groups
 have hr1 := ho.r1
 rw [pg_pages] at hr1
 have hown := h.cl.own
 have he := h.e1
 rw [if_neg (by omega)] at hown
 refine ⟨⟨h.rest, h.cl.s, h.cl.z, h.e1, hown, h.cl.oth.u, fun i hi => .inl (h.cl.sl i hi), ?_, hr1, ho.r2, ho.r3, fun k l hk => ?_, by rw [← hpg]; exact h.ok.was, fun k _ => ?_, h.p0, h.cw⟩, fun i hi => .inl (h.cl.sl i hi)⟩
 ·rw [← hsl]
  exact hg
 ·rw [h.rl] at hk
  have h1 := h.ok.last k l hk
  rw [hpg] at h1
  exact ⟨h1.1, h1.2, h.bl k l hk⟩
 ·rw [h.rl, ← hsl, ← hfi]
  rfl
/-- What stands behind a crash: a pool's state. -/
def Cr (C : Dsk) (Em : Nat) (s : Sta) (V : Nat → List Nat) : Prop := C.armed = 0 ∧ ∃ E' rows', E' ≤ Em ∧ Holds C E' rows' s V ∧ Strong C E'
/-- A disk that went down at a call. -/
structure Downs (D D' : Dsk) (e : Int) : Prop where
 e : e = 4
 arm : 0 < D.armed
 down : D'.down = true
 ok : D'.Ok
 few : D'.loose.length ≤ 1048576
 sec : D'.sectors = D.sectors
 siz : D'.size = D.size
theorem wave_sim (hr : Rest D) (hf : Fit D W) (hd : ∀ i k (hi : i < W.length) (hk : k < W.length), W[i].1 = W[k].1 → i = k) (h : (wave D W).1 = 0) :
  ∃ n, 0 ≤ n ∧ n ≤ D.armed ∧ wave D W = (0, { (wave { D with armed := 0 } W).2 with armed := n }) ∧ (wave { D with armed := 0 } W).1 = 0 ∧ (wave { D with armed := 0 } W).2.armed = 0 := by
 have ha := hr.ok.arm0
 rcases wave_cases hr hf hd with ⟨w1, w2, _, _, w5⟩ | ⟨w1, _⟩
 ·rcases wave_cases (D := { D with armed := 0 }) (hr.re (Int.le_refl 0) (by decide)) hf hd with ⟨v1, v2, _, _, _⟩ | ⟨_, v2, _⟩
  ·refine ⟨left D.armed (W.length + 1), by unfold left; split <;> omega, by unfold left; split <;> omega, Prod.ext w1 ?_, v1, by rw [v2]; rfl⟩
   rw [w2, v2]
  ·exact absurd v2 (by dsimp only; omega)
 ·rw [w1] at h; omega
theorem Holds.lay_fit (h : Holds D E rows s V) : Fit D (layW D (2 + D.slots) (putR Pgs.none_ rows) ((putR Pgs.none_ rows).keys D.sectors)) := by
 have hle := h.le
 have hpge : D.pg = D.sectors - (2 + D.slots) := rfl
 intro e he
 unfold layW at he
 obtain ⟨k, hk, rfl⟩ := List.mem_map.1 he
 obtain ⟨_, l, hl⟩ := mem_keys.1 hk
 obtain ⟨hkp, h3, h4⟩ := h.r4 k l hl
 rw [hl]
 exact ⟨by dsimp only; omega, by dsimp only; omega, sectL_length h.rest.ok (by show l.length ≤ _; omega), sectL_lt _ _ h4⟩
theorem lay_inj (first : Nat) (f : Pgs) (N : Nat) : ∀ i k (hi : i < (layW D first f (f.keys N)).length) (hk : k < (layW D first f (f.keys N)).length), (layW D first f (f.keys N))[i].1 = (layW D first f (f.keys N))[k].1 → i = k := by
 intro i k hi hk e
 unfold layW at e hi hk
 simp only [List.getElem_map] at e
 have hnd := keys_nd (N := N) (f := f)
 rw [List.length_map] at hi hk
 exact (List.getElem_inj hnd).1 (by omega)
theorem pointD_sim (h : Holds D E rows s V) (h0 : (pointD (2 + D.slots) (putR Pgs.none_ rows) E D).1 = 0) :
  ∃ n, 0 ≤ n ∧ n ≤ D.armed ∧ pointD (2 + D.slots) (putR Pgs.none_ rows) E D = (0, { (pointD (2 + D.slots) (putR Pgs.none_ rows) E { D with armed := 0 }).2 with armed := n }) := by
 obtain ⟨f, hf⟩ : ∃ f, f = putR Pgs.none_ rows := ⟨_, rfl⟩
 have hfit := h.lay_fit
 have hinj := lay_inj (D := D) (2 + D.slots) f D.sectors
 have h2 := two_heads E
 have hs1 := h.s1
 rw [← hf] at hfit h0 ⊢
 have e0 : pointD (2 + D.slots) f E { D with armed := 0 } = if (wave { D with armed := 0 } (layW D (2 + D.slots) f (f.keys D.sectors))).1 ≠ 0 then wave { D with armed := 0 } (layW D (2 + D.slots) f (f.keys D.sectors)) else wave (wave { D with armed := 0 } (layW D (2 + D.slots) f (f.keys D.sectors))).2 [(((E + 1) % 2 : Nat), headL D (E + 1))] := rfl
 rw [e0]
 unfold pointD at h0 ⊢
 obtain ⟨W, hW⟩ : ∃ W, W = layW D (2 + D.slots) f (f.keys D.sectors) := ⟨_, rfl⟩
 rw [← hW] at hfit hinj h0 ⊢
 by_cases h1 : (wave D W).1 = 0
 ·rw [if_neg (by rw [h1]; simp)] at h0 ⊢
  obtain ⟨n, n0, n1, e1, e2, e3⟩ := wave_sim h.rest hfit hinj h1
  rw [if_neg (by rw [e2]; simp)]
  have hrw : Rest (wave D W).2 := by
   rcases wave_cases h.rest hfit hinj with ⟨_, _, w3, _⟩ | ⟨w1, _⟩
   ·exact w3
   ·rw [w1] at h1; omega
  have hsz : (wave D W).2.sectors = D.sectors ∧ (wave D W).2.size = D.size := by
   rcases wave_cases h.rest hfit hinj with ⟨_, w2, _⟩ | ⟨w1, _⟩
   ·rw [w2]; exact ⟨rfl, rfl⟩
   ·rw [w1] at h1; omega
  obtain ⟨D1, hD1⟩ : ∃ D1, D1 = (wave D W).2 := ⟨_, rfl⟩
  obtain ⟨D2, hD2⟩ : ∃ D2, D2 = (wave { D with armed := 0 } W).2 := ⟨_, rfl⟩
  have e4 : ({ D1 with armed := 0 } : Dsk) = D2 := by
   rw [hD1, hD2, e1]
   dsimp only
   rw [← hD2] at e3 ⊢
   cases D2
   simp only at e3
   rw [e3]
  have harm : D1.armed = n := by rw [hD1, e1]
  rw [← hD1] at h0 hrw hsz ⊢
  rw [← hD2]
  have hfit2 : Fit D1 [((((E + 1) % 2 : Nat) : Int), headL D (E + 1))] := by
   intro e he
   simp only [List.mem_singleton] at he
   subst he
   exact ⟨by dsimp only; omega, by dsimp only; rw [hsz.1]; omega, by rw [hsz.2]; exact headL_len h.rest.ok _, headL_lt _ _⟩
  obtain ⟨m, m0, m1, e5, _, _⟩ := wave_sim hrw hfit2 (by intro i k hi hk _; simp at hi hk; omega) h0
  rw [e4] at e5
  exact ⟨m, m0, by omega, e5⟩
 ·rw [if_pos h1] at h0
  exact absurd h0 h1
/-- A checkpoint on an armed disk. -/
theorem point_armed (h : InvR S D rows) (hE : S.epoch ≤ 800000000000) :
  ((point S D).1 = 0 ∧ (point S D).2.1 = S.pointed ∧ InvR S.pointed (point S D).2.2 [] ∧ (∀ k, k < S.pages D → S.pointed.valC (point S D).2.2 k = S.valC D k) ∧ (∀ k, k < S.pages D → S.pointed.val (point S D).2.2 k = S.val D k) ∧ (point S D).2.2.sectors = D.sectors ∧ (point S D).2.2.size = D.size ∧ (0 < (point S D).2.2.armed → 0 < D.armed)) ∨
  (Downs D (point S D).2.2 (point S D).1 ∧ ∀ fs, Cr ((point S D).2.2.crash fs) (S.epoch + 1) S.was (S.valC D)) := by
 obtain ⟨hh, hst⟩ := h.holds (by omega)
 have hsl : S.slots = D.slots := h.ok.slots
 have hfi : S.first = 2 + D.slots := by rw [← hsl]; exact h.ok.first
 have hpd := point_disk S D
 rw [hfi, ← h.rl] at hpd
 rcases hh.point (by omega) _ rfl with ⟨p1, _⟩ | ⟨p1, p2, p3, p4, p5, p6, p7, p8⟩
 ·left
  have h0 : (point S D).1 = 0 := by rw [hpd.1]; exact p1
  obtain ⟨n, n0, n1, e1⟩ := pointD_sim hh p1
  have har := h.cl.ok.arm1
  have hc0 : Calm { D with armed := 0 } := ⟨h.cl.up, rfl⟩
  obtain ⟨D0, q1, q2, q3, q4, q5, q6, q7⟩ := point_inv (h.re (Int.le_refl 0) (by decide)) hc0 (by omega)
  have hpd0 := point_disk S { D with armed := 0 }
  have e2 : (pointD (2 + D.slots) (putR Pgs.none_ rows) S.epoch { D with armed := 0 }).2 = D0 := by
   have := hpd0.2
   rw [q1, hfi, ← h.rl] at this
   exact this.symm
  have e3 : (point S D).2.2 = { D0 with armed := n } := by rw [hpd.2, e1, e2]
  rw [e3]
  refine ⟨h0, point_pl h0, q3.re n0 (by omega), q4, q5, q6, q7, fun hn => ?_⟩
  have hn : 0 < n := hn
  omega
 ·right
  rw [hpd.1, hpd.2]
  refine ⟨⟨p1, p2, p3, p4, p5, p6, p7⟩, fun fs => ?_⟩
  obtain ⟨q1, ⟨E', rows', q2, q3, q4⟩, q5⟩ := p8 fs
  refine ⟨q1, E', rows', q2, q4, fun i hi => ?_⟩
  have e1 : ((pointD (2 + D.slots) (putR Pgs.none_ rows) S.epoch D).2.crash fs).slots = D.slots := by
   unfold Dsk.slots
   show ((pointD (2 + D.slots) (putR Pgs.none_ rows) S.epoch D).2.sectors - 2) / 4 = _
   rw [p6]
  rw [e1] at hi
  rw [q5 i hi]
  exact .inl (((h.cl.sl i hi).mono q3).same p7)
/-- Another disk whose slots alone are others. -/
theorem Holds.slots (h : Holds D E rows s V) {rows' : List (List (Int × List Nat))} (hr : Rest D') (hs : D'.sectors = D.sectors) (hz : D'.size = D.size) (ht : ∀ a : Int, (a < 2 ∨ (2 : Int) + D.slots ≤ a) → D'.tells a = D.tells a)
  (sl : ∀ i : Nat, i < D.slots → SlotU D E i (D'.tells (((2 : Nat) : Int) + i))) (g : grp D' 2 E D.slots 0 [] [] = rows') (e : rows' = rows) : Holds D' E rows s V := by
 have e1 : D'.slots = D.slots := by unfold Dsk.slots; rw [hs]
 have e2 : D'.pg = D.pg := by unfold Dsk.pg; rw [hs, e1]
 have e3 : D'.rm = D.rm := rm_same hz
 have h2 := two_heads E
 refine ⟨hr, by rw [hs]; exact h.s1, by rw [hz]; exact h.z, h.e1, by rw [ht _ (by omega), h.own, head_same hz], by rw [ht _ (by omega)]; exact h.oth.same hz, fun i hi => ?_, by rw [e1, g, e], by rw [e2, e3]; exact h.r1, h.r2, h.r3, by rw [e2, e3]; exact h.r4, by rw [e2]; exact h.sok, fun k hk => ?_, by rw [e3]; exact h.p0, fun i hi => by rw [e3]; exact h.ch i hi⟩
 ·rw [e1] at hi
  exact (sl i hi).same hz
 ·rw [e2] at hk
  rw [e1, ← h.val k hk]
  cases hp : putR Pgs.none_ rows k with
  | some l => rw [Option.getD_some, Option.getD_some]
  | none =>
   rw [Option.getD_none, Option.getD_none]
   exact place_same hz (ht _ (by omega))
end
end Go.Proofs.YtklppnknllbfnaaGreat
namespace Go.Proofs.YtklppnknllbfnaaGreat
open Go.RowKit Go.Maps
set_option maxRecDepth 8000
section
variable {D D' : Dsk} {E : Nat} {rows : List (List (Int × List Nat))} {s : Sta} {V V' : Nat → List Nat} {S : Pl} {P : Pgs}
/-- The pages with a commit's pages over them. -/
def Pl.valP (S : Pl) (D : Dsk) (P : Pgs) (k : Nat) : List Nat := ((P k).or (S.last k)).getD (placeL D S.first k)
theorem append_armed (h : InvR S D rows) (hP : PendOk S D P) (hE : S.epoch ≤ 800000000000) (h1 : 0 < (P.keys D.sectors).length) (h2 : ((P.keys D.sectors).length : Int) ≤ S.room) :
  ((appended { S with pend := P } D).1 = 0 ∧ (∃ n, (appended { S with pend := P } D).2.1 = ({ S with pend := P } : Pl).done (S.lg n)) ∧ InvR (appended { S with pend := P } D).2.1 (appended { S with pend := P } D).2.2 (rows ++ [grpOf P (P.keys D.sectors)]) ∧
   (∀ k, (appended { S with pend := P } D).2.1.valC (appended { S with pend := P } D).2.2 k = S.valP D P k) ∧ (appended { S with pend := P } D).2.2.sectors = D.sectors ∧ (appended { S with pend := P } D).2.2.size = D.size ∧ (0 < (appended { S with pend := P } D).2.2.armed → 0 < D.armed)) ∨
  (Downs D (appended { S with pend := P } D).2.2 (appended { S with pend := P } D).1 ∧ ∀ fs, Cr ((appended { S with pend := P } D).2.2.crash fs) S.epoch S.was (S.valC D) ∨ Cr ((appended { S with pend := P } D).2.2.crash fs) S.epoch S.now (S.valP D P)) := by
 obtain ⟨n, hl, hlh⟩ := h.log
 have hr0 := right_zero h hl hP.ok h1 h2
 have hc0 : Calm { D with armed := 0 } := ⟨h.cl.up, rfl⟩
 obtain ⟨D0, n', a1, a2, a3, a4, a5, a6⟩ := append_inv (h.re (Int.le_refl 0) (by decide)) hc0 (hP.re 0) (by omega) h1 h2
 obtain ⟨g, hg⟩ : ∃ g, g = grpOf P (P.keys D.sectors) := ⟨_, rfl⟩
 have a1 : appended { S with pend := P } { D with armed := 0 } = (0, ({ S with pend := P } : Pl).done (S.lg n'), D0) := a1
 have a3 : InvR (({ S with pend := P } : Pl).done (S.lg n')) D0 (rows ++ [grpOf P (P.keys D.sectors)]) := a3
 rw [← hg] at hr0 a3 ⊢
 have hgl : g.length = (P.keys D.sectors).length := by rw [hg]; unfold grpOf; simp
 have hgc : ∀ c ∈ g, ∃ (k : Nat) (l : List Nat), c = ((k : Int), l) ∧ P k = some l ∧ k < D.sectors := fun c hc => by
  rw [hg] at hc
  obtain ⟨k, hk, rfl⟩ := grp_mem hc
  obtain ⟨hkl, l, hl⟩ := mem_keys.1 hk
  exact ⟨k, l, by rw [hl]; rfl, hl, hkl⟩
 have hgb : ∀ c ∈ g, ∀ b ∈ c.2, b < 256 := fun c hc => by
  obtain ⟨k, l, rfl, hl, _⟩ := hgc c hc
  exact hP.byt k l hl
 have hz1 := h.cl.ok.z1
 have hz2 := h.cl.ok.z2
 have har := h.cl.ok.arm0
 have har1 := h.cl.ok.arm1
 obtain ⟨_, hne, hch, hfit⟩ := rightE_ok hr0 hgb hz1 hz2
 have hsl : S.slots = D.slots := h.ok.slots
 have hsle := h.cl.slots_le
 have hnx := hlh.nx
 have hnx : n = (flat rows).length := hnx
 have hfit : n + g.length ≤ S.slots := hfit
 have hroom : (S.lg n).first + (S.lg n).next + g.length ≤ D.sectors := by show 2 + n + g.length ≤ _; omega
 have ea : app D (S.lg n) g = goApp D (S.lg n) g := by unfold app; rw [if_pos hr0]
 have ea0 : app { D with armed := 0 } (S.lg n) g = goApp { D with armed := 0 } (S.lg n) g := by unfold app; rw [if_pos (show rightE { D with armed := 0 } (S.lg n) g = 0 from hr0)]
 have exx : ∀ (Z : Dsk), Z.sectors = D.sectors → appended { S with pend := P } Z = if (app Z (S.lg n) g).1 ≠ 0 then ((app Z (S.lg n) g).1, ({ S with pend := P, log := some (app Z (S.lg n) g).2.2 } : Pl).die (app Z (S.lg n) g).1, (app Z (S.lg n) g).2.1) else (0, ({ S with pend := P } : Pl).done (app Z (S.lg n) g).2.2, (app Z (S.lg n) g).2.1) := by
  intro Z hZ
  unfold appended
  show (match S.log with | none => _ | some L => _) = _
  rw [hl]
  dsimp only
  rw [hZ, ← hg]
 have ex := exx D rfl
 have ex0 := exx { D with armed := 0 } rfl
 rw [ea] at ex
 rw [ea0] at ex0
 rcases goApp_cases g { D with armed := 0 } (S.lg n) h.cl.up (Int.le_refl 0) hroom hch with ⟨v1, v2, v3, _⟩ | ⟨_, v2, _⟩
 rotate_left
 ·exact absurd v2 (by dsimp only; omega)
 rw [if_neg (by rw [v1]; simp), a1] at ex0
 have hD0 : D0 = (goApp { D with armed := 0 } (S.lg n) g).2.1 := congrArg (fun x => x.2.2) ex0
 have hdn : ({ S with pend := P } : Pl).done (S.lg n') = ({ S with pend := P } : Pl).done (goApp { D with armed := 0 } (S.lg n) g).2.2 := congrArg (fun x => x.2.1) ex0
 have hD0t : ∀ a : Int, (a < 2 ∨ (2 : Int) + S.slots ≤ a) → D0.tells a = D.tells a := fun a ha => by
  have hts := tells_settled _ D (wr D.size (S.lg n).epoch (S.lg n).first (S.lg n).next (fl g)) a rfl (E := D0) (by rw [hD0, v2]) (by rw [hD0, v2])
  rw [hts, wr_out _ _ _ _ _ _ (by
   rw [fl_length]
   show a < ((2 : Nat) : Int) + (n : Nat) ∨ ((2 : Nat) : Int) + (n : Nat) + (g.length : Nat) ≤ a
   omega)]
  rfl
 rcases goApp_cases g D (S.lg n) h.cl.up har hroom hch with ⟨q1, q2, q3, q4⟩ | ⟨q1, q2, j, q3, q4, q5, q6⟩
 ·left
  rw [if_neg (by rw [q1]; simp)] at ex
  obtain ⟨m, hm⟩ : ∃ m : Int, m = if D.armed = 0 then 0 else D.armed - (g.length + 1) := ⟨_, rfl⟩
  have hm0 : 0 ≤ m ∧ m ≤ D.armed := by rw [hm]; split <;> omega
  have e2 : (goApp D (S.lg n) g).2.1 = { D0 with armed := m } := by
   rw [q2, hD0, v2, ← hm]
  have e3 : ({ S with pend := P } : Pl).done (goApp D (S.lg n) g).2.2 = ({ S with pend := P } : Pl).done (S.lg n') := by
   rw [hdn, q3, v3]
  rw [e2, e3] at ex
  rw [ex]
  refine ⟨rfl, ⟨n', rfl⟩, a3.re hm0.1 (by omega), fun k => ?_, a5, a6, fun h => ?_⟩
  ·exact a4 k
  ·have h : 0 < m := h
   omega
 ·right
  rw [if_pos (by rw [q1]; simp), q1] at ex
  have hok : (goApp D (S.lg n) g).2.1.Ok := by rw [← ea]; exact app_ok h.cl.ok hgb
  obtain ⟨X, hX⟩ : ∃ X, X = (goApp D (S.lg n) g).2.1 := ⟨_, rfl⟩
  rw [← hX] at ex q5 hok
  rw [ex]
  refine ⟨⟨rfl, q2, by show X.down = true; rw [q5], hok, ?_, by show X.sectors = _; rw [q5], by show X.size = _; rw [q5]⟩, fun fs => ?_⟩
  ·show X.loose.length ≤ _
   rw [q5, h.cl.lose]
   simp
   omega
  show Cr (X.crash fs) S.epoch S.was (S.valC D) ∨ Cr (X.crash fs) S.epoch S.now (S.valP D P)
  obtain ⟨C, hC⟩ : ∃ C, C = X.crash fs := ⟨_, rfl⟩
  have hCe : C = ({ D with armed := 0, down := true, loose := D.loose ++ (wr D.size (S.lg n).epoch (S.lg n).first (S.lg n).next (fl g)).take j } : Dsk).crash fs := by rw [hC, q5]
  have hCr : Rest C := ⟨by rw [hC]; exact hok.crash fs, by rw [hC]; rfl, by rw [hC]; rfl⟩
  have hCa : C.armed = 0 := by rw [hC]; rfl
  have hCs : C.sectors = D.sectors := by rw [hCe]; rfl
  have hCz : C.size = D.size := by rw [hCe]; rfl
  rw [← hC]
  have hold : ∀ i : Nat, n ≤ i → i < S.slots → D.tells (((2 : Nat) : Int) + i) = List.replicate D.size 0 ∨ ∃ e x, 1 ≤ e ∧ e < S.epoch ∧ ChOk D.size x.1 ∧ D.tells (((2 : Nat) : Int) + i) = secAt D.size e i x := by
   intro i hni hi
   rcases h.cl.sl i (by omega) with h3 | ⟨e, x, e1, e2, e3, e4⟩
   ·exact .inl h3
   ·right
    have hr := hlh.rest i (by omega) hi
    have hr : slotEp (D.tells (((2 : Nat) : Int) + i)) i ≠ (S.epoch : Nat) := hr
    rw [e4, (secAt_slot e3 hz1 ⟨e1, by omega⟩ (by omega)).2.1] at hr
    exact ⟨e, x, e1, by omega, e3, e4⟩
  have hu : ∀ i : Nat, (S.lg n).next ≤ i → i < (S.lg n).count → Under D.size ((S.lg n).epoch * 2097152 + i + 1) (D.tells (((S.lg n).first : Int) + i)) := by
   intro i hni hi
   have hni : n ≤ i := hni
   have hi : i < S.slots := hi
   show Under D.size (S.epoch * 2097152 + i + 1) (D.tells (((2 : Nat) : Int) + i))
   rcases hold i hni hi with h3 | ⟨e, x, e1, e2, e3, e4⟩
   ·exact .inl h3
   ·have := e3.len
    exact .inr ⟨e * 2097152 + i + 1, _, by omega, by omega, by simp; omega, load_lt e3 x.2, e4⟩
  have hw := hlh.crash_whole (j := j) fs h.cl.lose q3 hCe hch hne h.cl.ok.len hfit hu
  have hw : grp C 2 S.epoch S.slots 0 [] [] = rows ∨ grp C 2 S.epoch S.slots 0 [] [] = rows ++ [g] := hw
  obtain ⟨s1, _, s3⟩ := crash_slots (D := D) (E := C) fs h.cl.lose (by rw [fl_length]; exact q3) hCe (fun x hx => hch _ (fl_mem g x hx)) h.cl.ok.len
  have s1 : ∀ a, (∀ k, k < j → a ≠ ((2 : Nat) : Int) + (n + k : Nat)) → C.tells a = D.tells a := s1
  have hstr : Strong C S.epoch := by
   have e1 : C.slots = D.slots := by unfold Dsk.slots; rw [hCs]
   intro i hi
   rw [e1] at hi
   by_cases hin : n ≤ i ∧ i < n + j
   ·have hjl : i - n < (fl g).length := by rw [fl_length]; omega
    obtain ⟨c, hc, hct⟩ := s3 (i - n) (by omega)
    have hct : C.tells (((2 : Nat) : Int) + (n + (i - n) : Nat)) = mix c (secAt D.size S.epoch (n + (i - n)) ((fl g)[i - n])) (D.tells (((2 : Nat) : Int) + (n + (i - n) : Nat))) := hct
    rw [show n + (i - n) = i by omega] at hct
    have hx := hch _ (fl_mem g _ (List.getElem_mem hjl))
    have hxl := hx.len
    have ho := hold i hin.1 (by omega)
    rw [hct, hCz]
    cases hro : readOk (mix c (secAt D.size S.epoch i ((fl g)[i - n])) (D.tells (((2 : Nat) : Int) + i))) with
    | false => exact .inr ⟨hro, c, _, _, hc, hx, ho, rfl⟩
    | true =>
     left
     rcases torn_two (m := S.epoch * 2097152 + i + 1) hz1 hc (by omega) (by simp; omega) (load_lt hx _) (hu i hin.1 (by show i < S.slots; omega)) hro with h3 | h3
     ·have h3 : mix c (secAt D.size S.epoch i ((fl g)[i - n])) (D.tells (((2 : Nat) : Int) + i)) = secAt D.size S.epoch i ((fl g)[i - n]) := h3
      rw [h3]
      exact .inr ⟨S.epoch, _, h.e1, Nat.le_refl _, by rw [hCz]; exact hx, by rw [hCz]⟩
     ·have h3 : mix c (secAt D.size S.epoch i ((fl g)[i - n])) (D.tells (((2 : Nat) : Int) + i)) = D.tells (((2 : Nat) : Int) + i) := h3
      rw [h3]
      exact (h.cl.sl i hi).same hCz
   ·rw [s1 _ (fun k hk => by omega), hCz]
    exact .inl ((h.cl.sl i hi).same hCz)
  have hout : ∀ a : Int, (a < 2 ∨ (2 : Int) + D.slots ≤ a) → C.tells a = D.tells a := fun a ha => s1 a (fun k hk => by omega)
  have hslU : ∀ i : Nat, i < D.slots → SlotU D S.epoch i (C.tells (((2 : Nat) : Int) + i)) := fun i hi => by
   have e1 : C.slots = D.slots := by unfold Dsk.slots; rw [hCs]
   exact (hstr i (by omega)).imp (fun h => h.same hCz.symm) (fun h => h.1)
  rw [hsl] at hw
  rcases hw with hw | hw
  ·left
   exact ⟨hCa, S.epoch, rows, Nat.le_refl _, (h.holds (by omega)).1.slots hCr hCs hCz hout hslU hw rfl, hstr⟩
  ·right
   have hh := (a3.holds (by show S.epoch ≤ _; omega)).1
   have hV : (({ S with pend := P } : Pl).done (S.lg n')).valC D0 = S.valP D P := funext a4
   rw [hV] at hh
   have hh : Holds D0 S.epoch (rows ++ [g]) S.now (S.valP D P) := hh
   have e1 : D0.slots = D.slots := by unfold Dsk.slots; rw [a5]
   refine ⟨hCa, S.epoch, rows ++ [g], Nat.le_refl _, hh.slots hCr (hCs.trans a5.symm) (hCz.trans a6.symm) (fun a ha => ?_) (fun i hi => ?_) (by rw [e1]; exact hw) rfl, hstr⟩
   ·rw [e1] at ha
    rw [hout a ha, hD0t a (by omega)]
   ·rw [e1] at hi
    exact (hslU i hi).same a6
end
end Go.Proofs.YtklppnknllbfnaaGreat
namespace Go.Proofs.YtklppnknllbfnaaGreat
open Go.RowKit Go.Maps
set_option maxRecDepth 8000
section
variable {D D' C : Dsk} {E Em Em' : Nat} {rows : List (List (Int × List Nat))} {s : Sta} {V V' : Nat → List Nat} {S : Pl} {P : Pgs}
theorem Holds.pgs (h : Holds D E rows s V) : 1 ≤ D.pg := by have := h.sok.n1; have := h.sok.n2; omega
theorem Holds.congr (h : Holds D E rows s V) (hv : ∀ k, k < D.pg → V' k = V k) : Holds D E rows s V' := by
 have hpg := h.pgs
 refine ⟨h.rest, h.s1, h.z, h.e1, h.own, h.oth, h.sl, h.g, h.r1, h.r2, h.r3, h.r4, h.sok, fun k hk => by rw [h.val k hk, hv k hk], by rw [hv 0 (by omega)]; exact h.p0, fun i hi => ?_⟩
 have := h.sok.fb _ (List.getElem_mem hi)
 have := h.sok.n2
 rw [hv _ (by omega)]
 exact h.ch i hi
theorem Cr.congr (h : Cr C Em s V) (hv : ∀ k, k < C.pg → V' k = V k) : Cr C Em s V' := by
 obtain ⟨h1, E', rows', h2, h3, h4⟩ := h
 exact ⟨h1, E', rows', h2, h3.congr hv, h4⟩
theorem Cr.mono (h : Cr C Em s V) (hm : Em ≤ Em') : Cr C Em' s V := by
 obtain ⟨h1, E', rows', h2, h3, h4⟩ := h
 exact ⟨h1, E', rows', by omega, h3, h4⟩
theorem commit_armed (h : InvR S D rows) (hE : S.epoch ≤ 700000000000) (hn : S.nPend D ≤ S.slots) :
  ((committed (S.meta0 D) D).1 = 0 ∧ (∃ rows', InvR (committed (S.meta0 D) D).2.1 (committed (S.meta0 D) D).2.2 rows') ∧ (committed (S.meta0 D) D).2.1.now = S.now ∧ (committed (S.meta0 D) D).2.1.was = S.now ∧ (committed (S.meta0 D) D).2.1.moved = false ∧ (committed (S.meta0 D) D).2.1.pend = Pgs.none_ ∧ (committed (S.meta0 D) D).2.1.epoch ≤ S.epoch + 1 ∧ (committed (S.meta0 D) D).2.1.slots = S.slots ∧ (committed (S.meta0 D) D).2.1.first = S.first ∧
   (∀ k, k ≠ 0 → k < S.pages D → (committed (S.meta0 D) D).2.1.valC (committed (S.meta0 D) D).2.2 k = S.val D k) ∧ (committed (S.meta0 D) D).2.2.sectors = D.sectors ∧ (committed (S.meta0 D) D).2.2.size = D.size ∧ (0 < (committed (S.meta0 D) D).2.2.armed → 0 < D.armed)) ∨
  (Downs D (committed (S.meta0 D) D).2.2 (committed (S.meta0 D) D).1 ∧ ∀ fs, Cr ((committed (S.meta0 D) D).2.2.crash fs) (S.epoch + 1) S.was (S.valC D) ∨ ∃ V, (∀ k, k ≠ 0 → k < S.pages D → V k = S.val D k) ∧ Cr ((committed (S.meta0 D) D).2.2.crash fs) (S.epoch + 1) S.now V) := by
 have hP := h.pendOk
 have e := meta0_is S D
 unfold Pl.nPend at hn
 obtain ⟨P, hPE⟩ : ∃ P, P = (S.meta0 D).pend := ⟨_, rfl⟩
 rw [← hPE] at hn hP e
 have hsl : S.slots = D.slots := h.ok.slots
 have hvn : ∀ k, k ≠ 0 → S.valP D P k = S.val D k := fun k hk => by
  unfold Pl.valP
  rw [hP.same k hk]
  rfl
 by_cases h0 : (P.keys D.sectors).length = 0
 ·have hnone : ∀ k, P k = none := fun k => by
   cases hk : P k with
   | none => rfl
   | some l =>
    have h1 := (hP.ok k l hk).1
    have : k ∈ P.keys D.sectors := mem_keys.2 ⟨by unfold Pl.pages at h1; omega, l, hk⟩
    rw [List.eq_nil_of_length_eq_zero h0] at this
    simp at this
  have hm : S.moved = false := by
   cases hm : S.moved with
   | false => rfl
   | true =>
    have := hP.zero
    rw [hnone, hm] at this
    cases this
  have hp : S.pend = Pgs.none_ := by
   funext k
   by_cases hk : k = 0
   ·subst hk; exact h.pz
   ·rw [← hP.same k hk, hnone]; rfl
  have e2 : S.meta0 D = S := by unfold Pl.meta0; rw [hm]; rfl
  have e3 : committed (S.meta0 D) D = (0, S, D) := by
   rw [e2]
   unfold committed
   rw [if_pos (by rw [hp]; have : P = Pgs.none_ := funext hnone; rw [← this]; exact h0)]
  rw [e3]
  refine .inl ⟨rfl, ⟨rows, h⟩, rfl, (h.mv hm).symm, hm, hp, by show S.epoch ≤ _; omega, rfl, rfl, fun k _ _ => ?_, rfl, rfl, fun h => h⟩
  show S.valC D k = _
  unfold Pl.val Pl.valC
  rw [hp]
  rfl
 ·have hgr : committed (S.meta0 D) D = (if S.room < (P.keys D.sectors).length then (if (point { S with pend := P } D).1 ≠ 0 then point { S with pend := P } D else appended (point { S with pend := P } D).2.1 (point { S with pend := P } D).2.2) else appended { S with pend := P } D) := by
   rw [e]
   unfold committed
   dsimp only
   rw [if_neg h0, if_neg (by omega)]
   rfl
  rw [hgr]
  by_cases hr : S.room < (P.keys D.sectors).length
  ·rw [if_pos hr, point_pend]
   dsimp only
   rcases point_armed h (by omega) with ⟨p1, p2, p3, p4, p5, p6, p7, p8⟩ | ⟨hd, hcr⟩
   ·rw [if_neg (by rw [p1]; simp), p2]
    obtain ⟨D1, hD1⟩ : ∃ D1, D1 = (point S D).2.2 := ⟨_, rfl⟩
    rw [← hD1] at p3 p4 p5 p6 p7 p8 ⊢
    have hP1 : PendOk S.pointed D1 P := by
     refine ⟨?_, hP.byt, hP.same, ?_⟩
     ·have hpg : S.pointed.pages D1 = S.pages D := by unfold Pl.pages; rw [p6]; rfl
      rw [hpg, rm_same p7]
      exact hP.ok
     ·rw [rm_same p7]
      exact hP.zero
    have hroom : S.pointed.room = (S.slots : Int) := by
     unfold Pl.room Pl.pointed Pl.begun Pl.fresh
     dsimp only
     omega
    have hvP : ∀ k, k ≠ 0 → k < S.pages D → S.pointed.valP D1 P k = S.val D k := fun k hk hkp => by
     rw [← p5 k hkp]
     unfold Pl.valP
     rw [hP.same k hk]
     rfl
    rcases append_armed p3 hP1 (by show S.epoch + 1 ≤ _; omega) (by rw [p6]; omega) (by rw [p6, hroom]; omega) with ⟨a1, ⟨n2, a2⟩, a3, a4, a5, a6, a7⟩ | ⟨hd, hcr⟩
    ·left
     refine ⟨a1, ⟨_, a3⟩, ?_, ?_, ?_, ?_, ?_, ?_, ?_, fun k hk hkp => ?_, a5.trans p6, a6.trans p7, fun h => p8 (a7 h)⟩
     ·rw [a2]; rfl
     ·rw [a2]; rfl
     ·rw [a2]; rfl
     ·rw [a2]; rfl
     ·rw [a2]; show S.epoch + 1 ≤ _; omega
     ·rw [a2]; rfl
     ·rw [a2]; rfl
     ·rw [a4, hvP k hk hkp]
    ·right
     refine ⟨⟨hd.e, p8 hd.arm, hd.down, hd.ok, hd.few, hd.sec.trans p6, hd.siz.trans p7⟩, fun fs => ?_⟩
     have hpg : ((appended { S.pointed with pend := P } D1).2.2.crash fs).pg = S.pages D := by
      have e1 : ((appended { S.pointed with pend := P } D1).2.2.crash fs).sectors = D.sectors := hd.sec.trans p6
      rw [← laid_pages h, pg_pages]
      unfold Dsk.pg Dsk.slots
      rw [e1]
     rcases hcr fs with hc | hc
     ·left
      refine (show Cr _ (S.epoch + 1) S.was _ from hc).congr fun k hk => ?_
      rw [hpg] at hk
      exact (p4 k hk).symm
     ·right
      exact ⟨_, hvP, hc⟩
   ·right
    rw [if_pos (by rw [hd.e]; simp)]
    refine ⟨hd, fun fs => .inl (hcr fs)⟩
  ·rw [if_neg hr]
   rcases append_armed h hP (by omega) (by omega) (by omega) with ⟨a1, ⟨n2, a2⟩, a3, a4, a5, a6, a7⟩ | ⟨hd, hcr⟩
   ·left
    refine ⟨a1, ⟨_, a3⟩, ?_, ?_, ?_, ?_, ?_, ?_, ?_, fun k hk hkp => ?_, a5, a6, a7⟩
    ·rw [a2]; rfl
    ·rw [a2]; rfl
    ·rw [a2]; rfl
    ·rw [a2]; rfl
    ·rw [a2]; show S.epoch ≤ _; omega
    ·rw [a2]; rfl
    ·rw [a2]; rfl
    ·rw [a4, hvn k hk]
   ·right
    refine ⟨hd, fun fs => ?_⟩
    rcases hcr fs with hc | hc
    ·exact .inl (hc.mono (by omega))
    ·exact .inr ⟨_, fun k hk _ => hvn k hk, hc.mono (by omega)⟩
end
end Go.Proofs.YtklppnknllbfnaaGreat
namespace Go.Proofs.YtklppnknllbfnaaGreat
open Go.RowKit Go.Maps
set_option maxRecDepth 8000
section
variable {D D' C : Dsk} {E : Nat} {rows : List (List (Int × List Nat))} {s : Sta} {V : Nat → List Nat} {S : Pl}
theorem tornL_in (D : Dsk) (f : Nat) : ∀ (k i : Nat), i < k → isTorn (D.tells ((f : Int) + i)) i = true → i ∈ tornL D f k
 | 0, i, h, _ => absurd h (by omega)
 | k + 1, i, h, ht => by
  unfold tornL
  by_cases hk : i = k
  ·subst hk
   rw [if_pos ht]
   simp
  ·have := tornL_in D f k i (by omega) ht
   split
   ·exact List.mem_append.2 (.inl this)
   ·exact this
theorem last_wipe (z f : Nat) (i : Nat) : ∀ ts : List Nat, last ((f : Int) + i) (ts.map fun j : Nat => ((f : Int) + j, List.replicate z 0)) = if i ∈ ts then some (List.replicate z 0) else none
 | [] => by simp [last]
 | j :: r => by
  rw [List.map_cons, last_cons, last_wipe z f i r]
  by_cases h : i ∈ r
  ·rw [if_pos h, if_pos (List.mem_cons_of_mem j h)]; rfl
  ·rw [if_neg h]
   by_cases h2 : i = j
   ·rw [if_pos (show ((f : Int) + (j : Int), List.replicate z 0).1 = (f : Int) + i by dsimp only; omega), if_pos (show i ∈ j :: r by rw [h2]; exact List.mem_cons_self)]; rfl
   ·rw [if_neg (show ¬ ((f : Int) + (j : Int), List.replicate z 0).1 = (f : Int) + i by dsimp only; omega), if_neg (show ¬ i ∈ j :: r by simp [h, h2])]; rfl
theorem nzB_zero : ∀ l : List Nat, nzB l = false → l = List.replicate l.length 0
 | [], _ => rfl
 | a :: r, h => by
  unfold nzB at h
  simp only [List.any_cons, Bool.or_eq_false_iff, decide_eq_false_iff_not, ne_eq, Decidable.not_not] at h
  have := nzB_zero r h.2
  rw [List.length_cons, List.replicate_succ, ← this, h.1]
/-- Behind Clean no slot is torn. -/
theorem Holds.wiped (h : Holds D E rows s V) (h0 : (goWipe 2 D (tornL D 2 D.slots)).1 = 0) : ∀ i : Nat, i < D.slots → SlotOk D E i ((goWipe 2 D (tornL D 2 D.slots)).2.tells (((2 : Nat) : Int) + i)) := by
 have hle := h.le
 have hnd := tornL_nd D 2 D.slots
 have hmem := tornL_mem D 2 D.slots
 intro i hi
 have hin := tornL_in D 2 D.slots i hi
 rw [goWipe_wave] at h0 ⊢
 obtain ⟨ts, hts⟩ : ∃ ts, ts = tornL D 2 D.slots := ⟨_, rfl⟩
 rw [← hts] at hnd hmem hin h0 ⊢
 have hfit : Fit D (wipeW D 2 ts) := by
  intro e he
  unfold wipeW at he
  obtain ⟨j, hj, rfl⟩ := List.mem_map.1 he
  have := (hmem j hj).1
  exact ⟨by dsimp only; omega, by dsimp only; omega, by simp, fun b hb => lt_zeros b hb⟩
 have hinj : ∀ i k (hi : i < (wipeW D 2 ts).length) (hk : k < (wipeW D 2 ts).length), (wipeW D 2 ts)[i].1 = (wipeW D 2 ts)[k].1 → i = k := by
  intro i k hi hk e
  unfold wipeW at e hi hk
  simp only [List.getElem_map] at e
  rw [List.length_map] at hi hk
  exact (List.getElem_inj hnd).1 (by omega)
 rcases wave_cases h.rest hfit hinj with ⟨_, _, _, w4, _⟩ | ⟨w1, _⟩
 ·rw [w4]
  unfold wipeW
  rw [last_wipe D.size 2 i ts]
  by_cases hm : i ∈ ts
  ·rw [if_pos hm]
   exact .inl rfl
  ·rw [if_neg hm]
   show SlotOk D E i (D.tells (((2 : Nat) : Int) + i))
   rcases h.sl i hi with h1 | h1
   ·exact h1
   ·left
    have hb : isTorn (D.tells (((2 : Nat) : Int) + i)) i = false := by
     cases hb : isTorn (D.tells (((2 : Nat) : Int) + i)) i with
     | false => rfl
     | true => exact absurd (hin hb) hm
    have hl := (Dsk.tells_ok h.rest.ok (((2 : Nat) : Int) + i)).1
    obtain ⟨t, ht⟩ : ∃ t, t = D.tells (((2 : Nat) : Int) + i) := ⟨_, rfl⟩
    rw [← ht] at h1 hb hl ⊢
    have hno : slotOk t i = false := by unfold slotOk; rw [readErr_bad h1]; rfl
    unfold isTorn at hb
    rw [slot_bad h1, (slot_no hno).2.2] at hb
    have hn : nzB t = false := by
     cases hn : nzB t with
     | false => rfl
     | true => rw [hn] at hb; simp at hb
    rw [← hl]
    exact nzB_zero t hn
 ·rw [w1] at h0; omega
/-- The pool that is opened on a calm disk. -/
theorem Holds.opened (h : Holds D E rows s V) (ha : D.armed = 0) (hE : E ≤ 900000000000) :
  opened D E rows s = (0, (Pl.found D E rows s).pointed, (YtklppnknllbfnaaGreat.opened D E rows s).2.2) ∧ InvR (Pl.found D E rows s).pointed (YtklppnknllbfnaaGreat.opened D E rows s).2.2 [] ∧ (∀ k, k < D.pg → (Pl.found D E rows s).pointed.valC (YtklppnknllbfnaaGreat.opened D E rows s).2.2 k = V k) ∧
   (YtklppnknllbfnaaGreat.opened D E rows s).2.2.sectors = D.sectors ∧ (YtklppnknllbfnaaGreat.opened D E rows s).2.2.size = D.size := by
 have e0 : YtklppnknllbfnaaGreat.opened D E rows s = if (goWipe 2 D (tornL D 2 D.slots)).1 ≠ 0 then ((goWipe 2 D (tornL D 2 D.slots)).1, Pl.found D E rows s, (goWipe 2 D (tornL D 2 D.slots)).2) else YtklppnknllbfnaaGreat.point (Pl.found D E rows s) (goWipe 2 D (tornL D 2 D.slots)).2 := by
  unfold YtklppnknllbfnaaGreat.opened Dsk.slots
  rfl
 have hwd := h.wiped
 rcases h.wipe (by omega) _ rfl with ⟨w1, w2, w3, w4, w5, w6, w7⟩ | ⟨_, w2, _⟩
 rotate_left
 ·omega
 have hwd := hwd w1
 rw [if_neg (by rw [w1]; simp)] at e0
 obtain ⟨D1, hD1⟩ : ∃ D1, D1 = (goWipe 2 D (tornL D 2 D.slots)).2 := ⟨_, rfl⟩
 rw [← hD1] at w2 w3 w4 w5 hwd e0
 have hsl : D1.slots = D.slots := by unfold Dsk.slots; rw [w3]
 have hpd := point_disk (Pl.found D E rows s) D1
 have hf1 : (Pl.found D E rows s).first = 2 + D1.slots := by rw [hsl]; unfold Dsk.slots; rfl
 have hf2 : (Pl.found D E rows s).last = putR Pgs.none_ rows := rfl
 have hf3 : (Pl.found D E rows s).epoch = E := rfl
 rw [hf1, hf2, hf3] at hpd
 rcases w2.point hE _ rfl with ⟨p1, p2, p3, p4, p5, p6, p7⟩ | ⟨_, q2, _⟩
 rotate_left
 ·have := w5 ha; omega
 rw [← hpd.1] at p1
 rw [← hpd.2] at p2 p3 p4 p5 p6 p7
 have hpl := point_pl p1
 obtain ⟨D2, hD2⟩ : ∃ D2, D2 = (YtklppnknllbfnaaGreat.point (Pl.found D E rows s) D1).2.2 := ⟨_, rfl⟩
 rw [← hD2] at p2 p3 p4 p5 p6 p7
 have e1 : YtklppnknllbfnaaGreat.opened D E rows s = (0, (Pl.found D E rows s).pointed, D2) := by
  rw [e0]
  exact Prod.ext p1 (Prod.ext hpl hD2.symm)
 rw [e1]
 dsimp only
 have hs2 : D2.sectors = D.sectors := p3.trans w3
 have hz2 : D2.size = D.size := p4.trans w4
 have hsl2 : D2.slots = D.slots := by unfold Dsk.slots; rw [hs2]
 have hpg2 : D2.pg = D.pg := by unfold Dsk.pg; rw [hs2, hsl2]
 have hle := h.le
 have hok := p2.rest.ok
 have he1 := h.e1
 have hss2 := hok.s2
 have hsS : (Pl.found D E rows s).pointed.slots = D2.slots := by rw [hsl2]; unfold Dsk.slots; rfl
 have hfS : (Pl.found D E rows s).pointed.first = 2 + D2.slots := by rw [hsl2]; unfold Dsk.slots; rfl
 have hpgS : (Pl.found D E rows s).pointed.pages D2 = D2.pg := by unfold Pl.pages Dsk.pg; rw [hfS]
 have hvC : ∀ k, k < D2.pg → (Pl.found D E rows s).pointed.valC D2 k = V k := fun k hk => by
  rw [← p2.val k hk]
  unfold Pl.valC
  rw [hfS]
  rfl
 have hslOk : ∀ i : Nat, i < D2.slots → SlotOk D2 (E + 1) i (D2.tells (((2 : Nat) : Int) + i)) := fun i hi => by
  rw [hsl2] at hi
  rw [p6 i (by omega)]
  exact ((hwd i hi).mono (by omega)).same hz2
 have hcl : Cln D2 (E + 1) := by
  refine ⟨hok, p2.rest.up, p2.s1, p2.z, p2.rest.lose, by rw [if_neg (by omega)]; exact p2.own, ?_, hslOk⟩
  have e : (E + 1 + 1) % 2 = E % 2 := by omega
  rw [e, p7, w2.own]
  exact .inr ⟨E, he1, by omega, by omega, by rw [head_same hz2, head_same w4]⟩
 have hlg : LogHas D2 ((Pl.found D E rows s).pointed.lg 0) [] := by
  refine LogHas.start p2.rest.up ?_ ⟨by show 2 ≤ 1048576; omega, by show (Pl.found D E rows s).pointed.slots ≤ 1048576; omega, ⟨by show 1 ≤ E + 1; omega, by show E + 1 ≤ 1099511627776; omega⟩, Nat.zero_le _⟩ rfl (by have := p2.z; omega) (fun i hi => ?_)
  ·show 2 + (Pl.found D E rows s).pointed.slots ≤ D2.sectors
   omega
  ·have hi : i < (Pl.found D E rows s).pointed.slots := hi
   have hh := hwd i (by omega)
   show slotEp (D2.tells (((2 : Nat) : Int) + i)) i ≠ ((E + 1 : Nat) : Int)
   rw [p6 i (by omega)]
   have := (hh.ep h.rest.ok (by omega) (by omega)).2.1
   omega
 have hst : s.Ok D2.pg := p2.sok
 have hpg := p2.pgs
 refine ⟨rfl, ⟨hcl, by show 1 ≤ E + 1; omega, ⟨p2.z, p2.s1, hss2, by rw [hsS]; unfold Dsk.slots; rfl, by rw [hfS, hsS], by rw [hpgS]; exact hst, by rw [hpgS]; exact hst, Pgs.Ok.none_, Pgs.Ok.none_, Pgs.Ok.none_⟩, rfl, ⟨0, rfl, hlg⟩, rfl, by simp, SeenF.none_, fun _ => rfl, ?_, fun i hi => ?_, fun i hi => ?_, rfl, fun k l hk => by simp [Pl.found, Pl.laid, Pl.pointed, Pl.fresh, Pl.begun, Pgs.none_] at hk, fun k l hk => by simp [Pl.pointed, Pl.fresh, Pgs.none_] at hk⟩, fun k hk => hvC k (by omega), hs2, hz2⟩
 ·rw [hvC 0 (by omega)]; exact p2.p0
 ·have hi : i < s.free.length := hi
  have := hst.fb _ (List.getElem_mem hi)
  have := hst.n2
  show (Pl.found D E rows s).pointed.valC D2 s.free[i] = _
  rw [hvC _ (by omega)]
  exact p2.ch i hi
 ·have hi : i < s.free.length := hi
  have := hst.fb _ (List.getElem_mem hi)
  have := hst.n2
  show (Pl.found D E rows s).pointed.valC D2 s.free[i] = _
  rw [hvC _ (by omega)]
  exact p2.ch i hi
end
end Go.Proofs.YtklppnknllbfnaaGreat
