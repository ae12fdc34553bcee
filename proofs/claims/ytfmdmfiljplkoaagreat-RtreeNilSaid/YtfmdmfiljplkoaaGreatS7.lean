/- A page's node: node. Printed by mk_s7.py. -/
import Derived.Test.YtfmdmfiljplkoaaGreatS6
namespace Go.Proofs.YtfmdmfiljplkoaaGreat
open Go.RowKit Go.Maps Go.Shelf
set_option maxRecDepth 8000
set_option linter.unusedSimpArgs false
variable {ι : Type} [Bar ι]
section
variable {w0 v v' : World} {L L' : List Bx} {R R' : List Rx} {M M' : Mem} {S S' : Pl} {D D' : Dsk} {K : Ks}
theorem Bxs.join (h : Bxs w0 v L R) (k : Bxs v v' L' R') : Bxs w0 v' (L' ++ L) (R' ++ R) := by
  have hg := h.grew k.low
  refine ⟨hg.low, ?_, ?_, ?_, ?_, ?_⟩
  · intro e he
    rcases List.mem_append.1 he with he | he
    · exact ⟨(k.blk e he).1, Nat.le_trans h.low.size (k.blk e he).2⟩
    · exact hg.blk e he
  · intro r hr
    rcases List.mem_append.1 hr with hr | hr
    · exact Own.base_ h.low.size (k.row r hr)
    · exact hg.row r hr
  · refine List.pairwise_append.2 ⟨k.p1, h.p1, fun x hx y hy e => ?_⟩
    have h1 := (k.blk x hx).2
    have h2 := (h.blk y hy).1.lt
    rw [e] at h1
    omega
  · refine List.pairwise_append.2 ⟨k.p2, h.p2, fun x hx y hy g h1 h2 => ?_⟩
    have h3 := (k.row_lt hx h1).1
    have h4 := (h.row_lt hy h2).2
    omega
  · intro e he r hr e2
    rcases List.mem_append.1 he with he | he <;> rcases List.mem_append.1 hr with hr | hr
    · exact k.p3 e he r hr e2
    · have h3 := (k.blk e he).2
      have h4 := (h.row_lt hr e2).2
      omega
    · have h3 := (k.row_lt hr e2).1
      have h4 := (h.blk e he).1.lt
      omega
    · exact h.p3 e he r hr e2
theorem Qn.join (h : Qn w0 v L R M S D K) (k : Bxs v v' L' R') : Qn w0 v' (L' ++ L) (R' ++ R) M S D K := by
  refine ⟨h.bx.join k, h.at_.grew k.low, h.lo, fun e he hm => ?_, fun r hr g hg hm => ?_, h.ks.grew k.low⟩
  · rcases List.mem_append.1 he with he | he
    · have h3 := (k.blk e he).2
      have h4 := h.at_.lt _ hm
      omega
    · exact h.nb e he hm
  · rcases List.mem_append.1 hr with hr | hr
    · have h3 := (k.row_lt hr hg).1
      have h4 := h.at_.lt _ hm
      omega
    · exact h.nr r hr g hg hm
/-- A page has a node. -/
def NodeP (S : Pl) (D : Dsk) (page lv : Nat) (es : List En) : Prop := S.now.taken page = true ∧ S.val D page = widen D.rm (nodeL lv es) ∧ (∀ e ∈ es, e.Ok) ∧ lv < 256 ∧ es.length < 65536
theorem nodeL_length (lv : Nat) (es : List En) : (nodeL lv es).length = 3 + 40 * es.length := by
  unfold nodeL
  rw [List.length_append, ents_length]
  rfl
theorem SameBut.val {k : Nat} (h : SameBut S S') : S'.val D k = S.val D k := by
  obtain ⟨f, rfl⟩ := h
  rfl
theorem SameBut.now (h : SameBut S S') : S'.now = S.now := by
  obtain ⟨f, rfl⟩ := h
  rfl
theorem SameBut.refl (S : Pl) : SameBut S S := ⟨S.seen, rfl⟩
theorem SameBut.trans {S2 : Pl} (h : SameBut S S') (k : SameBut S' S2) : SameBut S S2 := by
  obtain ⟨f, rfl⟩ := h
  obtain ⟨g, rfl⟩ := k
  exact ⟨g, rfl⟩
theorem NodeP.same {page lv : Nat} {es : List En} (h : NodeP S D page lv es) (k : SameBut S S') : NodeP S' D page lv es := by
  unfold NodeP at h ⊢
  rw [k.val, k.now]
  exact h
set_option maxHeartbeats 2000000 in
theorem node_q (h : Qn w0 v L R M S D K) (hi : ∃ rows, InvR S D rows) {page lv : Nat} {es : List En} (hn : NodeP S D page lv es) :
    Calls Tryz.prog 41 #[.agg #[.pointer (some ⟨M.p, 0, none⟩)], .int .i64 page] v fun e v' => ∃ pn A c S', e = .returned (.tuple #[.pointer (some ⟨pn, 0, none⟩), .int .i64 0]) ∧ SameBut S S' ∧
      Qn w0 v' (⟨pn, #[.int .i64 (lv : Nat), .slice A es.length c], 93⟩ :: L) (⟨84, 5, .slice A es.length c, es.length, cellsE lv es⟩ :: R) M S' D K ∧ ∃ rows, InvR S' D rows := by
  have HQ := Lib.hid h
  have HI := Lib.hid hi
  obtain ⟨ht, hv, he, hlv, hle⟩ := hn
  have hrd := fun (u : World) (hu : Lp w0 u M S D) => Read_lp (v := u) hu page ht
  rw [hv] at hrd
  have HRD := Lib.hid hrd
  obtain ⟨rows, hin⟩ := hi
  have hz := rm_size hin.cl.ok hin.cl.z
  have hz2 := hin.cl.ok.z2
  obtain ⟨k, ek, _, _, _, hk, _⟩ := taken_bounds hin.ok ht
  obtain rfl : page = k := by omega
  have hpl := hin.ok.page_len hin.cl.ok page
  rw [hin.page, hv] at hpl
  have hpn := parse_node he hle hlv (List.replicate (D.rm - (nodeL lv es).length) 0)
  have HP := Lib.hid (And.intro hpl (And.intro hpn (And.intro hz hz2)))
  have hrm := hin.rm
  have HRM := Lib.hid hrm
  clear h ht hv he hlv hle hrd hin hz hz2 hpl hpn ek hk hrm
  go_enter Tryz.func41, Tryz.ntmps41
  go_wp2_with (rw [wpl_id]; first
    | (refine wpln_box HQ 77 _ rfl (by first | exact .inl rfl | exact .inr ⟨_, _, _, _, rfl, rfl, rfl, rfl⟩) rfl (fun b2 w' H2 => ?_); clear HQ; have HQ := H2; clear H2)
    | (refine wpl_ld (Lib.hid HQ.out.bx) 0 rfl _ _ rfl (by first | exact .inl rfl | exact .inr ⟨_, _, _, _, rfl, rfl, rfl, rfl⟩) (by exact rfl) Tryz.isAgg26 rfl ?_))
  refine (HRD.out _ (HQ.out.lp HI.out)).mono ?_
  rintro e w1 ⟨u, S1, rfl, hb, hs, hk2, hst⟩
  obtain ⟨p, c, rfl, hlc, hr⟩ := hb.rd
  have HR := Lib.hid (parse_any hr rfl (by have := HRM.out; have := HP.out.1; omega) hlc (by have := HP.out.1; have := HP.out.2.2; omega))
  have HQ2 := Lib.hid (HQ.out.step hk2 hst)
  have HIN := Lib.hid hk2.inv
  have HS := Lib.hid hs
  clear hb hk2 hst HI hs HRD hr hlc
  clear HQ
  have HQ := HQ2
  clear HQ2
  go_wp2_with fail
  refine HR.out.mono ?_
  rintro e w2 ⟨pn, A2, c2, rfl, hbx⟩
  have hq := HQ.out.join hbx
  have e1 : (widen D.rm (nodeL lv es)).getD 0 0 = lv := HP.out.2.1.1
  have e2 : parseL (widen D.rm (nodeL lv es)) = es := HP.out.2.1.2
  rw [e1, e2] at hq
  have HQ2 := Lib.hid hq
  clear hq hbx e1 e2
  clear HQ
  have HQ := HQ2
  clear HQ2
  go_wp2
  refine bodyPost_ret (v := .tuple #[.pointer (some ⟨pn, 0, none⟩), .int .i64 0]) ?_ rfl ⟨pn, A2, c2, S1, rfl, HS.out, HQ.out.sub (List.Sublist.cons_cons _ (List.Sublist.cons _ (List.Sublist.refl _))) (List.Sublist.refl _), HIN.out⟩
  simp [results, Tryz.results41, go_sem]
end
end Go.Proofs.YtfmdmfiljplkoaaGreat
