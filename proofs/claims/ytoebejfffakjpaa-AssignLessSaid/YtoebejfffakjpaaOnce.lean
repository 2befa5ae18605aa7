/-
  Once: walks and laws, written by gen/gen.py out of gen/thy/Once.py.
-/
import Derived.Test.YtoebejfffakjpaaLaw1
set_option linter.unusedVariables false
namespace Go.Proofs.Ytoebejfffakjpaa
open Go Go.Eng Go.RowKit
def sumL (G : List (List Part)) (j : Nat) : Nat := ((G.take j).map List.length).sum
theorem sumL_succ {G : List (List Part)} {j : Nat} (h : j < G.length) : sumL G (j + 1) = sumL G j + G[j].length := by
  unfold sumL
  rw [List.take_succ_eq_append_getElem h, List.map_append, List.sum_append]
  simp
theorem sumL_le {G : List (List Part)} (h : ∀ r ∈ G, r.length ≤ 64) : ∀ j, j ≤ G.length → sumL G j ≤ 64 * j
  | 0, _ => by simp [sumL]
  | j + 1, hj => by
    rw [sumL_succ (by omega)]
    have := sumL_le h j (by omega)
    have := h _ (List.getElem_mem (show j < G.length by omega))
    omega
noncomputable def wantU (l : List Topic) (m : List Mem) (j : Nat) : Nat := ((l.take j).map fun t => (want1 m t).length).sum
theorem wantU_succ {l : List Topic} (m : List Mem) {j : Nat} (h : j < l.length) : wantU l m (j + 1) = wantU l m j + (want1 m l[j]).length := by
  unfold wantU
  rw [List.take_succ_eq_append_getElem h, List.map_append, List.sum_append]
  simp
theorem want1_yes {m : List Mem} {t : Topic} (h : ahead m m.length t.name ≠ 0) : want1 m t = strip t.name 0 t.n.toNat := if_neg h
theorem want1_no {m : List Mem} {t : Topic} (h : ahead m m.length t.name = 0) : want1 m t = [] := if_pos h
theorem want1_len (m : List Mem) (t : Topic) (h : t.n ≤ 8) : (want1 m t).length ≤ 8 := by
  by_cases ha : ahead m m.length t.name = 0
  · rw [want1_no ha]; simp
  · rw [want1_yes ha, strip_length]; omega
theorem wantU_le {l : List Topic} (m : List Mem) (h : ∀ t ∈ l, t.n ≤ 8) : ∀ j, j ≤ l.length → wantU l m j ≤ 8 * j
  | 0, _ => by simp [wantU]
  | j + 1, hj => by
    rw [wantU_succ m (by omega)]
    have := wantU_le m h j (by omega)
    have := want1_len m l[j] (h _ (List.getElem_mem _))
    omega
theorem PlanOk.total {l : List Topic} {m : List Mem} {G : List (List Part)} (h : PlanOk l m G) : sumL G G.length = wantU l m l.length := by
  have h1 := h.perm.length_eq
  rw [List.length_flatten] at h1
  unfold sumL wantU
  rw [List.take_length, List.take_length, h1]
  unfold expect
  rw [List.length_flatMap]
theorem some_step {m : List Mem} {j : Nat} {t : ByteArray} (hj : j < m.length) : ahead m (j + 1) t ≠ 0 ↔ (ahead m j t ≠ 0 ∨ m[j].has t) := by
  by_cases h : m[j].has t
  · rw [ahead_yes hj h]; simp [h]
  · rw [ahead_no hj h]; simp [h]
theorem rows_at {g : List (Rw Part)} {i : Nat} (h : i < g.length) : (rows g)[i]'(by simpa using h) = g[i].l := by simp
set_option maxRecDepth 20000 in
set_option maxHeartbeats 1600000 in
theorem lOnce (w0 : World) (a b q : Option Addr) (c d cq : Nat) (l : List Topic) (m : List Mem) (g : List (Rw Part)) (hl : Sl w0 a l) (hm : Sl w0 b m) (hts : ∀ x ∈ m, Sl w0 x.ta x.topics ∧ x.topics.length ≤ 1000) (hG : Gr w0 q g) (hck : checkE l m = 0) (hp : PlanOk l m (rows g)) (hle : ∀ r ∈ rows g, r.length ≤ 64) :
    Ct Try.prog 22 #[.agg [.slice a l.length c, .slice b m.length d].toArray, .slice q g.length cq] w0 fun v w' => v = .bool true ∧ Ext w0 w' := by
  obtain ⟨hl8, hlok, hm8, hmok⟩ := check_ok hck
  have hgm : g.length = m.length := by have := hp.len; simpa using this
  have hle' : ∀ r ∈ g, r.l.length ≤ 100000 := rows_le rfl (fun x hx => by have := hle x hx; omega)
  have hln : ∀ t ∈ l, t.n ≤ 8 := fun t ht => by
    obtain ⟨k, hk, rfl⟩ := List.getElem_of_mem ht
    exact (hlok k hk).1.2.2
  refine Ct.intro1 Try.func22 Try.ntmps22 rfl rfl (by decide) rfl ?_
  have H : Ext w0 w0 := Ext.refl w0
  refine WP.regionS ?_
  refine RL.boxS w0.heap.size H.size rfl rfl ?_
  intro w1 i2 hi2 hx hb2
  replace H := H.ext hx; clear hx
  refine RL.r (asgB rfl) rfl ?_
  refine RL.nil ?_
  refine WP.seq ?_
  refine WP.regionS ?_
  refine RL.r (mvL rfl) rfl ?_
  refine RL.r (len_sl rfl) rfl ?_
  refine RL.r (fa_box rfl) rfl ?_
  refine RL.m (ld_box rfl hb2 rfl) rfl ?_
  refine RL.r (len_sl rfl) rfl ?_
  refine RL.r (neq rfl rfl) rfl ?_
  refine RL.nil ?_
  refine WP.cond rfl (fun hc => ?_) (fun hc => ?_)
  · refine WP.regionS ?_
    refine RL.r (asgB rfl) rfl ?_
    refine RL.nil ?_
    refine WP.ret ?_
    refine fin1_ret rfl ⟨absurd hc (by simp [hgm]), H⟩
  · refine WP.skip ?_
    refine WP.regionS ?_
    refine RL.r (asgI rfl) rfl ?_
    refine RL.r (asgI rfl) rfl ?_
    refine RL.nil ?_
    refine WP.seq ?_
    refine WP.regionS ?_
    refine RL.r (asgI rfl) rfl ?_
    refine RL.nil ?_
    refine WP.block ?_
    refine WP.loop (fun k e' w' => ∃ j : Nat,  j + k = g.length ∧ Head [4, 5, 7, 8, 19, 20, 21, 22, 23, 24, 25, 26, 27, 28, 29, 30, 31, 32, 33, 34, 35, 36, 37, 38, 39, 40, 41, 42, 43, 44, 45, 46, 47, 48, 49, 50, 51, 52, 53, 54, 55, 56, 57, 58, 59, 60, 61, 62, 63, 64, 65, 66, 67, 68] _ [(5, .int .i64 ((sumL (rows g) j : Nat) : Int)), (7, .int .i64 (j : Int))] e' ∧ Ext w0 w' ∧ Box w0.heap.size w' i2 25 [.slice a l.length c, .slice b m.length d] ∧ True) (g.length)
      ⟨0, by omega, Head.intro (AgreeOff.refl _ _) ⟨rfl, rfl, trivial⟩, H, hb2, trivial⟩ ?_
    clear H hb2
    rintro k e w2 ⟨j, hjk, ⟨jk, rfl⟩, H, hb2, -⟩
    have hsl := sumL_le hle j (by simp; omega)
    refine WP.seq ?_
    refine WP.regionS ?_
    refine RL.r (mvI rfl) rfl ?_
    refine RL.r (mvL rfl) rfl ?_
    refine RL.r (len_sl rfl) rfl ?_
    refine RL.r (lss rfl rfl) rfl ?_
    refine RL.nil ?_
    refine WP.cond rfl (fun hc => ?_) (fun hc => ?_)
    · refine WP.skip ?_
      refine WP.seq ?_
      refine WP.block ?_
      refine WP.regionS ?_
      refine RL.r (mvI rfl) rfl ?_
      refine RL.r (mvL rfl) rfl ?_
      refine RL.r (mvI rfl) rfl ?_
      have hj : j < g.length := by omega
      have hjm : j < m.length := by omega
      obtain ⟨p0, rfl⟩ := hG.1.isAddr (by decide) hj
      have hlj : g[j].l.length ≤ 64 := hle _ (List.mem_map.2 ⟨g[j], List.getElem_mem hj, rfl⟩)
      refine RL.r (ix rfl rfl rfl (by omega)) rfl ?_
      refine RL.m (ld_e0 rfl hG.1 H rfl (by omega) rfl) rfl ?_
      refine RL.r (len_sl rfl) rfl ?_
      refine RL.r (add rfl rfl (by omega)) rfl ?_
      refine RL.r (asgI rfl) rfl ?_
      refine RL.nil ?_
      refine WP.regionS ?_
      refine RL.r (asgI rfl) rfl ?_
      refine RL.nil ?_
      refine WP.block ?_
      refine WP.loop (fun k1 e' w' => ∃ j1 : Nat,  j1 + k1 = g[j].l.length ∧ Head [4, 8, 32, 33, 34, 35, 36, 37, 38, 39, 40, 41, 42, 43, 44, 45, 46, 47, 48, 49, 50, 51, 52, 53, 54, 55, 56, 57, 58, 59, 60, 61, 62, 63, 64, 65, 66, 67, 68] _ [(8, .int .i64 (j1 : Int))] e' ∧ Ext w0 w' ∧ Box w0.heap.size w' i2 25 [.slice a l.length c, .slice b m.length d] ∧ True) (g[j].l.length)
        ⟨0, by omega, Head.intro (AgreeOff.refl _ _) ⟨rfl, trivial⟩, H, hb2, trivial⟩ ?_
      clear H hb2
      rintro k1 e w3 ⟨j1, hjk1, ⟨jk1, rfl⟩, H, hb2, -⟩
      refine WP.seq ?_
      refine WP.regionS ?_
      refine RL.r (mvI rfl) rfl ?_
      refine RL.r (mvL rfl) rfl ?_
      refine RL.r (mvI rfl) rfl ?_
      refine RL.r (ix rfl rfl rfl hj) rfl ?_
      refine RL.m (ld_e0 rfl hG.1 H rfl hj rfl) rfl ?_
      refine RL.r (len_sl rfl) rfl ?_
      refine RL.r (lss rfl rfl) rfl ?_
      refine RL.nil ?_
      refine WP.cond rfl (fun hc => ?_) (fun hc => ?_)
      · refine WP.skip ?_
        refine WP.seq ?_
        refine WP.block ?_
        refine WP.seq ?_
        refine WP.draw (by kernel_rfl) ?_
        refine QL.r (fa_box rfl) rfl ?_
        refine QL.m (ld_box rfl hb2 rfl) rfl ?_
        refine QL.r (mvI rfl) rfl ?_
        obtain ⟨pm, rfl⟩ := hm.isAddr (by decide) hjm
        refine QL.r (ix rfl rfl rfl hjm) rfl ?_
        refine QL.m (ldS_el rfl hm H rfl rfl hjm) rfl ?_
        refine QL.r (mvL rfl) rfl ?_
        refine QL.r (mvI rfl) rfl ?_
        refine QL.r (ix rfl rfl rfl hj) rfl ?_
        have hj1 : j1 < g[j].l.length := by omega
        have hgj := hG.2 _ (List.getElem_mem hj)
        obtain ⟨q2, hq⟩ := hgj.isAddr (by decide) hj1
        rw [hq] at hgj
        have hK1 : ∀ w', Ext w3 w' → Ct Try.prog 20 #[.agg (Lies.enc m[j]).toArray, .string g[j].l[j1].topic] w' fun u w'' => u = .bool (decide (m[j].has g[j].l[j1].topic)) ∧ Ext w' w'' := fun w' hw' => rWants w' m[j] g[j].l[j1].topic ((hts _ (List.getElem_mem hjm)).1.ext (H.ext hw')) (hts _ (List.getElem_mem hjm)).2
        have hK2 : ∀ w', Ext w3 w' → Ct Try.prog 18 #[.slice (some p0) g.length cq, .agg (Lies.enc g[j].l[j1]).toArray] w' fun u w'' => u = .int .i64 (whose (rows g) g[j].l[j1]) ∧ Ext w' w'' := fun w' hw' => rWhose w' (some p0) cq g g[j].l[j1] (hG.ext (H.ext hw')) (by omega) hle'
        refine QL.m (ld_e0 rfl hG.1 H rfl hj (hdr hq)) rfl ?_
        refine QL.r (mvI rfl) rfl ?_
        refine QL.r (ix rfl rfl rfl hj1) rfl ?_
        refine QL.r (fa_el hgj.1 rfl) rfl ?_
        refine QL.m (ld_el rfl hgj H rfl hj1 rfl) rfl ?_
        -- call stagecoach/stagecoachref10.Wants (tmp 45) (tmp 53)
        refine QL.call (fun w' hw' => hK1 w' hw') rfl rfl ?_
        first | refine QL.r (notD rfl) rfl ?_ | refine QL.r (not_ rfl) rfl ?_
        refine QL.r (mvB rfl) rfl ?_
        refine QL.gg (gwF rfl rfl) (fun hg => (mvL rfl).does _) rfl ?_
        refine QL.gg (gwF rfl rfl) (fun hg => (mvL rfl).does _) rfl ?_
        refine QL.gg (gwF rfl rfl) (fun hg => (mvI rfl).does _) rfl ?_
        refine QL.gg (gwF rfl rfl) (fun hg => (ix (gs hg rfl) (gs hg rfl) rfl hj).does _) rfl ?_
        refine QL.gg (gwF rfl rfl) (fun hg => ld_e0 (gs hg rfl) hG.1 H rfl hj (hdr hq)) rfl ?_
        refine QL.gg (gwF rfl rfl) (fun hg => (mvI rfl).does _) rfl ?_
        refine QL.gg (gwF rfl rfl) (fun hg => (ix (gs hg rfl) (gs hg rfl) rfl hj1).does _) rfl ?_
        refine QL.gg (gwF rfl rfl) (fun hg => ldS_el (gs hg rfl) hgj H rfl rfl hj1) rfl ?_
        -- call stagecoach/stagecoachref10.Whose (tmp 57) (tmp 64)
        refine QL.gcall (gwF rfl rfl) (fun hg w' hw' => hK2 w' hw') (fun hg => EvL.cons (gs hg rfl) (EvL.cons (gs hg rfl) (EvL.nil))) rfl ?_
        refine QL.gg (gwF rfl rfl) (fun hg => (mvI rfl).does _) rfl ?_
        refine QL.gg (gwF rfl rfl) (fun hg => (neq (gs hg rfl) (gs hg rfl)).does _) rfl ?_
        refine QL.r (pickOr rfl (fun hn => gs hn rfl)) rfl ?_
        refine QL.nil ?_; intro w6 hx; replace H := H.ext hx; replace hb2 := hb2.ext hx
        refine WP.cond rfl (fun hc => ?_) (fun hc => ?_)
        · refine WP.regionS ?_
          refine RL.r (asgB rfl) rfl ?_
          refine RL.nil ?_
          refine WP.ret ?_
          have hmem : g[j].l[j1] ∈ (rows g)[j]'(by simpa using hj) := by rw [rows_at hj]; exact List.getElem_mem hj1
          have hw1 := hp.wants j (by simpa using hj) _ hmem
          have hw2 := hp.who hlok j (by simpa using hj) _ hmem
          refine fin1_ret rfl ⟨absurd hc (by rw [hw2]; simp [(wantsAt_iff hjm).1 hw1]), H⟩
        · refine WP.skip ?_
          refine WP.region ?_
          refine RL.r (mvI rfl) rfl ?_
          refine RL.r (add rfl rfl (by omega)) rfl ?_
          refine RL.r (asgI rfl) rfl ?_
          refine RL.nil ?_
          refine ⟨k1 - 1, by omega, j1 + 1, by omega, Head.intro (by repeat (first | with_reducible exact AgreeOff.mix _ _ _ | refine AgreeOff.look rfl ?_ | refine AgreeOff.mixs rfl ?_)) ⟨rfl, trivial⟩, H, hb2, trivial⟩
      · refine WP.exit ?_
        refine WP.region ?_
        refine RL.r (mvI rfl) rfl ?_
        refine RL.r (add rfl rfl (by omega)) rfl ?_
        refine RL.r (asgI rfl) rfl ?_
        refine RL.nil ?_
        refine ⟨k - 1, by omega, j + 1, by omega, Head.intro (by repeat (first | with_reducible exact AgreeOff.mix _ _ _ | refine AgreeOff.look rfl ?_ | refine AgreeOff.mixs rfl ?_)) ⟨intE (by rw [sumL_succ (by simpa using hj), rows_at hj]; omega), rfl, trivial⟩, H, hb2, trivial⟩
    · refine WP.exit ?_
      refine WP.seq ?_
      refine WP.regionS ?_
      refine RL.r (asgI rfl) rfl ?_
      refine RL.nil ?_
      refine WP.block ?_
      refine WP.loop (fun k2 e' w' => ∃ j2 : Nat,  j2 + k2 = l.length ∧ Head [4, 6, 9, 10, 11, 12, 69, 70, 71, 72, 73, 74, 75, 76, 77, 78, 79, 80, 81, 82, 83, 84, 85, 86, 87, 88, 89, 90, 91, 92, 93, 94, 95, 96, 97, 98, 99, 100, 101, 102, 103, 104, 105, 106, 107, 108, 109, 110, 111, 112, 113, 114, 115, 116, 117, 118, 119, 120, 121, 122, 123, 124, 125, 126, 127, 128, 129, 130] _ [(6, .int .i64 ((wantU l m j2 : Nat) : Int)), (9, .int .i64 (j2 : Int))] e' ∧ Ext w0 w' ∧ Box w0.heap.size w' i2 25 [.slice a l.length c, .slice b m.length d] ∧ True) (l.length)
        ⟨0, by omega, Head.intro (AgreeOff.refl _ _) ⟨rfl, rfl, trivial⟩, H, hb2, trivial⟩ ?_
      clear H hb2
      rintro k2 e w7 ⟨j2, hjk2, ⟨jk2, rfl⟩, H, hb2, -⟩
      have hwu := fun h => wantU_le m hln j2 h
      refine WP.seq ?_
      refine WP.regionS ?_
      refine RL.r (mvI rfl) rfl ?_
      refine RL.r (fa_box rfl) rfl ?_
      refine RL.m (ld_box rfl hb2 rfl) rfl ?_
      refine RL.r (len_sl rfl) rfl ?_
      refine RL.r (lss rfl rfl) rfl ?_
      refine RL.nil ?_
      refine WP.cond rfl (fun hc => ?_) (fun hc => ?_)
      · refine WP.skip ?_
        refine WP.seq ?_
        refine WP.block ?_
        refine WP.regionS ?_
        refine RL.r (asgB rfl) rfl ?_
        refine RL.nil ?_
        refine WP.seq ?_
        refine WP.regionS ?_
        refine RL.r (asgI rfl) rfl ?_
        refine RL.nil ?_
        refine WP.block ?_
        have hj2 : j2 < l.length := by omega
        have htn := (hlok j2 hj2).1.2
        refine WP.loop (fun k3 e' w' => ∃ j3 : Nat,  j3 + k3 = m.length ∧ Head [10, 11, 76, 77, 78, 79, 80, 81, 82, 83, 84, 85, 86, 87, 88, 89, 90, 91, 92, 93, 94, 95, 96, 97] _ [(10, .bool (decide (ahead m j3 l[j2].name ≠ 0))), (11, .int .i64 (j3 : Int))] e' ∧ Ext w0 w' ∧ Box w0.heap.size w' i2 25 [.slice a l.length c, .slice b m.length d] ∧ True) (m.length)
          ⟨0, by omega, Head.intro (AgreeOff.refl _ _) ⟨congrArg Value.bool (bF (by rw [ahead_zero]; simp)), rfl, trivial⟩, H, hb2, trivial⟩ ?_
        clear H hb2
        rintro k3 e w8 ⟨j3, hjk3, ⟨jk3, rfl⟩, H, hb2, -⟩
        refine WP.seq ?_
        refine WP.regionS ?_
        refine RL.r (mvI rfl) rfl ?_
        refine RL.r (fa_box rfl) rfl ?_
        refine RL.m (ld_box rfl hb2 rfl) rfl ?_
        refine RL.r (len_sl rfl) rfl ?_
        refine RL.r (lss rfl rfl) rfl ?_
        refine RL.nil ?_
        refine WP.cond rfl (fun hc => ?_) (fun hc => ?_)
        · refine WP.skip ?_
          refine WP.seq ?_
          refine WP.block ?_
          refine WP.draw (by kernel_rfl) ?_
          refine QL.r (mvB rfl) rfl ?_
          refine QL.r (mvB rfl) rfl ?_
          refine QL.gg (gwF rfl rfl) (fun hg => (fa_box rfl).does _) rfl ?_
          refine QL.gg (gwF rfl rfl) (fun hg => ld_box (gs hg rfl) hb2 rfl) rfl ?_
          refine QL.gg (gwF rfl rfl) (fun hg => (mvI rfl).does _) rfl ?_
          have hj3 : j3 < m.length := by omega
          obtain ⟨pm, rfl⟩ := hm.isAddr (by decide) hj3
          have hK3 : ∀ w', Ext w8 w' → Ct Try.prog 20 #[.agg (Lies.enc m[j3]).toArray, .string l[j2].name] w' fun u w'' => u = .bool (decide (m[j3].has l[j2].name)) ∧ Ext w' w'' := fun w' hw' => rWants w' m[j3] l[j2].name ((hts _ (List.getElem_mem hj3)).1.ext (H.ext hw')) (hts _ (List.getElem_mem hj3)).2
          refine QL.gg (gwF rfl rfl) (fun hg => (ix (gs hg rfl) (gs hg rfl) rfl hj3).does _) rfl ?_
          refine QL.gg (gwF rfl rfl) (fun hg => ldS_el (gs hg rfl) hm H rfl rfl hj3) rfl ?_
          refine QL.gg (gwF rfl rfl) (fun hg => (fa_box rfl).does _) rfl ?_
          refine QL.gg (gwF rfl rfl) (fun hg => ld_box (gs hg rfl) hb2 rfl) rfl ?_
          refine QL.gg (gwF rfl rfl) (fun hg => (mvI rfl).does _) rfl ?_
          obtain ⟨pl, rfl⟩ := hl.isAddr (by decide) hj2
          refine QL.gg (gwF rfl rfl) (fun hg => (ix (gs hg rfl) (gs hg rfl) rfl hj2).does _) rfl ?_
          refine QL.gg (gwF rfl rfl) (fun hg => (fa_el hl.1 (gs hg rfl)).does _) rfl ?_
          refine QL.gg (gwF rfl rfl) (fun hg => ld_el (gs hg rfl) hl H rfl hj2 rfl) rfl ?_
          -- call stagecoach/stagecoachref10.Wants (tmp 89) (tmp 95)
          refine QL.gcall (gwF rfl rfl) (fun hg w' hw' => hK3 w' hw') (fun hg => EvL.cons (gs hg rfl) (EvL.cons (gs hg rfl) (EvL.nil))) rfl ?_
          refine QL.r (pickOr rfl (fun hn => gs hn rfl)) rfl ?_
          refine QL.r (asgB rfl) rfl ?_
          refine QL.nil ?_; intro w10 hx; replace H := H.ext hx; replace hb2 := hb2.ext hx
          refine WP.region ?_
          refine RL.r (mvI rfl) rfl ?_
          refine RL.r (add rfl rfl (by omega)) rfl ?_
          refine RL.r (asgI rfl) rfl ?_
          refine RL.nil ?_
          refine ⟨k3 - 1, by omega, j3 + 1, by omega, Head.intro (by repeat (first | with_reducible exact AgreeOff.mix _ _ _ | refine AgreeOff.look rfl ?_ | refine AgreeOff.mixs rfl ?_)) ⟨congrArg Value.bool (bD (some_step hj3).symm), rfl, trivial⟩, H, hb2, trivial⟩
        · refine WP.exit ?_
          refine WP.seq ?_
          refine WP.regionS ?_
          refine RL.r (mvB rfl) rfl ?_
          refine RL.nil ?_
          refine WP.cut (α := Int) [6, 99, 100, 101, 102, 103, 104, 105, 106] (fun x => [(6, .int .i64 x)]) (fun x w' => Ext w0 w' ∧ Box w0.heap.size w' i2 25 [.slice a l.length c, .slice b m.length d] ∧ x = ((wantU l m (j2 + 1) : Nat) : Int)) ?_ ?_
          · refine WP.cond rfl (fun hc => ?_) (fun hc => ?_)
            · refine WP.region ?_
              refine RL.r (mvI rfl) rfl ?_
              refine RL.r (fa_box rfl) rfl ?_
              refine RL.m (ld_box rfl hb2 rfl) rfl ?_
              refine RL.r (mvI rfl) rfl ?_
              obtain ⟨pl, rfl⟩ := hl.isAddr (by decide) hj2
              have hwu := hwu (by omega)
              refine RL.r (ix rfl rfl rfl hj2) rfl ?_
              refine RL.r (fa_el hl.1 rfl) rfl ?_
              refine RL.m (ld_el rfl hl H rfl hj2 rfl) rfl ?_
              refine RL.r (add rfl rfl (by omega)) rfl ?_
              refine RL.r (asgI rfl) rfl ?_
              refine RL.nil ?_
              refine ⟨_, Head.intro (by repeat (first | with_reducible exact AgreeOff.refl _ _ | with_reducible exact AgreeOff.mix _ _ _ | refine AgreeOff.look rfl ?_ | refine AgreeOff.mixs rfl ?_)) ⟨rfl, trivial⟩, H, hb2, by rw [wantU_succ m hj2, want1_yes (by rw [← show j3 = m.length by omega]; exact hc), strip_length]; omega⟩
            · refine WP.skip ?_
              refine ⟨_, Head.intro (by repeat (first | with_reducible exact AgreeOff.refl _ _ | with_reducible exact AgreeOff.mix _ _ _ | refine AgreeOff.look rfl ?_ | refine AgreeOff.mixs rfl ?_)) ⟨rfl, trivial⟩, H, hb2, by rw [wantU_succ m hj2, want1_no (by rw [← show j3 = m.length by omega]; omega)]; simp⟩
          rintro x6 jc w11 ⟨H, hb2, hx6⟩
          refine WP.regionS ?_
          refine RL.r (asgI rfl) rfl ?_
          refine RL.nil ?_
          refine WP.block ?_
          refine WP.loop (fun k4 e' w' => ∃ j4 : Nat,  j4 + k4 = l[j2].n.toNat ∧ Head [4, 12, 107, 108, 109, 110, 111, 112, 113, 114, 115, 116, 117, 118, 119, 120, 121, 122, 123, 124, 125, 126, 127, 128, 129, 130] _ [(12, .int .i64 (j4 : Int))] e' ∧ Ext w0 w' ∧ Box w0.heap.size w' i2 25 [.slice a l.length c, .slice b m.length d] ∧ True) (l[j2].n.toNat)
            ⟨0, by omega, Head.intro (AgreeOff.refl _ _) ⟨rfl, trivial⟩, H, hb2, trivial⟩ ?_
          clear H hb2
          rintro k4 e w12 ⟨j4, hjk4, ⟨jk4, rfl⟩, H, hb2, -⟩
          refine WP.seq ?_
          refine WP.seq (WP.quiet ?_)
          refine QL.r (mvI rfl) rfl ?_
          refine QL.r (fa_box rfl) rfl ?_
          refine QL.m (ld_box rfl hb2 rfl) rfl ?_
          refine QL.r (mvI rfl) rfl ?_
          obtain ⟨pl, rfl⟩ := hl.isAddr (by decide) hj2
          refine QL.r (ix rfl rfl rfl hj2) rfl ?_
          refine QL.r (fa_el hl.1 rfl) rfl ?_
          refine QL.m (ld_el rfl hl H rfl hj2 rfl) rfl ?_
          refine QL.r (lss rfl rfl) rfl ?_
          refine QL.r (mvB rfl) rfl ?_
          refine QL.gg (gwT rfl rfl) (fun hg => (mvB rfl).does _) rfl ?_
          refine QL.r (pickAnd rfl (fun hn => gs hn rfl)) rfl ?_
          refine QL.nil ?_; intro w13 hx; replace H := H.ext hx; replace hb2 := hb2.ext hx
          refine WP.cond rfl (fun hc => ?_) (fun hc => ?_)
          · refine WP.skip ?_
            refine WP.seq ?_
            refine WP.block ?_
            refine WP.regionS ?_
            refine RL.r (mvL rfl) rfl ?_
            refine RL.r (fa_box rfl) rfl ?_
            refine RL.m (ld_box rfl hb2 rfl) rfl ?_
            refine RL.r (mvI rfl) rfl ?_
            refine RL.r (ix rfl rfl rfl hj2) rfl ?_
            refine RL.r (fa_el hl.1 rfl) rfl ?_
            refine RL.m (ld_el rfl hl H rfl hj2 rfl) rfl ?_
            refine RL.r (mvI rfl) rfl ?_
            refine RL.r (bld rfl rfl) rfl ?_
            -- call stagecoach/stagecoachref10.Whose (tmp 120) (tmp 128)
            have hcs := hc
            refine RL.call (rWhose _ _ cq g ⟨l[j2].name, (j4 : Int)⟩ (hG.ext H) (by omega) hle') rfl rfl ?_
            rintro _ w14 ⟨rfl, hx⟩
            replace H := H.ext hx; replace hb2 := hb2.ext hx
            refine RL.r (lss rfl rfl) rfl ?_
            refine RL.nil ?_
            refine WP.cond rfl (fun hc => ?_) (fun hc => ?_)
            · refine WP.regionS ?_
              refine RL.r (asgB rfl) rfl ?_
              refine RL.nil ?_
              refine WP.ret ?_
              have hmem : (⟨l[j2].name, (j4 : Int)⟩ : Part) ∈ expect l m := by
                refine List.mem_flatMap.2 ⟨l[j2], List.getElem_mem hj2, ?_⟩
                rw [want1_yes (by rw [← show j3 = m.length by omega]; exact hcs.2)]
                exact mem_strip.2 ⟨rfl, by show (0 : Int) ≤ (j4 : Int); omega, by show (j4 : Int) < _; omega⟩
              have hh := hp.has hlok hmem
              refine fin1_ret rfl ⟨absurd hc (by omega), H⟩
            · refine WP.skip ?_
              refine WP.region ?_
              refine RL.r (mvI rfl) rfl ?_
              refine RL.r (add rfl rfl (by omega)) rfl ?_
              refine RL.r (asgI rfl) rfl ?_
              refine RL.nil ?_
              refine ⟨k4 - 1, by omega, j4 + 1, by omega, Head.intro (by repeat (first | with_reducible exact AgreeOff.mix _ _ _ | refine AgreeOff.look rfl ?_ | refine AgreeOff.mixs rfl ?_)) ⟨rfl, trivial⟩, H, hb2, trivial⟩
          · refine WP.exit ?_
            refine WP.region ?_
            refine RL.r (mvI rfl) rfl ?_
            refine RL.r (add rfl rfl (by omega)) rfl ?_
            refine RL.r (asgI rfl) rfl ?_
            refine RL.nil ?_
            refine ⟨k2 - 1, by omega, j2 + 1, by omega, Head.intro (by repeat (first | with_reducible exact AgreeOff.mix _ _ _ | refine AgreeOff.look rfl ?_ | refine AgreeOff.mixs rfl ?_)) ⟨intE hx6, intE (by omega), trivial⟩, H, hb2, trivial⟩
      · refine WP.exit ?_
        refine WP.regionS ?_
        refine RL.r (mvI rfl) rfl ?_
        refine RL.r (mvI rfl) rfl ?_
        refine RL.r (eql rfl rfl) rfl ?_
        refine RL.r (asgB rfl) rfl ?_
        refine RL.nil ?_
        refine WP.ret ?_
        refine fin1_ret rfl ⟨congrArg Value.bool (bT (by rw [show j = (rows g).length by simp; omega, show j2 = l.length by omega, hp.total])).symm, H⟩
end Go.Proofs.Ytoebejfffakjpaa
