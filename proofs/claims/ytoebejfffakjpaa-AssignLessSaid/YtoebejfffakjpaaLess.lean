/-
  Less: walks and laws, written by gen/gen.py out of gen/thy/Less.py.
-/
import Derived.Test.YtoebejfffakjpaaLess0
set_option linter.unusedVariables false
namespace Go.Proofs.Ytoebejfffakjpaa
open Go Go.Eng Go.RowKit
set_option maxRecDepth 20000 in
set_option maxHeartbeats 3200000 in
theorem lAssignLess (w0 : World) (a b : Option Addr) (c d : Nat) (l : List Topic) (m : List Mem) (k0 : Int) (hl : SlI w0 a l) (hm : SlI w0 b m) (hts : ∀ x ∈ m, SlI w0 x.ta x.topics) :
    Ct Try.prog 6 #[.agg [.slice a l.length c, .slice b m.length d].toArray, .int .i64 k0] w0 fun v w' => v = .bool true ∧ Ext w0 w' := by
  refine Ct.intro1 Try.func6 Try.ntmps6 rfl rfl (by decide) rfl ?_
  have H : Ext w0 w0 := Ext.refl w0
  refine WP.regionS ?_
  refine RL.boxS w0.heap.size H.size rfl rfl ?_
  intro w1 i2 hi2 hx hb2
  replace H := H.ext hx; clear hx
  refine RL.r (asgB rfl) rfl ?_
  refine RL.nil ?_
  refine WP.regionS ?_
  refine RL.m (ldS_box rfl hb2 (Nat.le_of_ble_eq_true rfl) rfl) rfl ?_
  -- call stagecoach/stagecoachlaw10.cut (tmp 18)
  have H0s := H.size
  refine RL.call (lCut _ _ _ c d l m (fun h => (hl h).ext H) (fun h => (hm h).ext H) (fun x hx h => (hts x hx h).ext H)) rfl rfl ?_
  rintro _ w2 ⟨⟨a1, c1, L1, b1, d1, M1, rfl, hA⟩, hx⟩
  replace H := H.ext hx; replace hb2 := hb2.ext hx
  have hb2o := hb2
  refine RL.storeS rfl hb2 rfl rfl rfl rfl ?_
  intro w3 hu hb2
  replace H := H.box hu hb2.old
  refine RL.nil ?_
  refine WP.seq ?_
  refine WP.seq (WP.quiet ?_)
  refine QL.r (fa_box rfl) rfl ?_
  refine QL.m (ld_box rfl hb2 rfl) rfl ?_
  refine QL.r (fa_box rfl) rfl ?_
  refine QL.m (ld_box rfl hb2 rfl) rfl ?_
  -- call stagecoach/assign.Check (tmp 21) (tmp 23)
  replace hA := hA.mono H0s
  replace hA := hA.box hb2o (by decide) (by decide) (by decide) hu
  have HA := Ext.refl w3
  have H03 := H
  have hb23 := hb2
  have hK0 : ∀ w', Ext w3 w' → Ct Try.prog 15 #[.slice a1 L1.length c1, .slice b1 M1.length d1] w' fun u w'' => u = .int .i64 (checkE L1 M1) ∧ Ext w' w'' := fun w' hw' => pCheck w' _ _ c1 d1 L1 M1 (hA.ol.sl.ext hw') (hA.om.sl.ext hw')
  refine QL.call (fun w' hw' => hK0 w' hw') rfl rfl ?_
  refine QL.r (neq rfl rfl) rfl ?_
  refine QL.r (mvB rfl) rfl ?_
  refine QL.gg (gwF rfl rfl) (fun hg => (fa_box rfl).does _) rfl ?_
  refine QL.gg (gwF rfl rfl) (fun hg => ld_box (gs hg rfl) hb2 rfl) rfl ?_
  refine QL.gg (gwF rfl rfl) (fun hg => (len_sl (gs hg rfl)).does _) rfl ?_
  refine QL.gg (gwF rfl rfl) (fun hg => (eql (gs hg rfl) rfl).does _) rfl ?_
  refine QL.r (pickOr rfl (fun hn => gs hn rfl)) rfl ?_
  refine QL.nil ?_; intro w5 hx; replace H := H.ext hx; replace hb2 := hb2.ext hx; replace HA := HA.ext hx
  refine WP.cond rfl (fun hc => ?_) (fun hc => ?_)
  · refine WP.regionS ?_
    -- call stagecoach/stagecoachlaw10.fixed 
    refine RL.call (lFixed _) rfl rfl ?_
    rintro _ w6 ⟨rfl, hx⟩
    replace H := H.ext hx; replace hb2 := hb2.ext hx; replace HA := HA.ext hx
    refine RL.r (asgB rfl) rfl ?_
    refine RL.nil ?_
    refine WP.ret ?_
    refine fin1_ret rfl ⟨rfl, H⟩
  · have hck : checkE L1 M1 = 0 := Classical.not_not.1 fun h => hc (Or.inl h)
    have hne : 0 < M1.length := Nat.pos_of_ne_zero fun h => hc (Or.inr (by rw [h]; rfl))
    refine WP.skip ?_
    refine WP.regionS ?_
    refine RL.r (mvI rfl) rfl ?_
    refine RL.r (and16 rfl rfl) rfl ?_
    refine RL.r (fa_box rfl) rfl ?_
    refine RL.m (ld_box rfl hb2 rfl) rfl ?_
    refine RL.r (len_sl rfl) rfl ?_
    refine RL.r (rem rfl rfl (by omega)) rfl ?_
    refine RL.r (asgI rfl) rfl ?_
    refine RL.nil ?_
    refine WP.regionS ?_
    obtain ⟨hl8, hlok, hm8, hmok⟩ := check_ok hck
    obtain ⟨n, hnd⟩ : ∃ n, n = and16v k0 % M1.length := ⟨_, rfl⟩
    have hn : n < M1.length := by rw [hnd]; exact Nat.mod_lt _ hne
    have hJn : ((and16v k0 : Nat) : Int) % ((M1.length : Nat) : Int) = ((n : Nat) : Int) := by rw [hnd]; exact (Int.natCast_emod _ _).symm
    have hmc := own_le hA.om
    have hckL : checkE L1 (lessM M1 n) = 0 := less_check hn hck
    have hckI : checkE L1 (idleM M1 n hn) = 0 := idle_check hn hck
    have htl : (M1.take n).length = n := by rw [List.length_take]; omega
    have hdl : (M1.drop (n + 1)).length = M1.length - (n + 1) := List.length_drop
    refine RL.build0 (α := Mem) w3.heap.size HA.size rfl ?_
    intro w7 i39 hi39 hx hb39
    replace H := H.ext hx; replace hb2 := hb2.ext hx; replace HA := HA.ext hx; clear hx
    refine RL.r (fa_box rfl) rfl ?_
    refine RL.m (ld_box rfl hb2 rfl) rfl ?_
    refine RL.r (mvI rfl) rfl ?_
    refine RL.r (slcT (n := n) rfl rfl hJn (by omega)) rfl ?_
    refine RL.appendS rfl hb39 HA.size rfl ((hA.om.sl.pre n).ext HA) htl rfl (by decide) rfl cell1 (by simp only [List.length_nil]; omega) (by simp only [maxLen, List.length_nil]; omega) rfl ?_
    intro w8 a44 c44 hu hb44 hfr44
    replace HA := Ext.own HA hb39 hu; replace H := H03.trans HA; replace hb2 := hb23.ext HA; clear hu
    refine RL.r (asgL rfl) rfl ?_
    refine RL.nil ?_
    refine WP.regionS ?_
    refine RL.r (mvL rfl) rfl ?_
    refine RL.r (fa_box rfl) rfl ?_
    refine RL.m (ld_box rfl hb2 rfl) rfl ?_
    refine RL.r (mvI rfl) rfl ?_
    refine RL.r (add rfl rfl (by omega)) rfl ?_
    refine RL.r (slcD (n := n + 1) rfl rfl (by rw [hJn]; rfl) (by omega)) rfl ?_
    refine RL.appendS rfl hb44 HA.size rfl ((hA.om.sl.suf (n := n + 1) (c := d1) (sz := 2) rfl (by omega) hmc (by decide)).ext HA) hdl rfl (by decide) rfl cell1 (by simp only [List.length_append, List.length_nil]; omega) (by simp only [maxLen, List.length_append, List.length_nil]; omega) rfl ?_
    intro w9 a51 c51 hu hb51 hfr51
    replace HA := Ext.own HA hb44 hu; replace H := H03.trans HA; replace hb2 := hb23.ext HA; clear hu
    have HB := Ext.refl w9
    have H09 := H
    have hb29 := hb2
    have hA9 := hA.ext HA
    have hL9 := hb51.sl
    refine RL.r (asgL rfl) rfl ?_
    refine RL.nil ?_
    refine WP.regionS ?_
    refine RL.build0 (α := Mem) w9.heap.size HB.size rfl ?_
    intro w10 i52 hi52 hx hb52
    replace H := H.ext hx; replace hb2 := hb2.ext hx; replace HB := HB.ext hx; clear hx
    refine RL.r (fa_box rfl) rfl ?_
    refine RL.m (ld_box rfl hb2 rfl) rfl ?_
    refine RL.appendS rfl hb52 HB.size rfl (hA9.om.sl.ext HB) rfl rfl (by decide) rfl cell1 (by simp only [List.length_nil]; omega) (by simp only [maxLen, List.length_nil]; omega) rfl ?_
    intro w11 a55 c55 hu hb55 hfr55
    replace HB := Ext.own HB hb52 hu; replace H := H09.trans HB; replace hb2 := hb29.ext HB; clear hu
    refine RL.r (asgL rfl) rfl ?_
    refine RL.nil ?_
    refine WP.regionS ?_
    refine RL.r (mvL rfl) rfl ?_
    refine RL.r (mvI rfl) rfl ?_
    refine RL.r (fa_box rfl) rfl ?_
    refine RL.m (ld_box rfl hb2 rfl) rfl ?_
    refine RL.r (mvI rfl) rfl ?_
    have hI0 : Own w9.heap.size w11 40 a55 c55 M1 := hb55
    obtain ⟨q6, rfl⟩ := hI0.sl.isAddr (by decide) hn
    obtain ⟨pm, hpm⟩ := hA9.om.sl.isAddr (by decide) hn
    subst hpm
    refine RL.r (ix rfl rfl hJn hn) rfl ?_
    refine RL.r (fa_el hA9.om.sl.1 rfl) rfl ?_
    refine RL.m (ld_el rfl hA9.om.sl HB rfl hn rfl) rfl ?_
    refine RL.r (bld rfl rfl) rfl ?_
    refine RL.r (ix rfl rfl hJn hn) rfl ?_
    refine RL.setOwn (u := noneM M1[n]) (i := n) (off := 0) (v := .agg #[.string M1[n].name, .slice none 0 0]) (vs := [.string M1[n].name, .slice none 0 0]) rfl hI0 hn rfl rfl rfl (Nat.le_of_ble_eq_true rfl) rfl (fun v hv => by simp only [List.mem_cons, List.not_mem_nil, or_false] at hv; rcases hv with rfl | rfl <;> rfl) ?_
    intro w12 hu2 hI
    replace HB := Ext.own HB hI0 hu2
    replace H := H09.trans HB
    replace hb2 := hb29.ext HB
    have htsL : ∀ x ∈ lessM M1 n, Sl w9 x.ta x.topics ∧ x.topics.length ≤ 1000 := fun x hx => hA9.ts x (by
      rcases List.mem_append.1 hx with hx | hx
      · exact List.mem_of_mem_take hx
      · exact List.mem_of_mem_drop hx)
    have htsI : ∀ x ∈ idleM M1 n hn, Sl w9 x.ta x.topics ∧ x.topics.length ≤ 1000 := fun x hx => by
      rcases List.mem_or_eq_of_mem_set hx with hx | hx
      · exact hA9.ts x hx
      · subst hx; exact ⟨Sl.nil _, Nat.zero_le _⟩
    have hLs : Sl w9 a51 (lessM M1 n) := hL9
    refine RL.nil ?_
    refine WP.regionS ?_
    refine RL.r (fa_box rfl) rfl ?_
    refine RL.m (ld_box rfl hb2 rfl) rfl ?_
    refine RL.r (mvL rfl) rfl ?_
    -- call stagecoach/assign.Range (tmp 68) (tmp 69)
    refine RL.call (pRange _ _ _ c1 c51 L1 (lessM M1 n) (hA9.ol.sl.ext HB) (hLs.ext HB) (fun x hx => ⟨(htsL x hx).1.ext HB, (htsL x hx).2⟩)) rfl rfl ?_
    rintro _ w13 ⟨⟨qa, ca, ga, rfl, hGa, hra⟩, hx⟩
    replace H := H.ext hx; replace hb2 := hb2.ext hx; replace HB := HB.ext hx; replace hI := hI.ext hx
    refine RL.r (mvU rfl) rfl ?_
    refine RL.r (ex0 rfl) rfl ?_
    refine RL.r (ex1 rfl) rfl ?_
    refine RL.r (asgL rfl) rfl ?_
    refine RL.r (asgI rfl) rfl ?_
    refine RL.nil ?_
    refine WP.regionS ?_
    refine RL.r (fa_box rfl) rfl ?_
    refine RL.m (ld_box rfl hb2 rfl) rfl ?_
    refine RL.r (mvL rfl) rfl ?_
    -- call stagecoach/assign.Range (tmp 75) (tmp 76)
    have hP := pRange w13 _ (some q6) c1 c55 L1 (idleM M1 n hn) (hA9.ol.sl.ext HB) hI.sl (fun x hx => ⟨(htsI x hx).1.ext HB, (htsI x hx).2⟩)
    rw [idle_len] at hP
    refine RL.call (hP) rfl rfl ?_
    rintro _ w14 ⟨⟨qb, cb, gb, rfl, hGb, hrb⟩, hx⟩
    replace H := H.ext hx; replace hb2 := hb2.ext hx; replace HB := HB.ext hx; replace hI := hI.ext hx; replace hGa := hGa.ext hx
    refine RL.r (mvU rfl) rfl ?_
    refine RL.r (ex0 rfl) rfl ?_
    refine RL.r (ex1 rfl) rfl ?_
    refine RL.r (asgL rfl) rfl ?_
    refine RL.r (asgI rfl) rfl ?_
    refine RL.nil ?_
    refine WP.regionS ?_
    refine RL.r (fa_box rfl) rfl ?_
    refine RL.m (ld_box rfl hb2 rfl) rfl ?_
    refine RL.r (mvL rfl) rfl ?_
    -- call stagecoach/assign.Robin (tmp 82) (tmp 83)
    refine RL.call (pRobin _ _ _ c1 c51 L1 (lessM M1 n) (hA9.ol.sl.ext HB) (hLs.ext HB) (fun x hx => ⟨(htsL x hx).1.ext HB, (htsL x hx).2⟩)) rfl rfl ?_
    rintro _ w15 ⟨⟨qc, cc, gc, rfl, hGc, hrc⟩, hx⟩
    replace H := H.ext hx; replace hb2 := hb2.ext hx; replace HB := HB.ext hx; replace hI := hI.ext hx; replace hGa := hGa.ext hx; replace hGb := hGb.ext hx
    refine RL.r (mvU rfl) rfl ?_
    refine RL.r (ex0 rfl) rfl ?_
    refine RL.r (ex1 rfl) rfl ?_
    refine RL.r (asgL rfl) rfl ?_
    refine RL.r (asgI rfl) rfl ?_
    refine RL.nil ?_
    refine WP.regionS ?_
    refine RL.r (fa_box rfl) rfl ?_
    refine RL.m (ld_box rfl hb2 rfl) rfl ?_
    refine RL.r (mvL rfl) rfl ?_
    -- call stagecoach/assign.Robin (tmp 89) (tmp 90)
    have hP := pRobin w15 _ (some q6) c1 c55 L1 (idleM M1 n hn) (hA9.ol.sl.ext HB) hI.sl (fun x hx => ⟨(htsI x hx).1.ext HB, (htsI x hx).2⟩)
    rw [idle_len] at hP
    refine RL.call (hP) rfl rfl ?_
    rintro _ w16 ⟨⟨qd, cd, gd, rfl, hGd, hrd⟩, hx⟩
    replace H := H.ext hx; replace hb2 := hb2.ext hx; replace HB := HB.ext hx; replace hI := hI.ext hx; replace hGa := hGa.ext hx; replace hGb := hGb.ext hx; replace hGc := hGc.ext hx
    have HD := Ext.refl w16
    have hGa16 := hGa
    have hGb16 := hGb
    have hGc16 := hGc
    have hGd16 := hGd
    have hra16 : rows ga = rangeG L1 (lessM M1 n) := by rw [hra, if_pos hckL]
    have hrb16 : rows gb = rangeG L1 (idleM M1 n hn) := by rw [hrb, if_pos hckI]
    have hrc16 : rows gc = robinG L1 (lessM M1 n) := by rw [hrc, if_pos hckL]
    have hrd16 : rows gd = robinG L1 (idleM M1 n hn) := by rw [hrd, if_pos hckI]
    have hgal : ga.length = M1.length - 1 := by rw [rows_length hra16]; simp [rangeG, less_len hn]
    have hgbl : gb.length = M1.length := by rw [rows_length hrb16]; simp [rangeG, idle_len]
    have hgcl : gc.length = M1.length - 1 := by rw [rows_length hrc16, robinG, allR_length, less_len hn]
    have hgdl : gd.length = M1.length := by rw [rows_length hrd16, robinG, allR_length, idle_len]
    refine RL.r (mvU rfl) rfl ?_
    refine RL.r (ex0 rfl) rfl ?_
    refine RL.r (ex1 rfl) rfl ?_
    refine RL.r (asgL rfl) rfl ?_
    refine RL.r (asgI rfl) rfl ?_
    refine RL.nil ?_
    refine WP.seq ?_
    refine WP.seq (WP.quiet ?_)
    refine QL.r (mvI rfl) rfl ?_
    refine QL.r (neq rfl rfl) rfl ?_
    refine QL.r (mvB rfl) rfl ?_
    refine QL.gg (gwF rfl rfl) (fun hg => (mvI rfl).does _) rfl ?_
    refine QL.gg (gwF rfl rfl) (fun hg => (neq (gs hg rfl) rfl).does _) rfl ?_
    refine QL.r (pickOr rfl (fun hn => gs hn rfl)) rfl ?_
    refine QL.r (mvB rfl) rfl ?_
    refine QL.gg (gwF rfl rfl) (fun hg => (mvI rfl).does _) rfl ?_
    refine QL.gg (gwF rfl rfl) (fun hg => (neq (gs hg rfl) rfl).does _) rfl ?_
    refine QL.r (pickOr rfl (fun hn => gs hn rfl)) rfl ?_
    refine QL.r (mvB rfl) rfl ?_
    refine QL.gg (gwF rfl rfl) (fun hg => (mvI rfl).does _) rfl ?_
    refine QL.gg (gwF rfl rfl) (fun hg => (neq (gs hg rfl) rfl).does _) rfl ?_
    refine QL.r (pickOr rfl (fun hn => gs hn rfl)) rfl ?_
    refine QL.r (mvB rfl) rfl ?_
    refine QL.gg (gwF rfl rfl) (fun hg => (mvL rfl).does _) rfl ?_
    refine QL.gg (gwF rfl rfl) (fun hg => (len_sl (gs hg rfl)).does _) rfl ?_
    refine QL.gg (gwF rfl rfl) (fun hg => (fa_box rfl).does _) rfl ?_
    refine QL.gg (gwF rfl rfl) (fun hg => ld_box (gs hg rfl) hb2 rfl) rfl ?_
    refine QL.gg (gwF rfl rfl) (fun hg => (len_sl (gs hg rfl)).does _) rfl ?_
    refine QL.gg (gwF rfl rfl) (fun hg => (neq (gs hg rfl) (gs hg rfl)).does _) rfl ?_
    refine QL.r (pickOr rfl (fun hn => gs hn rfl)) rfl ?_
    refine QL.r (mvB rfl) rfl ?_
    refine QL.gg (gwF rfl rfl) (fun hg => (mvL rfl).does _) rfl ?_
    refine QL.gg (gwF rfl rfl) (fun hg => (len_sl (gs hg rfl)).does _) rfl ?_
    refine QL.gg (gwF rfl rfl) (fun hg => (fa_box rfl).does _) rfl ?_
    refine QL.gg (gwF rfl rfl) (fun hg => ld_box (gs hg rfl) hb2 rfl) rfl ?_
    refine QL.gg (gwF rfl rfl) (fun hg => (len_sl (gs hg rfl)).does _) rfl ?_
    refine QL.gg (gwF rfl rfl) (fun hg => (neq (gs hg rfl) (gs hg rfl)).does _) rfl ?_
    refine QL.r (pickOr rfl (fun hn => gs hn rfl)) rfl ?_
    refine QL.r (mvB rfl) rfl ?_
    refine QL.gg (gwF rfl rfl) (fun hg => (mvL rfl).does _) rfl ?_
    refine QL.gg (gwF rfl rfl) (fun hg => (len_sl (gs hg rfl)).does _) rfl ?_
    refine QL.gg (gwF rfl rfl) (fun hg => (mvL rfl).does _) rfl ?_
    refine QL.gg (gwF rfl rfl) (fun hg => (len_sl (gs hg rfl)).does _) rfl ?_
    refine QL.gg (gwF rfl rfl) (fun hg => (neq (gs hg rfl) (gs hg rfl)).does _) rfl ?_
    refine QL.r (pickOr rfl (fun hn => gs hn rfl)) rfl ?_
    refine QL.r (mvB rfl) rfl ?_
    refine QL.gg (gwF rfl rfl) (fun hg => (mvL rfl).does _) rfl ?_
    refine QL.gg (gwF rfl rfl) (fun hg => (len_sl (gs hg rfl)).does _) rfl ?_
    refine QL.gg (gwF rfl rfl) (fun hg => (mvL rfl).does _) rfl ?_
    refine QL.gg (gwF rfl rfl) (fun hg => (len_sl (gs hg rfl)).does _) rfl ?_
    refine QL.gg (gwF rfl rfl) (fun hg => (neq (gs hg rfl) (gs hg rfl)).does _) rfl ?_
    refine QL.r (pickOr rfl (fun hn => gs hn rfl)) rfl ?_
    refine QL.nil ?_; intro w17 hx; replace H := H.ext hx; replace hb2 := hb2.ext hx; replace HD := HD.ext hx
    refine WP.cond rfl (fun hc => ?_) (fun hc => ?_)
    · refine WP.regionS ?_
      refine RL.r (asgB rfl) rfl ?_
      refine RL.nil ?_
      refine WP.ret ?_
      have hl0 : ([] ++ List.take n M1 ++ List.drop (n + 1) M1).length = (lessM M1 n).length := rfl
      refine fin1_ret rfl ⟨absurd hc (by rw [hl0, less_len hn]; simp only [hckL, hckI, hgal, hgbl, hgcl, hgdl]; simp), H⟩
    · refine WP.skip ?_
      refine WP.regionS ?_
      refine RL.r (asgI rfl) rfl ?_
      refine RL.nil ?_
      refine WP.seq ?_
      refine WP.regionS ?_
      refine RL.r (asgI rfl) rfl ?_
      refine RL.nil ?_
      refine WP.block ?_
      refine WP.loop (fun k e' w' => ∃ j : Nat,  j + k = M1.length ∧ Head [4, 16, 17, 138, 139, 140, 141, 142, 143, 144, 145, 146, 147, 148, 149, 150, 151, 152, 153, 154, 155, 156, 157, 158, 159, 160, 161, 162, 163, 164, 165, 166, 167, 168, 169, 170, 171, 172, 173, 174, 175, 176, 177, 178, 179, 180, 181, 182, 183, 184, 185] _ [(16, .int .i64 ((skipB n j : Nat) : Int)), (17, .int .i64 (j : Int))] e' ∧ Ext w0 w' ∧ Box w0.heap.size w' i2 25 [.slice a1 L1.length c1, .slice (some pm) M1.length d1] ∧ Ext w16 w' ∧ True) (M1.length)
        ⟨0, by omega, Head.intro (AgreeOff.refl _ _) ⟨intE (by unfold skipB; simp), rfl, trivial⟩, H, hb2, HD, trivial⟩ ?_
      clear H hb2 HD
      rintro k e w18 ⟨j, hjk, ⟨jk, rfl⟩, H, hb2, HD, -⟩
      have hsb : skipB n j ≤ j := by unfold skipB; split <;> omega
      refine WP.seq ?_
      refine WP.regionS ?_
      refine RL.r (mvI rfl) rfl ?_
      refine RL.r (fa_box rfl) rfl ?_
      refine RL.m (ld_box rfl hb2 rfl) rfl ?_
      refine RL.r (len_sl rfl) rfl ?_
      refine RL.r (lss rfl rfl) rfl ?_
      refine RL.nil ?_
      refine WP.cond rfl (fun hc => ?_) (fun hc => ?_)
      · refine WP.skip ?_
        refine WP.seq ?_
        refine WP.block ?_
        refine WP.seq ?_
        refine WP.regionS ?_
        refine RL.r (mvI rfl) rfl ?_
        refine RL.r (mvI rfl) rfl ?_
        refine RL.r (eql rfl rfl) rfl ?_
        refine RL.nil ?_
        refine WP.cond rfl (fun hc => ?_) (fun hc => ?_)
        · refine WP.seq ?_
          refine WP.seq (WP.quiet ?_)
          refine QL.r (mvL rfl) rfl ?_
          refine QL.r (mvI rfl) rfl ?_
          have hj : j < M1.length := by omega
          obtain ⟨pb, rfl⟩ := hGb16.head.sl.isAddr (by decide) (show j < gb.length by omega)
          obtain ⟨pd, rfl⟩ := hGd16.head.sl.isAddr (by decide) (show j < gd.length by omega)
          have hjn : j = n := by omega
          subst hjn
          have heb : (gb[j]'(by omega)).l = [] := by
            have := congrArg (fun l => l[j]?) hrb16
            simp only [rangeG, idle_len, List.getElem?_map, List.getElem?_range hj, List.getElem?_eq_getElem (show j < gb.length by omega), Option.map_some, Option.some.injEq] at this
            rw [this]; exact range_idle hn L1
          have hed : (gd[j]'(by omega)).l = [] := by
            have h1 := (robin_skip hn hm8 L1).z (by rw [allR_length, idle_len]; exact hn)
            have := congrArg (fun l => l[j]?) hrd16
            simp only [List.getElem?_map, List.getElem?_eq_getElem (show j < gd.length by omega), Option.map_some] at this
            rw [show (robinG L1 (idleM M1 j hn))[j]? = some ((allR (idleM M1 j hn) L1).1[j]'(by rw [allR_length, idle_len]; exact hn)) from List.getElem?_eq_getElem _, h1] at this
            simpa using this
          refine QL.r (ix rfl rfl rfl (by omega)) rfl ?_
          refine QL.m (ld_e0 rfl hGb16.head.sl HD rfl (by omega) rfl) rfl ?_
          refine QL.r (len_sl rfl) rfl ?_
          refine QL.r (gtr rfl rfl) rfl ?_
          refine QL.r (mvB rfl) rfl ?_
          refine QL.gg (gwF rfl rfl) (fun hg => (mvL rfl).does _) rfl ?_
          refine QL.gg (gwF rfl rfl) (fun hg => (mvI rfl).does _) rfl ?_
          refine QL.gg (gwF rfl rfl) (fun hg => (ix (gs hg rfl) (gs hg rfl) rfl (k := j) (by omega)).does _) rfl ?_
          refine QL.gg (gwF rfl rfl) (fun hg => ld_e0 (gs hg rfl) hGd16.head.sl HD rfl (by omega) rfl) rfl ?_
          refine QL.gg (gwF rfl rfl) (fun hg => (len_sl (gs hg rfl)).does _) rfl ?_
          refine QL.gg (gwF rfl rfl) (fun hg => (gtr (gs hg rfl) rfl).does _) rfl ?_
          refine QL.r (pickOr rfl (fun hn => gs hn rfl)) rfl ?_
          refine QL.nil ?_; intro w19 hx; replace H := H.ext hx; replace hb2 := hb2.ext hx; replace HD := HD.ext hx
          refine WP.cond rfl (fun hc => ?_) (fun hc => ?_)
          · refine WP.regionS ?_
            refine RL.r (asgB rfl) rfl ?_
            refine RL.nil ?_
            refine WP.ret ?_
            refine fin1_ret rfl ⟨absurd hc (by rw [heb, hed]; simp), H⟩
          · refine WP.skip ?_
            refine WP.exit ?_
            refine WP.region ?_
            refine RL.r (mvI rfl) rfl ?_
            refine RL.r (add rfl rfl (by omega)) rfl ?_
            refine RL.r (asgI rfl) rfl ?_
            refine RL.nil ?_
            refine ⟨k - 1, by omega, j + 1, by omega, Head.intro (by repeat (first | with_reducible exact AgreeOff.mix _ _ _ | refine AgreeOff.look rfl ?_ | refine AgreeOff.mixs rfl ?_)) ⟨intE (by unfold skipB; split <;> split <;> omega), rfl, trivial⟩, H, hb2, HD, trivial⟩
        · refine WP.skip ?_
          refine WP.seq ?_
          refine WP.seq ?_
          refine WP.draw (by kernel_rfl) ?_
          refine QL.r (mvL rfl) rfl ?_
          refine QL.r (mvI rfl) rfl ?_
          have hj : j < M1.length := by omega
          have hjn : j ≠ n := by omega
          have hsk := skip_back hjn
          have hjj : skipB n j < M1.length - 1 := by
            unfold skip at hsk
            unfold skipB at hsk ⊢
            split <;> split at hsk <;> omega
          obtain ⟨pb, rfl⟩ := hGb16.head.sl.isAddr (by decide) (show j < gb.length by omega)
          obtain ⟨pd, rfl⟩ := hGd16.head.sl.isAddr (by decide) (show j < gd.length by omega)
          obtain ⟨pa, rfl⟩ := hGa16.head.sl.isAddr (by decide) (show skipB n j < ga.length by omega)
          obtain ⟨pc, rfl⟩ := hGc16.head.sl.isAddr (by decide) (show skipB n j < gc.length by omega)
          have heab : (ga[skipB n j]'(by omega)).l = (gb[j]'(by omega)).l := by
            have h1 := congrArg (fun l => l[skipB n j]?) hra16
            have h2 := congrArg (fun l => l[j]?) hrb16
            simp only [rangeG, less_len hn, List.getElem?_map, List.getElem?_range hjj, List.getElem?_eq_getElem (show skipB n j < ga.length by omega), Option.map_some, Option.some.injEq] at h1
            simp only [rangeG, idle_len, List.getElem?_map, List.getElem?_range hj, List.getElem?_eq_getElem (show j < gb.length by omega), Option.map_some, Option.some.injEq] at h2
            rw [h1, h2, range_skip hn L1 hjj, hsk]
          have hecd : (gc[skipB n j]'(by omega)).l = (gd[j]'(by omega)).l := by
            have h0 := robin_skip hn hm8 L1
            have h1 := congrArg (fun l => l[skipB n j]?) hrc16
            have h2 := congrArg (fun l => l[j]?) hrd16
            have h3 := h0.g (skipB n j) (by rw [h0.l1]; exact hjj) (by rw [h0.l2, hsk]; exact hj)
            simp only [List.getElem?_map, List.getElem?_eq_getElem (show skipB n j < gc.length by omega), Option.map_some] at h1
            simp only [List.getElem?_map, List.getElem?_eq_getElem (show j < gd.length by omega), Option.map_some] at h2
            rw [show (robinG L1 (lessM M1 n))[skipB n j]? = some ((allR (lessM M1 n) L1).1[skipB n j]'(by rw [h0.l1]; exact hjj)) from List.getElem?_eq_getElem _] at h1
            rw [show (robinG L1 (idleM M1 n hn))[j]? = some ((allR (idleM M1 n hn) L1).1[j]'(by rw [h0.l2]; exact hj)) from List.getElem?_eq_getElem _] at h2
            have h4 : (allR (idleM M1 n hn) L1).1[skip n (skipB n j)]'(by rw [h0.l2, hsk]; exact hj) = (allR (idleM M1 n hn) L1).1[j]'(by rw [h0.l2]; exact hj) := by congr 1
            rw [← h4, ← h3] at h2
            have h5 := Option.some.inj h1
            have h6 := Option.some.inj h2
            rw [h5, h6]
          have hleb : (ga[skipB n j]'(by omega)).l.length ≤ 64 := rangeG_le hckL _ (by rw [← hra16]; exact List.mem_map.2 ⟨_, List.getElem_mem _, rfl⟩)
          have hled : (gc[skipB n j]'(by omega)).l.length ≤ 64 := robinG_le hckL _ (by rw [← hrc16]; exact List.mem_map.2 ⟨_, List.getElem_mem _, rfl⟩)
          have hja : skipB n j < ga.length := by omega
          have hjb : j < gb.length := by omega
          have hjc : skipB n j < gc.length := by omega
          have hjd : j < gd.length := by omega
          have hK1 : ∀ w', Ext w18 w' → Ct Try.prog 23 #[.slice ga[skipB n j].a ga[skipB n j].l.length ga[skipB n j].c, .slice gb[j].a gb[j].l.length gb[j].c] w' fun u w'' => u = .bool (decide (ga[skipB n j].l = gb[j].l)) ∧ Ext w' w'' := fun w' hw' => rParts w' _ _ _ _ ga[skipB n j].l gb[j].l ((hGa16.row _ hja).sl.ext (HD.ext hw')) ((hGb16.row _ hjb).sl.ext (HD.ext hw')) (by omega)
          have hK2 : ∀ w', Ext w18 w' → Ct Try.prog 23 #[.slice gc[skipB n j].a gc[skipB n j].l.length gc[skipB n j].c, .slice gd[j].a gd[j].l.length gd[j].c] w' fun u w'' => u = .bool (decide (gc[skipB n j].l = gd[j].l)) ∧ Ext w' w'' := fun w' hw' => rParts w' _ _ _ _ gc[skipB n j].l gd[j].l ((hGc16.row _ hjc).sl.ext (HD.ext hw')) ((hGd16.row _ hjd).sl.ext (HD.ext hw')) (by omega)
          refine QL.r (ix rfl rfl rfl hja) rfl ?_
          refine QL.m (ld_e0 rfl hGa16.head.sl HD rfl hja rfl) rfl ?_
          refine QL.r (mvL rfl) rfl ?_
          refine QL.r (mvI rfl) rfl ?_
          refine QL.r (ix rfl rfl rfl hjb) rfl ?_
          refine QL.m (ld_e0 rfl hGb16.head.sl HD rfl hjb rfl) rfl ?_
          -- call stagecoach/stagecoachref04.Parts (tmp 165) (tmp 169)
          refine QL.call (fun w' hw' => hK1 w' hw') rfl rfl ?_
          first | refine QL.r (notD rfl) rfl ?_ | refine QL.r (not_ rfl) rfl ?_
          refine QL.r (mvB rfl) rfl ?_
          refine QL.gg (gwF rfl rfl) (fun hg => (mvL rfl).does _) rfl ?_
          refine QL.gg (gwF rfl rfl) (fun hg => (mvI rfl).does _) rfl ?_
          refine QL.gg (gwF rfl rfl) (fun hg => (ix (gs hg rfl) (gs hg rfl) rfl hjc).does _) rfl ?_
          refine QL.gg (gwF rfl rfl) (fun hg => ld_e0 (gs hg rfl) hGc16.head.sl HD rfl hjc rfl) rfl ?_
          refine QL.gg (gwF rfl rfl) (fun hg => (mvL rfl).does _) rfl ?_
          refine QL.gg (gwF rfl rfl) (fun hg => (mvI rfl).does _) rfl ?_
          refine QL.gg (gwF rfl rfl) (fun hg => (ix (gs hg rfl) (gs hg rfl) rfl hjd).does _) rfl ?_
          refine QL.gg (gwF rfl rfl) (fun hg => ld_e0 (gs hg rfl) hGd16.head.sl HD rfl hjd rfl) rfl ?_
          -- call stagecoach/stagecoachref04.Parts (tmp 176) (tmp 180)
          refine QL.gcall (gwF rfl rfl) (fun hg w' hw' => hK2 w' hw') (fun hg => EvL.cons (gs hg rfl) (EvL.cons (gs hg rfl) (EvL.nil))) rfl ?_
          first | refine QL.gg (gwF rfl rfl) (fun hg => (notD (gs hg rfl)).does _) rfl ?_ | refine QL.gg (gwF rfl rfl) (fun hg => (not_ (gs hg rfl)).does _) rfl ?_
          refine QL.r (pickOr rfl (fun hn => gs hn rfl)) rfl ?_
          refine QL.nil ?_; intro w22 hx; replace H := H.ext hx; replace hb2 := hb2.ext hx; replace HD := HD.ext hx
          refine WP.cond rfl (fun hc => ?_) (fun hc => ?_)
          · refine WP.regionS ?_
            refine RL.r (asgB rfl) rfl ?_
            refine RL.nil ?_
            refine WP.ret ?_
            refine fin1_ret rfl ⟨absurd hc (by rw [heab, hecd]; simp), H⟩
          · refine WP.skip ?_
            refine WP.region ?_
            refine RL.r (mvI rfl) rfl ?_
            refine RL.r (add rfl rfl (by omega)) rfl ?_
            refine RL.r (asgI rfl) rfl ?_
            refine RL.nil ?_
            refine WP.region ?_
            refine RL.r (mvI rfl) rfl ?_
            refine RL.r (add rfl rfl (by omega)) rfl ?_
            refine RL.r (asgI rfl) rfl ?_
            refine RL.nil ?_
            refine ⟨k - 1, by omega, j + 1, by omega, Head.intro (by repeat (first | with_reducible exact AgreeOff.mix _ _ _ | refine AgreeOff.look rfl ?_ | refine AgreeOff.mixs rfl ?_)) ⟨intE (by unfold skipB; split <;> split <;> omega), rfl, trivial⟩, H, hb2, HD, trivial⟩
      · refine WP.exit ?_
        refine WP.regionS ?_
        -- call stagecoach/stagecoachlaw10.fixed 
        refine RL.call (lFixed _) rfl rfl ?_
        rintro _ w23 ⟨rfl, hx⟩
        replace H := H.ext hx; replace hb2 := hb2.ext hx; replace HD := HD.ext hx
        refine RL.r (asgB rfl) rfl ?_
        refine RL.nil ?_
        refine WP.ret ?_
        refine fin1_ret rfl ⟨rfl, H⟩
end Go.Proofs.Ytoebejfffakjpaa
