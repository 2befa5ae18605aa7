/-
  OnceLaw: walks and laws, written by gen/gen.py out of gen/thy/OnceLaw.py.
-/
import Derived.Test.YtoebejfffakjpaaOnce
set_option linter.unusedVariables false
namespace Go.Proofs.Ytoebejfffakjpaa
open Go Go.Eng Go.RowKit
noncomputable instance (l : List Topic) (m : List Mem) (G : List (List Part)) : Decidable (PlanOk l m G) := Classical.propDecidable _
theorem lOnce' (w0 : World) (a b q : Option Addr) (c d cq : Nat) (l : List Topic) (m : List Mem) (g : List (Rw Part)) (hl : Sl w0 a l) (hm : Sl w0 b m) (hts : ∀ x ∈ m, Sl w0 x.ta x.topics ∧ x.topics.length ≤ 1000) (hG : Gr w0 q g) (hck : checkE l m = 0) (hp : PlanOk l m (rows g)) (hle : ∀ r ∈ rows g, r.length ≤ 64) :
    Ct Try.prog 22 #[.agg [.slice a l.length c, .slice b m.length d].toArray, .slice q g.length cq] w0 fun v w' => v = .bool (decide (PlanOk l m (rows g))) ∧ Ext w0 w' := by
  have h := lOnce w0 a b q c d cq l m g hl hm hts hG hck hp hle
  rw [decide_eq_true hp]
  exact h
set_option maxRecDepth 20000 in
set_option maxHeartbeats 1600000 in
theorem lAssignOnce (w0 : World) (a b : Option Addr) (c d : Nat) (l : List Topic) (m : List Mem) (hl : SlI w0 a l) (hm : SlI w0 b m) (hts : ∀ x ∈ m, SlI w0 x.ta x.topics) :
    Ct Try.prog 4 #[.agg [.slice a l.length c, .slice b m.length d].toArray] w0 fun v w' => v = .bool true ∧ Ext w0 w' := by
  refine Ct.intro1 Try.func4 Try.ntmps4 rfl rfl (by decide) rfl ?_
  have H : Ext w0 w0 := Ext.refl w0
  refine WP.regionS ?_
  refine RL.boxS w0.heap.size H.size rfl rfl ?_
  intro w1 i1 hi1 hx hb1
  replace H := H.ext hx; clear hx
  refine RL.r (asgB rfl) rfl ?_
  refine RL.nil ?_
  refine WP.regionS ?_
  refine RL.m (ldS_box rfl hb1 (Nat.le_of_ble_eq_true rfl) rfl) rfl ?_
  -- call stagecoach/stagecoachlaw10.cut (tmp 7)
  have H0s := H.size
  refine RL.call (lCut _ _ _ c d l m (fun h => (hl h).ext H) (fun h => (hm h).ext H) (fun x hx h => (hts x hx h).ext H)) rfl rfl ?_
  rintro _ w2 ⟨⟨a1, c1, L1, b1, d1, M1, rfl, hA⟩, hx⟩
  replace H := H.ext hx; replace hb1 := hb1.ext hx
  have hb1o := hb1
  refine RL.storeS rfl hb1 rfl rfl rfl rfl ?_
  intro w3 hu hb1
  replace H := H.box hu hb1.old
  refine RL.nil ?_
  refine WP.regionS ?_
  refine RL.r (fa_box rfl) rfl ?_
  refine RL.m (ld_box rfl hb1 rfl) rfl ?_
  refine RL.r (fa_box rfl) rfl ?_
  refine RL.m (ld_box rfl hb1 rfl) rfl ?_
  -- call stagecoach/assign.Range (tmp 11) (tmp 13)
  replace hA := hA.mono H0s
  replace hA := hA.box hb1o (by decide) (by decide) (by decide) hu
  have HA := Ext.refl w3
  refine RL.call (pRange w3 _ _ c1 d1 L1 M1 hA.ol.sl hA.om.sl hA.ts) rfl rfl ?_
  rintro _ w4 ⟨⟨qa, ca, ga, rfl, hGa, hra⟩, hx⟩
  replace H := H.ext hx; replace hb1 := hb1.ext hx; replace HA := HA.ext hx
  refine RL.r (mvU rfl) rfl ?_
  refine RL.r (ex0 rfl) rfl ?_
  refine RL.r (ex1 rfl) rfl ?_
  refine RL.r (asgL rfl) rfl ?_
  refine RL.r (asgI rfl) rfl ?_
  refine RL.nil ?_
  refine WP.regionS ?_
  refine RL.r (fa_box rfl) rfl ?_
  refine RL.m (ld_box rfl hb1 rfl) rfl ?_
  refine RL.r (fa_box rfl) rfl ?_
  refine RL.m (ld_box rfl hb1 rfl) rfl ?_
  -- call stagecoach/assign.Robin (tmp 19) (tmp 21)
  refine RL.call (pRobin _ _ _ c1 d1 L1 M1 (hA.ol.sl.ext HA) (hA.om.sl.ext HA) (hA.ext HA).ts) rfl rfl ?_
  rintro _ w5 ⟨⟨qb, cb, gb, rfl, hGb, hrb⟩, hx⟩
  replace H := H.ext hx; replace hb1 := hb1.ext hx; replace HA := HA.ext hx; replace hGa := hGa.ext hx
  refine RL.r (mvU rfl) rfl ?_
  refine RL.r (ex0 rfl) rfl ?_
  refine RL.r (ex1 rfl) rfl ?_
  refine RL.r (asgL rfl) rfl ?_
  refine RL.r (asgI rfl) rfl ?_
  refine RL.nil ?_
  refine WP.seq ?_
  refine WP.seq (WP.quiet ?_)
  refine QL.r (mvI rfl) rfl ?_
  refine QL.r (neq rfl rfl) rfl ?_
  refine QL.r (mvB rfl) rfl ?_
  refine QL.gg (gwF rfl rfl) (fun hg => (mvI rfl).does _) rfl ?_
  refine QL.gg (gwF rfl rfl) (fun hg => (neq (gs hg rfl) rfl).does _) rfl ?_
  refine QL.r (pickOr rfl (fun hn => gs hn rfl)) rfl ?_
  refine QL.nil ?_; intro w6 hx; replace H := H.ext hx; replace hb1 := hb1.ext hx; replace HA := HA.ext hx; replace hGa := hGa.ext hx; replace hGb := hGb.ext hx
  refine WP.cond rfl (fun hc => ?_) (fun hc => ?_)
  · refine WP.seq (WP.quiet ?_)
    refine QL.r (mvI rfl) rfl ?_
    refine QL.r (mvI rfl) rfl ?_
    refine QL.r (eql rfl rfl) rfl ?_
    refine QL.r (mvB rfl) rfl ?_
    refine QL.gg (gwT rfl rfl) (fun hg => (mvL rfl).does _) rfl ?_
    refine QL.gg (gwT rfl rfl) (fun hg => (len_sl (gs hg rfl)).does _) rfl ?_
    refine QL.gg (gwT rfl rfl) (fun hg => (eql (gs hg rfl) rfl).does _) rfl ?_
    refine QL.r (pickAnd rfl (fun hn => gs hn rfl)) rfl ?_
    refine QL.r (mvB rfl) rfl ?_
    refine QL.gg (gwT rfl rfl) (fun hg => (mvL rfl).does _) rfl ?_
    refine QL.gg (gwT rfl rfl) (fun hg => (len_sl (gs hg rfl)).does _) rfl ?_
    refine QL.gg (gwT rfl rfl) (fun hg => (eql (gs hg rfl) rfl).does _) rfl ?_
    refine QL.r (pickAnd rfl (fun hn => gs hn rfl)) rfl ?_
    refine QL.r (mvB rfl) rfl ?_
    -- call stagecoach/stagecoachlaw10.fixed 
    have hne : checkE L1 M1 ≠ 0 := hc.elim id id
    rw [if_neg hne] at hra hrb
    refine QL.gcall (gwT rfl rfl) (fun hg w' hw' => lFixed' w') (fun hg => EvL.nil) rfl ?_
    refine QL.r (pickAnd rfl (fun hn => gs hn rfl)) rfl ?_
    refine QL.r (asgB rfl) rfl ?_
    refine QL.nil ?_; intro w8 hx; replace H := H.ext hx; replace hb1 := hb1.ext hx; replace HA := HA.ext hx; replace hGa := hGa.ext hx; replace hGb := hGb.ext hx
    refine WP.ret ?_
    refine fin1_ret rfl ⟨congrArg Value.bool (bT ⟨⟨⟨rfl, by rw [rows_length hra]; rfl⟩, by rw [rows_length hrb]; rfl⟩, trivial⟩).symm, H⟩
  · refine WP.skip ?_
    refine WP.seq (WP.quiet ?_)
    refine QL.m (ldS_box rfl hb1 (Nat.le_of_ble_eq_true rfl) rfl) rfl ?_
    refine QL.r (mvL rfl) rfl ?_
    -- call stagecoach/stagecoachlaw10.once (tmp 47) (tmp 48)
    have hck : checkE L1 M1 = 0 := Classical.not_not.1 fun h => hc (Or.inl h)
    rw [if_pos hck] at hra hrb
    have hK1 : ∀ w', Ext w6 w' → Ct Try.prog 22 #[.agg [.slice a1 L1.length c1, .slice b1 M1.length d1].toArray, .slice qa ga.length ca] w' fun u w'' => u = .bool (decide (PlanOk L1 M1 (rows ga))) ∧ Ext w' w'' := fun w' hw' => lOnce' w' _ _ _ c1 d1 ca L1 M1 ga (hA.ol.sl.ext (HA.ext hw')) (hA.om.sl.ext (HA.ext hw')) (hA.ext (HA.ext hw')).ts (hGa.gr.ext hw') hck (hra ▸ range_ok L1 M1) (hra ▸ rangeG_le hck)
    have hK2 : ∀ w', Ext w6 w' → Ct Try.prog 22 #[.agg (List.take 2 (List.drop 0 [.slice a1 L1.length c1, .slice b1 M1.length d1])).toArray, .slice qb gb.length cb] w' fun u w'' => u = .bool (decide (PlanOk L1 M1 (rows gb))) ∧ Ext w' w'' := fun w' hw' => lOnce' w' _ _ _ c1 d1 cb L1 M1 gb (hA.ol.sl.ext (HA.ext hw')) (hA.om.sl.ext (HA.ext hw')) (hA.ext (HA.ext hw')).ts (hGb.gr.ext hw') hck (hrb ▸ robin_ok L1 M1) (hrb ▸ robinG_le hck)
    refine QL.call (fun w' hw' => hK1 w' hw') rfl rfl ?_
    refine QL.r (mvB rfl) rfl ?_
    refine QL.gg (gwT rfl rfl) (fun hg => ldS_box rfl hb1 (Nat.le_of_ble_eq_true rfl) rfl) rfl ?_
    refine QL.gg (gwT rfl rfl) (fun hg => (mvL rfl).does _) rfl ?_
    -- call stagecoach/stagecoachlaw10.once (tmp 51) (tmp 52)
    refine QL.gcall (gwT rfl rfl) (fun hg w' hw' => hK2 w' hw') (fun hg => EvL.cons (gs hg rfl) (EvL.cons (gs hg rfl) (EvL.nil))) rfl ?_
    refine QL.r (pickAnd rfl (fun hn => gs hn rfl)) rfl ?_
    refine QL.r (mvB rfl) rfl ?_
    -- call stagecoach/stagecoachlaw10.fixed 
    refine QL.gcall (gwT rfl rfl) (fun hg w' hw' => lFixed' w') (fun hg => EvL.nil) rfl ?_
    refine QL.r (pickAnd rfl (fun hn => gs hn rfl)) rfl ?_
    refine QL.r (asgB rfl) rfl ?_
    refine QL.nil ?_; intro w12 hx; replace H := H.ext hx; replace hb1 := hb1.ext hx; replace HA := HA.ext hx; replace hGa := hGa.ext hx; replace hGb := hGb.ext hx
    refine WP.ret ?_
    refine fin1_ret rfl ⟨congrArg Value.bool (bT ⟨⟨hra ▸ range_ok L1 M1, hrb ▸ robin_ok L1 M1⟩, trivial⟩).symm, H⟩
end Go.Proofs.Ytoebejfffakjpaa
