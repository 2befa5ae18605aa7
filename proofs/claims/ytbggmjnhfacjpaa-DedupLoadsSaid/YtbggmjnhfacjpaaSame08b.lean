/-
  The tables held against each other: same; batches that are bounded: cut, Bound.
-/
import Derived.Test.YtbggmjnhfacjpaaRefL08
set_option linter.unusedVariables false
namespace Go.Proofs.Ytbggmjnhfacjpaa
open Go Go.Eng Go.RowKit
set_option maxRecDepth 20000 in
theorem lSame (w0 : World) (B B' i k : Nat) (Z Y : Nat → Prop) (D : Ds) (hT : Tg B w0 i Z D) (hR : Tr B' w0 k Y D) (K : Int) (M : Nat) (hok : okD K M D) (hM0 : M ≤ 100000) :
    Ct Try.prog 17 #[.pointer (some ⟨i, 0, none⟩), .pointer (some ⟨k, 0, none⟩)] w0 fun v w' => (∃ t : Bool, t = true ∧ v = .bool (decide (t = true))) ∧ Ext w0 w' := by
  refine Ct.intro1 Try.func17 Try.ntmps17 rfl rfl (by decide) rfl ?_
  have H : Ext w0 w0 := Ext.refl w0
  obtain ⟨a, c, b2, d, L, hQ, hLm, hY⟩ := hR.at_
  have hbt := hQ.box
  have hE := hQ.eps
  have hO := hQ.row
  have hDr : DRs B' w0 L := hQ.dr
  have hl32 := hok.len
  have hlen : L.length = D.S.length := by have h9 := congrArg List.length hLm; simpa using h9
  have hcnt := hok.cnt
  refine WP.regionS ?_
  refine RL.r (asgB rfl) rfl ?_
  refine RL.nil ?_
  refine WP.seq ?_
  refine WP.cutN (α := Bool) [4, 5, 6, 7, 8, 9, 10, 11, 12, 13, 14, 15, 16, 17, 18, 19, 20] (fun x => [(4, .bool x)]) (fun x w' => Ext w0 w' ∧ Box B' w' k 65 [.slice a D.E.length c, .slice b2 L.length d] ∧ x = true) ?_ ?_
  · refine WP.any ?_
    intro w1 hx; replace H := H.ext hx; replace hbt := hbt.ext hx; replace hT := hT.ext hx; replace hE := hE.ext hx; replace hO := hO.ext hx; replace hDr := hDr.ext hx
    refine AL.p 0 (by kernel_rfl) rfl (mvP rfl) rfl ?_
    refine AL.p 2 (by kernel_rfl) rfl (mvP rfl) rfl ?_
    refine AL.p 3 (by kernel_rfl) rfl (nilck rfl) rfl ?_
    refine AL.p 4 (by kernel_rfl) rfl (fa_box rfl) rfl ?_
    -- call (*stagecoach/dedup.Table).Epochs (tmp 5)
    refine AL.x 1 (by kernel_rfl) rfl rfl (fun w' hw' => pEpochs w' B i Z D (hT.ext hw') (by omega)) ?_
    refine AX.m 5 (by kernel_rfl) rfl rfl (ld_box rfl hbt rfl) rfl ?_
    refine AX.o (by kernel_rfl) rfl ?_
    rintro v w2 ⟨⟨aE, cE, rfl, hEp⟩, hx⟩
    replace H := H.ext hx; replace hbt := hbt.ext hx; replace hT := hT.ext hx; replace hE := hE.ext hx; replace hO := hO.ext hx; replace hDr := hDr.ext hx
    refine AL.o 6 (by kernel_rfl) rfl ?_
    -- call stagecoach/stagecoachref05.Nums (tmp 6) (tmp 10)
    refine RL.call (rNums _ aE a cE c D.E D.E hEp.sl hE.sl (by omega)) rfl rfl ?_
    rintro _ w3 ⟨rfl, hx⟩
    replace H := H.ext hx; replace hbt := hbt.ext hx; replace hT := hT.ext hx; replace hE := hE.ext hx; replace hO := hO.ext hx; replace hDr := hDr.ext hx; replace hEp := hEp.ext hx
    refine RL.nil ?_
    refine AL.mvT 7 (by kernel_rfl) rfl rfl rfl rfl ?_
    refine AL.pg 8 (by kernel_rfl) rfl rfl rfl rfl (mvP rfl) rfl ?_
    refine AL.pg 10 (by kernel_rfl) rfl rfl rfl rfl (mvP rfl) rfl ?_
    refine AL.pg 11 (by kernel_rfl) rfl rfl rfl rfl (nilck rfl) rfl ?_
    refine AL.pg 12 (by kernel_rfl) rfl rfl rfl rfl (fa_box rfl) rfl ?_
    refine AL.all (rs := [9, 13]) (by kernel_rfl) rfl ?_
    rintro i hi; simp only [List.mem_cons, List.not_mem_nil, or_false] at hi; rcases hi with rfl | rfl
    · refine ⟨_, rfl, ?_⟩
      refine RL.yes rfl rfl rfl ?_
      -- call (*stagecoach/dedup.Table).Makers (tmp 13)
      refine RL.call (pMakers _ B i Z D hT K M hok hM0) rfl rfl ?_
      rintro v w4 ⟨⟨aM, cM, LM, rfl, hM, hMO, hMm⟩, hx⟩
      replace H := H.ext hx; replace hbt := hbt.ext hx; replace hT := hT.ext hx; replace hE := hE.ext hx; replace hO := hO.ext hx; replace hDr := hDr.ext hx
      refine RL.nil ?_
      refine AL.mg 13 (by kernel_rfl) rfl rfl rfl rfl (ld_box rfl hbt rfl) rfl ?_
      refine AL.o 14 (by kernel_rfl) rfl ?_
      refine RL.yes rfl rfl rfl ?_
      -- call stagecoach/stagecoachref08.Same (tmp 14) (tmp 18)
      have hLMl : LM.length = D.S.length := by have h9 := congrArg List.length hMm; simpa using h9
      refine RL.call (rSame _ aM b2 cM d LM L hM.sl hO.sl (fun i h => (hMO.own _ (List.getElem_mem h)).sl) (fun i h => (hDr _ (List.getElem_mem h)).sl) (by omega) (fun i h => by
        obtain ⟨h2, e⟩ := mk_at hMm i h
        rw [show LM[i].last = D.S[i].last from congrArg Mk.last e]
        exact Nat.le_trans (hok.row _ (List.getElem_mem h2)).2.1 (by decide))) rfl rfl ?_
      rintro _ w5 ⟨rfl, hx⟩
      replace H := H.ext hx; replace hbt := hbt.ext hx; replace hT := hT.ext hx; replace hE := hE.ext hx; replace hO := hO.ext hx; replace hDr := hDr.ext hx; replace hM := hM.ext hx; replace hMO := hMO.ext hx
      refine RL.nil ?_
      refine AL.p 15 (by kernel_rfl) rfl (pickT rfl) rfl ?_
      refine AL.p 16 (by kernel_rfl) rfl (asgB rfl) rfl ?_
      refine AL.nil (by kernel_rfl) ?_
      refine ⟨decide (LM.map Maker.mk' = L.map Maker.mk'), Head.intro (by repeat (first | with_reducible exact AgreeOff.refl _ _ | with_reducible exact AgreeOff.mix _ _ _ | refine AgreeOff.look rfl ?_ | refine AgreeOff.mixs rfl ?_)) ⟨rfl, trivial⟩, H, hbt, decide_eq_true (hMm.trans hLm.symm)⟩
    · refine ⟨_, rfl, ?_⟩
      refine RL.yes rfl rfl rfl ?_
      refine RL.m (ld_box rfl hbt rfl) rfl ?_
      refine RL.nil ?_
      refine AL.o 9 (by kernel_rfl) rfl ?_
      refine RL.yes rfl rfl rfl ?_
      -- call (*stagecoach/dedup.Table).Makers (tmp 13)
      refine RL.call (pMakers _ B i Z D hT K M hok hM0) rfl rfl ?_
      rintro v w6 ⟨⟨aM, cM, LM, rfl, hM, hMO, hMm⟩, hx⟩
      replace H := H.ext hx; replace hbt := hbt.ext hx; replace hT := hT.ext hx; replace hE := hE.ext hx; replace hO := hO.ext hx; replace hDr := hDr.ext hx
      refine RL.nil ?_
      refine AL.o 14 (by kernel_rfl) rfl ?_
      refine RL.yes rfl rfl rfl ?_
      -- call stagecoach/stagecoachref08.Same (tmp 14) (tmp 18)
      have hLMl : LM.length = D.S.length := by have h9 := congrArg List.length hMm; simpa using h9
      refine RL.call (rSame _ aM b2 cM d LM L hM.sl hO.sl (fun i h => (hMO.own _ (List.getElem_mem h)).sl) (fun i h => (hDr _ (List.getElem_mem h)).sl) (by omega) (fun i h => by
        obtain ⟨h2, e⟩ := mk_at hMm i h
        rw [show LM[i].last = D.S[i].last from congrArg Mk.last e]
        exact Nat.le_trans (hok.row _ (List.getElem_mem h2)).2.1 (by decide))) rfl rfl ?_
      rintro _ w7 ⟨rfl, hx⟩
      replace H := H.ext hx; replace hbt := hbt.ext hx; replace hT := hT.ext hx; replace hE := hE.ext hx; replace hO := hO.ext hx; replace hDr := hDr.ext hx; replace hM := hM.ext hx; replace hMO := hMO.ext hx
      refine RL.nil ?_
      refine AL.p 15 (by kernel_rfl) rfl (pickT rfl) rfl ?_
      refine AL.p 16 (by kernel_rfl) rfl (asgB rfl) rfl ?_
      refine AL.nil (by kernel_rfl) ?_
      refine ⟨decide (LM.map Maker.mk' = L.map Maker.mk'), Head.intro (by repeat (first | with_reducible exact AgreeOff.refl _ _ | with_reducible exact AgreeOff.mix _ _ _ | refine AgreeOff.look rfl ?_ | refine AgreeOff.mixs rfl ?_)) ⟨rfl, trivial⟩, H, hbt, decide_eq_true (hMm.trans hLm.symm)⟩
  rintro t jc w8 ⟨H, hbt, ht⟩
  refine WP.ret ?_
  refine fin1_ret rfl ⟨⟨t, ht, by cases t <;> rfl⟩, H⟩
theorem lCutR (w0 : World) (r : Rec) :
    Ct Try.prog 39 #[.agg (Lies.enc r).toArray] w0 fun v w' => (∃ r' : Rec, v = .agg (Lies.enc r').toArray) ∧ Ext w0 w' := by
  refine Ct.introC Try.func39 Try.ntmps39 rfl rfl (by decide) rfl ?_
  have H : Ext w0 w0 := Ext.refl w0
  refine WP.regionS ?_
  refine RL.boxS w0.heap.size H.size rfl rfl ?_
  intro w1 i1 hi1 hx hb1
  replace H := H.ext hx; clear hx
  refine RL.alloc w0.heap.size H.size rfl rfl ?_
  intro w2 i2 hi2 hx hb2
  have ne1_2 := hb1.ne hi2
  replace H := H.ext hx; replace hb1 := hb1.ext hx; clear hx
  refine RL.nil ?_
  refine WP.regionS ?_
  refine RL.r (fa_box rfl) rfl ?_
  refine RL.m (ld_box rfl hb1 rfl) rfl ?_
  refine RL.r (fa_box rfl) rfl ?_
  refine RL.m (ld_box rfl hb1 rfl) rfl ?_
  refine RL.r (len_str rfl) rfl ?_
  refine RL.r (min_i rfl rfl) rfl ?_
  refine RL.r (slcS (n := min r.key.size 80) rfl rfl (by omega) (by omega)) rfl ?_
  refine RL.r (fa_box rfl) rfl ?_
  refine RL.store1 rfl hb1 rfl rfl rfl rfl ?_
  intro w3 hu hb1
  replace H := H.box hu hb1.old; replace hb2 := hb2.upd hu (Ne.symm ne1_2)
  refine RL.nil ?_
  refine WP.regionS ?_
  refine RL.r (fa_box rfl) rfl ?_
  refine RL.m (ld_box rfl hb1 rfl) rfl ?_
  refine RL.r (fa_box rfl) rfl ?_
  refine RL.m (ld_box rfl hb1 rfl) rfl ?_
  refine RL.r (len_str rfl) rfl ?_
  refine RL.r (min_i rfl rfl) rfl ?_
  refine RL.r (slcS (n := min r.val.size 600) rfl rfl (by omega) (by omega)) rfl ?_
  refine RL.r (fa_box rfl) rfl ?_
  refine RL.store1 rfl hb1 rfl rfl rfl rfl ?_
  intro w4 hu hb1
  replace H := H.box hu hb1.old; replace hb2 := hb2.upd hu (Ne.symm ne1_2)
  refine RL.nil ?_
  refine WP.regionS ?_
  refine RL.m (ldS_box rfl hb1 (Nat.le_of_ble_eq_true rfl) rfl) rfl ?_
  refine RL.storeS rfl hb2 rfl rfl rfl rfl ?_
  intro w5 hu hb2
  replace H := H.box hu hb2.old; replace hb1 := hb1.upd hu ne1_2
  refine RL.nil ?_
  refine WP.ret ?_
  refine finC_ret rfl hb2 ⟨⟨_, rfl, rfl⟩, ⟨(⟨r.hk, r.key.extract 0 (min r.key.size 80), r.tomb, r.val.extract 0 (min r.val.size 600)⟩ : Rec), rfl⟩, H⟩
set_option maxRecDepth 20000 in
theorem lBound (w0 : World) (b : Bat) (hl : SlI w0 b.ra b.recs) :
    Ct Try.prog 12 #[.agg (Lies.enc b).toArray] w0 fun v w' => (∃ b' : Bat, v = .agg (Lies.enc b').toArray ∧ b'.recs.length ≤ 20) ∧ Ext w0 w' := by
  refine Ct.introC Try.func12 Try.ntmps12 rfl rfl (by decide) rfl ?_
  have H : Ext w0 w0 := Ext.refl w0
  refine WP.regionS ?_
  refine RL.boxS w0.heap.size H.size rfl rfl ?_
  intro w1 i1 hi1 hx hb1
  replace H := H.ext hx; clear hx
  refine RL.alloc w0.heap.size H.size rfl rfl ?_
  intro w2 i2 hi2 hx hb2
  have ne1_2 := hb1.ne hi2
  replace H := H.ext hx; replace hb1 := hb1.ext hx; clear hx
  refine RL.nil ?_
  refine WP.regionS ?_
  refine RL.r (fa_box rfl) rfl ?_
  refine RL.m (ld_box rfl hb1 rfl) rfl ?_
  refine RL.r (fa_box rfl) rfl ?_
  refine RL.m (ld_box rfl hb1 rfl) rfl ?_
  refine RL.r (fa_box rfl) rfl ?_
  refine RL.m (ld_box rfl hb1 rfl) rfl ?_
  refine RL.r (bld rfl rfl) rfl ?_
  refine RL.alloc w0.heap.size H.size rfl rfl ?_
  intro w3 i3 hi3 hx hb3
  have ne1_3 := hb1.ne hi3
  have ne2_3 := hb2.ne hi3
  refine RL.storeS rfl hb3 rfl rfl rfl rfl ?_
  intro w4 hu hb3
  replace hx := hx.box hu (Nat.le_of_eq hi3.symm)
  replace H := H.ext hx; replace hb1 := hb1.ext hx; replace hb2 := hb2.ext hx; clear hx hu
  refine RL.nil ?_
  refine WP.seq ?_
  refine WP.regionS ?_
  refine RL.r (asgI rfl) rfl ?_
  refine RL.nil ?_
  refine WP.block ?_
  refine WP.loop (fun k e' w' => ∃ j : Nat, ∃ (a3 : Option Addr) (c3 : Nat) (l3 : List Rec),  j + k = min b.recs.length 20 ∧ Head [4, 12, 13, 14, 15, 16, 17, 18, 19, 20, 21, 22, 23, 24, 25, 26, 27, 28, 29, 30, 31, 32, 33] _ [(4, .int .i64 (j : Int))] e' ∧ Ext w0 w' ∧ Box w0.heap.size w' i1 28 (Lies.enc b) ∧ Box w0.heap.size w' i2 28 [.int .i64 0, .int .i64 0, .int .i64 0, .slice none 0 0] ∧ Box w0.heap.size w' i3 28 [.int .i64 b.prod, .int .i64 b.epoch, .int .i64 b.seq, .slice a3 l3.length c3] ∧ Own w0.heap.size w' 79 a3 c3 l3 ∧ l3.length ≤ j) (min b.recs.length 20)
    ⟨0, none, 0, [], by omega, Head.intro (AgreeOff.refl _ _) ⟨rfl, trivial⟩, H, hb1, hb2, hb3, Own.nil _ _ _, Nat.le_refl _⟩ ?_
  clear H hb1 hb2 hb3
  rintro k e w5 ⟨j, a3, c3, l3, hjk, ⟨jk, rfl⟩, H, hb1, hb2, hb3, hR, hRl⟩
  refine WP.seq ?_
  refine WP.seq (WP.quiet ?_)
  refine QL.r (mvI rfl) rfl ?_
  refine QL.r (fa_box rfl) rfl ?_
  refine QL.m (ld_box rfl hb1 rfl) rfl ?_
  refine QL.r (len_sl rfl) rfl ?_
  refine QL.r (lss rfl rfl) rfl ?_
  refine QL.r (mvB rfl) rfl ?_
  refine QL.gg (gwT rfl rfl) (fun hg => (mvI rfl).does _) rfl ?_
  refine QL.gg (gwT rfl rfl) (fun hg => (lss (gs hg rfl) rfl).does _) rfl ?_
  refine QL.r (pickAnd rfl (fun hn => gs hn rfl)) rfl ?_
  refine QL.nil ?_; intro w6 hx; replace H := H.ext hx; replace hb1 := hb1.ext hx; replace hb2 := hb2.ext hx; replace hb3 := hb3.ext hx; replace hR := hR.ext hx
  refine WP.cond rfl (fun hc => ?_) (fun hc => ?_)
  · refine WP.skip ?_
    refine WP.seq ?_
    refine WP.block ?_
    refine WP.any ?_
    intro w7 hx; replace H := H.ext hx; replace hb1 := hb1.ext hx; replace hb2 := hb2.ext hx; replace hb3 := hb3.ext hx; replace hR := hR.ext hx
    refine AL.p 0 (by kernel_rfl) rfl (fa_box rfl) rfl ?_
    refine AL.p 2 (by kernel_rfl) rfl (fa_box rfl) rfl ?_
    refine AL.p 4 (by kernel_rfl) rfl (mvI rfl) rfl ?_
    refine AL.m 3 (by kernel_rfl) rfl (ld_box rfl hb1 rfl) rfl ?_
    have hj : j < b.recs.length := by omega
    have hl := hl (List.ne_nil_of_length_pos (by omega))
    refine AL.p 5 (by kernel_rfl) rfl (ix_o rfl rfl rfl hj (hl.someA (by decide) hj)) rfl ?_
    refine AL.m 6 (by kernel_rfl) rfl (ldS_o0 rfl hl H rfl rfl hj (by decide)) rfl ?_
    -- call stagecoach/stagecoachlaw03.cut (tmp 29)
    refine AL.x 7 (by kernel_rfl) rfl rfl (fun w' hw' => lCutR w' b.recs[j]) ?_
    refine AX.m 1 (by kernel_rfl) rfl rfl (ld_box rfl hb3 rfl) rfl ?_
    refine AX.o (by kernel_rfl) rfl ?_
    rintro v w8 ⟨⟨r2, rfl⟩, hx⟩
    replace H := H.ext hx; replace hb1 := hb1.ext hx; replace hb2 := hb2.ext hx; replace hb3 := hb3.ext hx; replace hR := hR.ext hx
    refine AL.o 8 (by kernel_rfl) rfl ?_
    refine RL.buildSlice w0.heap.size H.size rfl rfl rfl rfl rfl ?_
    intro w9 i31 hi31 hx hb31
    replace H := H.ext hx; replace hb1 := hb1.ext hx; replace hb2 := hb2.ext hx; replace hb3 := hb3.ext hx; replace hR := hR.ext hx; clear hx
    refine RL.nil ?_
    refine AL.o 9 (by kernel_rfl) rfl ?_
    refine RL.appendS rfl hR H.size rfl (show Sl _ _ [r2] from Box.sl1 hb31) rfl rfl (by decide) rfl cell1 (by omega) (by simp only [maxLen]; omega) rfl ?_
    intro w10 a32 c32 hu hb32 hfr32
    replace hb1 := boxow hb1 hR (by decide) hu
    replace hb2 := boxow hb2 hR (by decide) hu
    replace hb3 := boxow hb3 hR (by decide) hu
    replace H := Ext.own H hR hu; clear hu
    have hb3o := hb3
    refine RL.nil ?_
    refine AL.p 10 (by kernel_rfl) rfl (fa_box rfl) rfl ?_
    refine AL.o 11 (by kernel_rfl) rfl ?_
    refine RL.store1 rfl hb3 rfl rfl rfl rfl ?_
    intro w11 hu hb3
    replace H := H.box hu hb3.old; replace hb1 := hb1.upd hu ne1_3; replace hb2 := hb2.upd hu ne2_3
    refine RL.nil ?_
    refine AL.nil (by kernel_rfl) ?_
    refine WP.region ?_
    refine RL.r (mvI rfl) rfl ?_
    refine RL.r (add rfl rfl (by omega)) rfl ?_
    refine RL.r (asgI rfl) rfl ?_
    refine RL.nil ?_
    replace hb32 := ownbx hb32 hb3o (by decide) hu
    refine ⟨k - 1, by omega, j + 1, _, _, _, by omega, Head.intro (by repeat (first | with_reducible exact AgreeOff.mix _ _ _ | refine AgreeOff.look rfl ?_ | refine AgreeOff.mixs rfl ?_)) ⟨rfl, trivial⟩, H, hb1, hb2, hb3, hb32, by rw [List.length_append]; exact Nat.succ_le_succ hRl⟩
  · refine WP.exit ?_
    refine WP.regionS ?_
    refine RL.m (ldS_box rfl hb3 (Nat.le_of_ble_eq_true rfl) rfl) rfl ?_
    refine RL.storeS rfl hb2 rfl rfl rfl rfl ?_
    intro w12 hu hb2
    replace H := H.box hu hb2.old; replace hb1 := hb1.upd hu ne1_2; replace hb3 := hb3.upd hu (Ne.symm ne2_3)
    refine RL.nil ?_
    refine WP.ret ?_
    refine finC_ret rfl hb2 ⟨⟨_, rfl, rfl⟩, ⟨(⟨b.prod, b.epoch, b.seq, a3, c3, l3⟩ : Bat), rfl, by show l3.length ≤ 20; omega⟩, H⟩
end Go.Proofs.Ytbggmjnhfacjpaa
