/-
  TopicsLoads: the document's Load, and the walk.
-/
import Derived.Test.YtdcckaamepilcaaOpen09
set_option linter.unusedVariables false
namespace Go.Proofs.Ytdcckaamepilcaa
open Go Go.Eng Go.RowKit
theorem rLoadT (w0 : World) (a : Option Addr) (c : Nat) (l : List Topic) (hl : Sl w0 a l) :
    Ct Try.prog 10 #[.slice a l.length c] w0 fun v w' => (∃ p : Option Addr, v = .tuple #[.pointer p, .int .i64 (topicsE l)] ∧ (p = none ↔ topicsE l ≠ 0)) ∧ Ext w0 w' := by
  refine Ct.intro2 Try.func10 Try.ntmps10 rfl rfl (by decide) rfl ?_
  have H : Ext w0 w0 := Ext.refl w0
  refine WP.regionS ?_
  refine RL.r (asgP rfl) rfl ?_
  refine RL.r (asgI rfl) rfl ?_
  refine RL.nil ?_
  refine WP.seq ?_
  refine WP.regionS ?_
  refine RL.r (mvL rfl) rfl ?_
  refine RL.r (len_sl rfl) rfl ?_
  refine RL.r (gtr rfl rfl) rfl ?_
  refine RL.nil ?_
  refine WP.cond rfl (fun hc => ?_) (fun hc => ?_)
  · refine WP.regionS ?_
    refine RL.r (asgP rfl) rfl ?_
    refine RL.r (asgI rfl) rfl ?_
    refine RL.nil ?_
    refine WP.ret ?_
    have hE : topicsE l = 2 := by unfold topicsE; rw [if_pos (by omega)]
    refine fin2_ret rfl rfl ⟨⟨none, tupP hE.symm, by rw [hE]; simp⟩, H⟩
  · refine WP.skip ?_
    refine WP.seq ?_
    refine WP.regionS ?_
    refine RL.r (asgI rfl) rfl ?_
    refine RL.nil ?_
    refine WP.block ?_
    refine WP.loop (fun k e' w' => ∃ j : Nat,  j + k = l.length ∧ Head [2, 3, 4, 8, 9, 10, 11, 12, 13, 14, 15, 16, 17, 18, 19, 20, 21, 22, 23, 24, 25, 26, 27, 28, 29, 30, 31, 32, 33, 34, 35, 36, 37, 38, 39, 40, 41, 42, 43, 44] _ [(4, .int .i64 (j : Int))] e' ∧ Ext w0 w' ∧ ∀ (i : Nat) (h : i < l.length), i < j → topicAt l i h) (l.length)
      ⟨0, by omega, Head.intro (AgreeOff.refl _ _) ⟨rfl, trivial⟩, H, fun i h hi => by omega⟩ ?_
    clear H
    rintro k e w1 ⟨j, hjk, ⟨jk, rfl⟩, H, hok⟩
    refine WP.seq ?_
    refine WP.regionS ?_
    refine RL.r (mvI rfl) rfl ?_
    refine RL.r (mvL rfl) rfl ?_
    refine RL.r (len_sl rfl) rfl ?_
    refine RL.r (lss rfl rfl) rfl ?_
    refine RL.nil ?_
    refine WP.cond rfl (fun hc => ?_) (fun hc => ?_)
    · refine WP.skip ?_
      refine WP.seq ?_
      refine WP.block ?_
      refine WP.seq ?_
      refine WP.draw (by kernel_rfl) ?_
      refine QL.r (mvL rfl) rfl ?_
      refine QL.r (mvI rfl) rfl ?_
      have hj : j < l.length := by omega
      have hj1 : j - 1 < l.length := by omega
      obtain ⟨p, rfl⟩ := hl.isAddr (by decide) hj
      refine QL.r (ix rfl rfl rfl (by omega)) rfl ?_
      refine QL.r (fa_el hl.1 rfl) rfl ?_
      refine QL.m (ld_el rfl hl H rfl (by omega) rfl) rfl ?_
      refine QL.r (mvL rfl) rfl ?_
      refine QL.r (mvI rfl) rfl ?_
      refine QL.r (ix rfl rfl rfl (by omega)) rfl ?_
      refine QL.r (fa_el hl.1 rfl) rfl ?_
      refine QL.m (ld_el rfl hl H rfl (by omega) rfl) rfl ?_
      -- call stagecoach/stagecoachref09.may (tmp 18) (tmp 23)
      refine QL.call (fun w' hw' => (rMay w' _ _)) rfl rfl ?_
      first | refine QL.r (notD rfl) rfl ?_ | refine QL.r (not_ rfl) rfl ?_
      refine QL.r (mvB rfl) rfl ?_
      refine QL.gg (gwF rfl rfl) (fun hg => (mvI rfl).does _) rfl ?_
      refine QL.gg (gwF rfl rfl) (fun hg => (gtr (gs hg rfl) rfl).does _) rfl ?_
      refine QL.gg (gwF rfl rfl) (fun hg => (mvv (gs hg rfl)).does _) rfl ?_
      refine QL.gg (gwTT rfl rfl) (fun hg => (mvL rfl).does _) rfl ?_
      refine QL.gg (gwTT rfl rfl) (fun hg => (mvI rfl).does _) rfl ?_
      refine QL.gg (gwTT rfl rfl) (fun hg => (sub (gs hg rfl) rfl (by omega)).does _) rfl ?_
      refine QL.gg (gwTT rfl rfl) (fun hg => (ix (gs hg rfl) (gs hg rfl) (show ((j : Int) - 1) = ((j - 1 : Nat) : Int) by omega) (by omega)).does _) rfl ?_
      refine QL.gg (gwTT rfl rfl) (fun hg => (fa_el hl.1 (gs hg rfl)).does _) rfl ?_
      refine QL.gg (gwTT rfl rfl) (fun hg => ld_el (gs hg rfl) hl H rfl hj1 rfl) rfl ?_
      refine QL.gg (gwTT rfl rfl) (fun hg => (mvL rfl).does _) rfl ?_
      refine QL.gg (gwTT rfl rfl) (fun hg => (mvI rfl).does _) rfl ?_
      refine QL.gg (gwTT rfl rfl) (fun hg => (ix (gs hg rfl) (gs hg rfl) rfl (by omega)).does _) rfl ?_
      refine QL.gg (gwTT rfl rfl) (fun hg => (fa_el hl.1 (gs hg rfl)).does _) rfl ?_
      refine QL.gg (gwTT rfl rfl) (fun hg => ld_el (gs hg rfl) hl H rfl (by omega) rfl) rfl ?_
      -- call stagecoach/stagecoachref04.Less (tmp 35) (tmp 40)
      refine QL.gcall (gwTT rfl rfl) (fun hg w' hw' => (rLess w' _ _ (by have := (hok (j - 1) hj1 (by omega)).1.1.2.1; omega))) (fun hg => EvL.cons (gs hg rfl) (EvL.cons (gs hg rfl) (EvL.nil))) rfl ?_
      first | refine QL.gg (gwTT rfl rfl) (fun hg => (notD (gs hg rfl)).does _) rfl ?_ | refine QL.gg (gwTT rfl rfl) (fun hg => (not_ (gs hg rfl)).does _) rfl ?_
      refine QL.gg (gwF rfl rfl) (fun hg => (pickAnd (gs hg rfl) (fun hn => gs ⟨hg, hn⟩ rfl)).does _) rfl ?_
      refine QL.r (pickOr rfl (fun hn => gs hn rfl)) rfl ?_
      refine QL.nil ?_; intro w4 hx; replace H := H.ext hx
      refine WP.cond rfl (fun hc => ?_) (fun hc => ?_)
      · refine WP.regionS ?_
        refine RL.r (asgP rfl) rfl ?_
        refine RL.r (asgI rfl) rfl ?_
        refine RL.nil ?_
        refine WP.ret ?_
        have hE : topicsE l = 1 := by
          unfold topicsE
          rw [if_neg (by omega), if_neg]
          intro h
          obtain ⟨h1, h2⟩ := h j hj
          rcases hc with hc | ⟨hc, hc'⟩
          · exact hc h1
          · exact hc' (h2 (by omega))
        refine fin2_ret rfl rfl ⟨⟨none, tupP hE.symm, by rw [hE]; simp⟩, H⟩
      · refine WP.skip ?_
        refine WP.region ?_
        refine RL.r (mvI rfl) rfl ?_
        refine RL.r (add rfl rfl (by omega)) rfl ?_
        refine RL.r (asgI rfl) rfl ?_
        refine RL.nil ?_
        refine ⟨k - 1, by omega, j + 1, by omega, Head.intro (by repeat (first | with_reducible exact AgreeOff.mix _ _ _ | refine AgreeOff.look rfl ?_ | refine AgreeOff.mixs rfl ?_)) ⟨rfl, trivial⟩, H, ?_⟩
        intro i h hi
        by_cases hij : i < j
        · exact hok i h hij
        · obtain rfl : i = j := by omega
          exact ⟨Classical.byContradiction fun h1 => hc (.inl h1), fun h0 => Classical.byContradiction fun h1 => hc (.inr ⟨by omega, h1⟩)⟩
    · refine WP.exit ?_
      refine WP.regionS ?_
      refine RL.build0 (α := Topic) w0.heap.size H.size rfl ?_
      intro w5 i45 hi45 hx hb45
      replace H := H.ext hx; clear hx
      refine RL.r (mvL rfl) rfl ?_
      refine RL.appendS rfl hb45 H.size rfl (hl.ext H) rfl rfl (by decide) rfl cell1 (by simp only [List.length_nil]; omega) (by simp only [List.length_nil, maxLen]; omega) rfl ?_
      intro w6 a47 c47 hu hb47 hfr47
      replace H := Ext.own H hb45 hu; clear hu
      refine RL.r (bld rfl rfl) rfl ?_
      refine RL.boxS w0.heap.size H.size rfl rfl ?_
      intro w7 i49 hi49 hx hb49
      replace H := H.ext hx; clear hx
      refine RL.r (asgP rfl) rfl ?_
      refine RL.r (asgI rfl) rfl ?_
      refine RL.nil ?_
      refine WP.ret ?_
      have hE : topicsE l = 0 := by unfold topicsE; rw [if_neg (by omega), if_pos (show topicsOk l from fun i h => hok i h (by omega))]
      refine fin2_ret rfl rfl ⟨⟨_, tupP hE.symm, by rw [hE]; simp⟩, H⟩
set_option maxRecDepth 20000 in
set_option maxHeartbeats 1600000 in
theorem lLoads (w0 : World) (a : Option Addr) (c : Nat) (l : List Topic) (hl : SlI w0 a l) :
    Ct Try.prog 3 #[.slice a l.length c] w0 fun v w' => v = .bool true ∧ Ext w0 w' := by
  refine Ct.intro1 Try.func3 Try.ntmps3 rfl rfl (by decide) rfl ?_
  have H : Ext w0 w0 := Ext.refl w0
  refine WP.regionS ?_
  refine RL.r (asgB rfl) rfl ?_
  refine RL.nil ?_
  refine WP.regionS ?_
  refine RL.build0 (α := Topic) w0.heap.size H.size rfl ?_
  intro w1 i9 hi9 hx hb9
  replace H := H.ext hx; clear hx
  have hM := hb9
  refine RL.r (asgL rfl) rfl ?_
  refine RL.nil ?_
  refine WP.seq ?_
  refine WP.regionS ?_
  refine RL.r (asgI rfl) rfl ?_
  refine RL.nil ?_
  refine WP.block ?_
  refine WP.loop (fun k e' w' => ∃ j : Nat, ∃ (a3 : Option Addr) (c3 : Nat) (M : List Topic),  j + k = min l.length 12 ∧ Head [3, 4, 10, 11, 12, 13, 14, 15, 16, 17, 18, 19, 20, 21, 22, 23, 24, 25, 26, 27, 28, 29, 30, 31, 32, 33, 34] _ [(3, .slice a3 M.length c3), (4, .int .i64 (j : Int))] e' ∧ Ext w0 w' ∧ Eng.Own w0.heap.size w' 25 a3 c3 M ∧ M.length ≤ j) (min l.length 12)
    ⟨0, _, _, [], by omega, Head.intro (AgreeOff.refl _ _) ⟨rfl, rfl, trivial⟩, H, hM, Nat.le_refl _⟩ ?_
  clear H hM
  rintro k e w2 ⟨j, a3, c3, M, hjk, ⟨jk, rfl⟩, H, hM, hMl⟩
  refine WP.seq ?_
  refine WP.seq (WP.quiet ?_)
  refine QL.r (mvI rfl) rfl ?_
  refine QL.r (mvL rfl) rfl ?_
  refine QL.r (len_sl rfl) rfl ?_
  refine QL.r (lss rfl rfl) rfl ?_
  refine QL.r (mvB rfl) rfl ?_
  refine QL.gg (gwT rfl rfl) (fun hg => (mvI rfl).does _) rfl ?_
  refine QL.gg (gwT rfl rfl) (fun hg => (lss (gs hg rfl) rfl).does _) rfl ?_
  refine QL.r (pickAnd rfl (fun hn => gs hn rfl)) rfl ?_
  refine QL.nil ?_; intro w3 hx; replace H := H.ext hx; replace hM := hM.ext hx
  refine WP.cond rfl (fun hc => ?_) (fun hc => ?_)
  · refine WP.skip ?_
    refine WP.seq ?_
    refine WP.block ?_
    refine WP.cutN (α := Option Addr × Nat × List Topic) [3, 20, 21, 22, 23, 24, 25, 26, 27, 28, 29, 30, 31, 32, 33, 34] (fun x => [(3, .slice x.1 x.2.2.length x.2.1)]) (fun x w' => Ext w0 w' ∧ Eng.Own w0.heap.size w' 25 x.1 x.2.1 x.2.2 ∧ x.2.2.length ≤ j + 1) ?_ ?_
    · refine WP.any ?_
      intro w4 hx; replace H := H.ext hx; replace hM := hM.ext hx
      refine AL.p 0 (by kernel_rfl) rfl (mvL rfl) rfl ?_
      refine AL.p 1 (by kernel_rfl) rfl (mvL rfl) rfl ?_
      refine AL.p 2 (by kernel_rfl) rfl (mvI rfl) rfl ?_
      have hj : j < l.length := by omega
      have hl := hl (List.ne_nil_of_length_pos (by omega))
      obtain ⟨p, rfl⟩ := hl.isAddr (by decide) hj
      refine AL.p 3 (by kernel_rfl) rfl (ix rfl rfl rfl hj) rfl ?_
      refine AL.p 4 (by kernel_rfl) rfl (fa_el hl.1 rfl) rfl ?_
      refine AL.p 7 (by kernel_rfl) rfl (mvL rfl) rfl ?_
      refine AL.p 8 (by kernel_rfl) rfl (mvI rfl) rfl ?_
      refine AL.p 9 (by kernel_rfl) rfl (ix rfl rfl rfl hj) rfl ?_
      refine AL.p 10 (by kernel_rfl) rfl (fa_el hl.1 rfl) rfl ?_
      refine AL.m 5 (by kernel_rfl) rfl (ld_el rfl hl H rfl hj rfl) rfl ?_
      refine AL.all (rs := [6, 11]) (by kernel_rfl) rfl ?_
      rintro i hi; simp only [List.mem_cons, List.not_mem_nil, or_false] at hi; rcases hi with rfl | rfl
      · refine ⟨_, rfl, ?_⟩
        -- call stagecoach/stagecoachlaw09.cut (tmp 25)
        refine RL.call (lCut _ l[j].name) rfl rfl ?_
        rintro _ w5 ⟨rfl, hx⟩
        replace H := H.ext hx; replace hM := hM.ext hx
        refine RL.nil ?_
        refine AL.m 11 (by kernel_rfl) rfl (ld_el rfl hl H rfl hj rfl) rfl ?_
        refine AL.p 12 (by kernel_rfl) rfl (bld rfl rfl) rfl ?_
        refine AL.o 13 (by kernel_rfl) rfl ?_
        refine RL.buildSlice w0.heap.size H.size rfl rfl rfl rfl rfl ?_
        intro w6 i33 hi33 hx hb33
        replace H := H.ext hx; replace hM := hM.ext hx; clear hx
        refine RL.nil ?_
        refine AL.o 14 (by kernel_rfl) rfl ?_
        refine RL.appendS rfl hM H.size rfl (show Sl _ _ [(⟨l[j].name.extract 0 (min l[j].name.size 40), l[j].n⟩ : Topic)] from Box.sl1 hb33) rfl rfl (by decide) rfl cell1 (by omega) (by simp only [maxLen]; omega) rfl ?_
        intro w7 a34 c34 hu hb34 hfr34
        replace H := Ext.own H hM hu; clear hu
        refine RL.nil ?_
        refine AL.p 15 (by kernel_rfl) rfl (asgL rfl) rfl ?_
        refine AL.nil (by kernel_rfl) ?_
        refine ⟨(a34, c34, M ++ [(⟨l[j].name.extract 0 (min l[j].name.size 40), l[j].n⟩ : Topic)]), Head.intro (by repeat (first | with_reducible exact AgreeOff.refl _ _ | with_reducible exact AgreeOff.mix _ _ _ | refine AgreeOff.look rfl ?_ | refine AgreeOff.mixs rfl ?_)) ⟨rfl, trivial⟩, H, hb34, by show (M ++ _).length ≤ _; rw [List.length_append]; simp only [List.length_cons, List.length_nil]; omega⟩
      · refine ⟨_, rfl, ?_⟩
        refine RL.m (ld_el rfl hl H rfl hj rfl) rfl ?_
        refine RL.nil ?_
        refine AL.o 6 (by kernel_rfl) rfl ?_
        -- call stagecoach/stagecoachlaw09.cut (tmp 25)
        refine RL.call (lCut _ l[j].name) rfl rfl ?_
        rintro _ w8 ⟨rfl, hx⟩
        replace H := H.ext hx; replace hM := hM.ext hx
        refine RL.nil ?_
        refine AL.p 12 (by kernel_rfl) rfl (bld rfl rfl) rfl ?_
        refine AL.o 13 (by kernel_rfl) rfl ?_
        refine RL.buildSlice w0.heap.size H.size rfl rfl rfl rfl rfl ?_
        intro w9 i33 hi33 hx hb33
        replace H := H.ext hx; replace hM := hM.ext hx; clear hx
        refine RL.nil ?_
        refine AL.o 14 (by kernel_rfl) rfl ?_
        refine RL.appendS rfl hM H.size rfl (show Sl _ _ [(⟨l[j].name.extract 0 (min l[j].name.size 40), l[j].n⟩ : Topic)] from Box.sl1 hb33) rfl rfl (by decide) rfl cell1 (by omega) (by simp only [maxLen]; omega) rfl ?_
        intro w10 a34 c34 hu hb34 hfr34
        replace H := Ext.own H hM hu; clear hu
        refine RL.nil ?_
        refine AL.p 15 (by kernel_rfl) rfl (asgL rfl) rfl ?_
        refine AL.nil (by kernel_rfl) ?_
        refine ⟨(a34, c34, M ++ [(⟨l[j].name.extract 0 (min l[j].name.size 40), l[j].n⟩ : Topic)]), Head.intro (by repeat (first | with_reducible exact AgreeOff.refl _ _ | with_reducible exact AgreeOff.mix _ _ _ | refine AgreeOff.look rfl ?_ | refine AgreeOff.mixs rfl ?_)) ⟨rfl, trivial⟩, H, hb34, by show (M ++ _).length ≤ _; rw [List.length_append]; simp only [List.length_cons, List.length_nil]; omega⟩
    rintro y jc w11 ⟨H, hM, hMl⟩
    refine WP.region ?_
    refine RL.r (mvI rfl) rfl ?_
    refine RL.r (add rfl rfl (by omega)) rfl ?_
    refine RL.r (asgI rfl) rfl ?_
    refine RL.nil ?_
    refine ⟨k - 1, by omega, j + 1, y.1, y.2.1, y.2.2, by omega, Head.intro (by repeat (first | with_reducible exact AgreeOff.mix _ _ _ | refine AgreeOff.look rfl ?_ | refine AgreeOff.mixs rfl ?_)) ⟨rfl, rfl, trivial⟩, H, hM, hMl⟩
  · refine WP.exit ?_
    refine WP.regionS ?_
    refine RL.r (mvL rfl) rfl ?_
    -- call stagecoach/topics.Load (tmp 36)
    refine RL.call (pLoad _ a3 c3 M hM.sl) rfl rfl ?_
    rintro v w12 ⟨⟨p1, rfl, hg1, hg0⟩, hx⟩
    replace H := H.ext hx; replace hM := hM.ext hx
    have K12 := Ext.refl w12
    refine RL.r (mvU rfl) rfl ?_
    refine RL.r (ex0 rfl) rfl ?_
    refine RL.r (ex1 rfl) rfl ?_
    refine RL.r (asgP rfl) rfl ?_
    refine RL.r (asgI rfl) rfl ?_
    refine RL.nil ?_
    refine WP.regionS ?_
    refine RL.r (mvL rfl) rfl ?_
    -- call stagecoach/stagecoachref09.Load (tmp 41)
    have hs12 := H.size
    refine RL.call (rLoadT _ a3 c3 M hM.sl) rfl rfl ?_
    rintro v w13 ⟨⟨p2, rfl, hr⟩, hx⟩
    replace H := H.ext hx; replace hM := hM.ext hx; replace K12 := K12.ext hx
    refine RL.r (mvU rfl) rfl ?_
    refine RL.r (ex0 rfl) rfl ?_
    refine RL.r (ex1 rfl) rfl ?_
    refine RL.r (asgP rfl) rfl ?_
    refine RL.r (asgI rfl) rfl ?_
    refine RL.nil ?_
    refine WP.seq ?_
    refine WP.seq (WP.quiet ?_)
    refine QL.r (mvI rfl) rfl ?_
    refine QL.r (mvI rfl) rfl ?_
    refine QL.r (neq rfl rfl) rfl ?_
    refine QL.r (mvB rfl) rfl ?_
    refine QL.gg (gwF rfl rfl) (fun hg => (mvP rfl).does _) rfl ?_
    refine QL.gg (gwF rfl rfl) (fun hg => (peqn (gs hg rfl) rfl).does _) rfl ?_
    refine QL.gg (gwF rfl rfl) (fun hg => (mvP rfl).does _) rfl ?_
    refine QL.gg (gwF rfl rfl) (fun hg => (peqn (gs hg rfl) rfl).does _) rfl ?_
    refine QL.gg (gwF rfl rfl) (fun hg => (bneq (gs hg rfl) (gs hg rfl)).does _) rfl ?_
    refine QL.r (pickOr rfl (fun hn => gs hn rfl)) rfl ?_
    refine QL.nil ?_; intro w14 hx; replace H := H.ext hx; replace hM := hM.ext hx; replace K12 := K12.ext hx
    refine WP.cond rfl (fun hc => ?_) (fun hc => ?_)
    · refine WP.regionS ?_
      refine RL.r (asgB rfl) rfl ?_
      refine RL.nil ?_
      refine WP.ret ?_
      refine fin1_ret rfl ⟨?_, H⟩
      exfalso
      rcases hc with hc | hc
      · exact hc rfl
      · by_cases h0 : topicsE M = 0
        · obtain ⟨i, m, rfl, _⟩ := hg1 h0
          have h2 : p2 ≠ none := fun h => hr.1 h h0
          exact hc (by simp [h2])
        · exact hc (by rw [hg0 h0, hr.2 h0])
    · refine WP.skip ?_
      refine WP.regionS ?_
      refine RL.r (mvP rfl) rfl ?_
      refine RL.r (peqn rfl rfl) rfl ?_
      refine RL.part rfl rfl (fun hg => ?_) (fun hg => ?_)
      · refine RL.no rfl rfl rfl rfl ?_
        refine RL.no rfl rfl rfl rfl ?_
        refine RL.no rfl rfl rfl rfl ?_
        refine RL.no rfl rfl rfl rfl ?_
        refine RL.r (pickT rfl) rfl ?_
        refine RL.r (mvB rfl) rfl ?_
        refine RL.yes rfl rfl rfl ?_
        -- call stagecoach/stagecoachlaw09.fixed 
        refine RL.call (lFixed _) rfl rfl ?_
        rintro _ w15 ⟨rfl, hx⟩
        replace H := H.ext hx; replace hM := hM.ext hx; replace K12 := K12.ext hx
        refine RL.r (pickT rfl) rfl ?_
        refine RL.r (asgB rfl) rfl ?_
        refine RL.nil ?_
        refine WP.ret ?_
        refine fin1_ret rfl ⟨rfl, H⟩
      · refine RL.yes rfl rfl rfl ?_
        refine RL.r (mvP rfl) rfl ?_
        refine RL.yes rfl rfl rfl ?_
        -- call (*stagecoach/topics.Catalog).List (tmp 58)
        have h0 : topicsE M = 0 := Classical.byContradiction fun h => hg (hg0 h)
        obtain ⟨i, m, rfl, hT⟩ := hg1 h0
        have hM8 := hT.ok.len
        refine RL.call (pList _ _ i m M (hT.ext K12)) rfl rfl ?_
        rintro v w16 ⟨⟨aL, cL, rfl, hL⟩, hx⟩
        replace H := H.ext hx; replace hM := hM.ext hx; replace K12 := K12.ext hx
        refine RL.yes rfl rfl rfl ?_
        refine RL.r (mvL rfl) rfl ?_
        refine RL.yes rfl rfl rfl ?_
        -- call stagecoach/stagecoachref09.Same (tmp 59) (tmp 60)
        refine RL.call (rSameT _ aL a3 cL c3 M M hL.sl hM.sl (by omega)) rfl rfl ?_
        rintro _ w17 ⟨rfl, hx⟩
        replace H := H.ext hx; replace hM := hM.ext hx; replace K12 := K12.ext hx
        refine RL.r (pickF rfl) rfl ?_
        refine RL.part rfl rfl (fun hg => ?_) (fun hg => ?_)
        · refine RL.yes rfl rfl rfl ?_
          -- call stagecoach/stagecoachlaw09.fixed 
          refine RL.call (lFixed _) rfl rfl ?_
          rintro _ w18 ⟨rfl, hx⟩
          replace H := H.ext hx; replace hM := hM.ext hx; replace K12 := K12.ext hx
          refine RL.r (pickT rfl) rfl ?_
          refine RL.r (asgB rfl) rfl ?_
          refine RL.nil ?_
          refine WP.ret ?_
          refine fin1_ret rfl ⟨rfl, H⟩
        · refine RL.no rfl rfl rfl rfl ?_
          refine RL.r (pickF rfl) rfl ?_
          refine RL.r (asgB rfl) rfl ?_
          refine RL.nil ?_
          refine WP.ret ?_
          refine fin1_ret rfl ⟨absurd rfl hg, H⟩
end Go.Proofs.Ytdcckaamepilcaa
