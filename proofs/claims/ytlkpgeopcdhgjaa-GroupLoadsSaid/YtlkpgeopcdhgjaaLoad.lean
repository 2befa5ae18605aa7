/-
  Load: walks and laws, written by gen/gen.py out of gen/thy/Load.py.
-/
import Derived.Test.YtlkpgeopcdhgjaaNames
import Derived.Test.YtlkpgeopcdhgjaaKey
set_option linter.unusedVariables false
namespace Go.Proofs.Ytlkpgeopcdhgjaa
open Go Go.Eng Go.RowKit
theorem tupE {p : Option Addr} {x y : Int} (h : x = y) : Value.tuple #[.pointer p, .int .i64 x] = Value.tuple #[.pointer p, .int .i64 y] := by rw [h]
def topicOk (t : Topic) : Prop := nameB t.name ∧ 1 ≤ t.n ∧ t.n ≤ 8
noncomputable instance (t : Topic) : Decidable (topicOk t) := inferInstanceAs (Decidable (_ ∧ _))
def topicAt (l : List Topic) (i : Nat) (h : i < l.length) : Prop := topicOk l[i] ∧ (0 < i → slt l[i - 1].name l[i].name)
noncomputable instance (l : List Topic) (i : Nat) (h : i < l.length) : Decidable (topicAt l i h) := inferInstanceAs (Decidable (_ ∧ _))
def topicsOk (l : List Topic) : Prop := ∀ (i : Nat) (h : i < l.length), topicAt l i h
noncomputable instance (l : List Topic) : Decidable (topicsOk l) := Nat.decidableBallLT _ _
noncomputable def topicsE (l : List Topic) : Int := if 8 < l.length then 2 else if topicsOk l then 0 else 1
theorem pNew (w0 : World) :
    Ct Try.prog 81 #[] w0 fun v w' => (∃ i m, v = .pointer (some ⟨i, 0, none⟩) ∧ Box w0.heap.size w' i 120 [.map (some m)] ∧ Mp Try.prog 9 w0.heap.size w' m ([] : List (ByteArray × Value))) ∧ Ext w0 w' := by
  refine Ct.intro1 Try.func81 Try.ntmps81 rfl rfl (by decide) rfl ?_
  have H : Ext w0 w0 := Ext.refl w0
  refine WP.regionS ?_
  refine RL.r (asgP rfl) rfl ?_
  refine RL.nil ?_
  refine WP.regionS ?_
  refine RL.makeMap w0.heap.size H.size rfl 9 ByteArray ?_
  intro w1 i1 hi1 hx hm1
  replace H := H.ext hx; clear hx
  refine RL.r (bld rfl rfl) rfl ?_
  refine RL.boxS w0.heap.size H.size rfl rfl ?_
  intro w2 i3 hi3 hx hb3
  replace H := H.ext hx; replace hm1 := hm1.ext hx; clear hx
  refine RL.r (asgP rfl) rfl ?_
  refine RL.nil ?_
  refine WP.ret ?_
  refine fin1_ret rfl ⟨⟨_, _, rfl, hb3, hm1⟩, H⟩
theorem rLoad (w0 : World) (a : Option Addr) (c : Nat) (l : List Topic) (hl : Sl w0 a l) :
    Ct Try.prog 55 #[.slice a l.length c] w0 fun v w' => (∃ p, v = .tuple #[.pointer p, .int .i64 (topicsE l)]) ∧ Ext w0 w' := by
  refine Ct.intro2 Try.func55 Try.ntmps55 rfl rfl (by decide) rfl ?_
  have H : Ext w0 w0 := Ext.refl w0
  refine WP.regionS ?_
  refine RL.r (asgP rfl) rfl ?_
  refine RL.r (asgI rfl) rfl ?_
  refine RL.nil ?_
  refine WP.seq ?_
  refine WP.regionS ?_
  refine RL.r (mvL rfl) rfl ?_
  refine RL.r (len_sl rfl) rfl ?_
  refine RL.r (gtr rfl rfl) rfl ?_
  refine RL.nil ?_
  refine WP.cond rfl (fun hc => ?_) (fun hc => ?_)
  · refine WP.regionS ?_
    refine RL.r (asgP rfl) rfl ?_
    refine RL.r (asgI rfl) rfl ?_
    refine RL.nil ?_
    refine WP.ret ?_
    refine fin2_ret rfl rfl ⟨⟨none, tupE (by unfold topicsE; rw [if_pos (by omega)])⟩, H⟩
  · refine WP.skip ?_
    refine WP.seq ?_
    refine WP.regionS ?_
    refine RL.r (asgI rfl) rfl ?_
    refine RL.nil ?_
    refine WP.block ?_
    refine WP.loop (fun k e' w' => ∃ j : Nat,  j + k = l.length ∧ Head [2, 3, 4, 8, 9, 10, 11, 12, 13, 14, 15, 16, 17, 18, 19, 20, 21, 22, 23, 24, 25, 26, 27, 28, 29, 30, 31, 32, 33, 34, 35, 36, 37, 38, 39, 40, 41, 42, 43, 44] _ [(4, .int .i64 (j : Int))] e' ∧ Ext w0 w' ∧ ∀ (i : Nat) (h : i < l.length), i < j → topicAt l i h) (l.length)
      ⟨0, by omega, Head.intro (AgreeOff.refl _ _) ⟨rfl, trivial⟩, H, fun i h hi => by omega⟩ ?_
    clear H
    rintro k e w1 ⟨j, hjk, ⟨jk, rfl⟩, H, hok⟩
    refine WP.seq ?_
    refine WP.regionS ?_
    refine RL.r (mvI rfl) rfl ?_
    refine RL.r (mvL rfl) rfl ?_
    refine RL.r (len_sl rfl) rfl ?_
    refine RL.r (lss rfl rfl) rfl ?_
    refine RL.nil ?_
    refine WP.cond rfl (fun hc => ?_) (fun hc => ?_)
    · refine WP.skip ?_
      refine WP.seq ?_
      refine WP.block ?_
      refine WP.seq ?_
      refine WP.draw (by kernel_rfl) ?_
      refine QL.r (mvL rfl) rfl ?_
      refine QL.r (mvI rfl) rfl ?_
      have hj : j < l.length := by omega
      have hj1 : j - 1 < l.length := by omega
      obtain ⟨p, rfl⟩ := hl.isAddr (by decide) hj
      refine QL.r (ix rfl rfl rfl (by omega)) rfl ?_
      refine QL.r (fa_el hl.1 rfl) rfl ?_
      refine QL.m (ld_el rfl hl H rfl (by omega) rfl) rfl ?_
      refine QL.r (mvL rfl) rfl ?_
      refine QL.r (mvI rfl) rfl ?_
      refine QL.r (ix rfl rfl rfl (by omega)) rfl ?_
      refine QL.r (fa_el hl.1 rfl) rfl ?_
      refine QL.m (ld_el rfl hl H rfl (by omega) rfl) rfl ?_
      -- call stagecoach/stagecoachref09.may (tmp 18) (tmp 23)
      refine QL.call (fun w' hw' => (rMay w' _ _)) rfl rfl ?_
      first | refine QL.r (notD rfl) rfl ?_ | refine QL.r (not_ rfl) rfl ?_
      refine QL.r (mvB rfl) rfl ?_
      refine QL.gg (gwF rfl rfl) (fun hg => (mvI rfl).does _) rfl ?_
      refine QL.gg (gwF rfl rfl) (fun hg => (gtr (gs hg rfl) rfl).does _) rfl ?_
      refine QL.gg (gwF rfl rfl) (fun hg => (mvv (gs hg rfl)).does _) rfl ?_
      refine QL.gg (gwTT rfl rfl) (fun hg => (mvL rfl).does _) rfl ?_
      refine QL.gg (gwTT rfl rfl) (fun hg => (mvI rfl).does _) rfl ?_
      refine QL.gg (gwTT rfl rfl) (fun hg => (sub (gs hg rfl) rfl (by omega)).does _) rfl ?_
      refine QL.gg (gwTT rfl rfl) (fun hg => (ix (gs hg rfl) (gs hg rfl) (show ((j : Int) - 1) = ((j - 1 : Nat) : Int) by omega) (by omega)).does _) rfl ?_
      refine QL.gg (gwTT rfl rfl) (fun hg => (fa_el hl.1 (gs hg rfl)).does _) rfl ?_
      refine QL.gg (gwTT rfl rfl) (fun hg => ld_el (gs hg rfl) hl H rfl hj1 rfl) rfl ?_
      refine QL.gg (gwTT rfl rfl) (fun hg => (mvL rfl).does _) rfl ?_
      refine QL.gg (gwTT rfl rfl) (fun hg => (mvI rfl).does _) rfl ?_
      refine QL.gg (gwTT rfl rfl) (fun hg => (ix (gs hg rfl) (gs hg rfl) rfl (by omega)).does _) rfl ?_
      refine QL.gg (gwTT rfl rfl) (fun hg => (fa_el hl.1 (gs hg rfl)).does _) rfl ?_
      refine QL.gg (gwTT rfl rfl) (fun hg => ld_el (gs hg rfl) hl H rfl (by omega) rfl) rfl ?_
      -- call stagecoach/stagecoachref04.Less (tmp 35) (tmp 40)
      refine QL.gcall (gwTT rfl rfl) (fun hg w' hw' => (rLess w' _ _ (by have := (hok (j - 1) hj1 (by omega)).1.1.2.1; omega))) (fun hg => EvL.cons (gs hg rfl) (EvL.cons (gs hg rfl) (EvL.nil))) rfl ?_
      first | refine QL.gg (gwTT rfl rfl) (fun hg => (notD (gs hg rfl)).does _) rfl ?_ | refine QL.gg (gwTT rfl rfl) (fun hg => (not_ (gs hg rfl)).does _) rfl ?_
      refine QL.gg (gwF rfl rfl) (fun hg => (pickAnd (gs hg rfl) (fun hn => gs ⟨hg, hn⟩ rfl)).does _) rfl ?_
      refine QL.r (pickOr rfl (fun hn => gs hn rfl)) rfl ?_
      refine QL.nil ?_; intro w4 hx; replace H := H.ext hx
      refine WP.cond rfl (fun hc => ?_) (fun hc => ?_)
      · refine WP.regionS ?_
        refine RL.r (asgP rfl) rfl ?_
        refine RL.r (asgI rfl) rfl ?_
        refine RL.nil ?_
        refine WP.ret ?_
        refine fin2_ret rfl rfl ⟨⟨none, tupE ?_⟩, H⟩
        unfold topicsE
        rw [if_neg (by omega), if_neg]
        intro h
        obtain ⟨h1, h2⟩ := h j hj
        rcases hc with hc | ⟨hc, hc'⟩
        · exact hc h1
        · exact hc' (h2 (by omega))
      · refine WP.skip ?_
        refine WP.region ?_
        refine RL.r (mvI rfl) rfl ?_
        refine RL.r (add rfl rfl (by omega)) rfl ?_
        refine RL.r (asgI rfl) rfl ?_
        refine RL.nil ?_
        refine ⟨k - 1, by omega, j + 1, by omega, Head.intro (by repeat (first | with_reducible exact AgreeOff.mix _ _ _ | refine AgreeOff.look rfl ?_ | refine AgreeOff.mixs rfl ?_)) ⟨rfl, trivial⟩, H, ?_⟩
        intro i h hi
        by_cases hij : i < j
        · exact hok i h hij
        · obtain rfl : i = j := by omega
          exact ⟨Classical.byContradiction fun h1 => hc (.inl h1), fun h0 => Classical.byContradiction fun h1 => hc (.inr ⟨by omega, h1⟩)⟩
    · refine WP.exit ?_
      refine WP.regionS ?_
      refine RL.build0 (α := Topic) w0.heap.size H.size rfl ?_
      intro w5 i45 hi45 hx hb45
      replace H := H.ext hx; clear hx
      refine RL.r (mvL rfl) rfl ?_
      refine RL.appendS rfl hb45 H.size rfl (hl.ext H) rfl rfl (by decide) rfl cell1 (by simp only [List.length_nil]; omega) (by simp only [List.length_nil, maxLen]; omega) rfl ?_
      intro w6 a47 c47 hu hb47 hfr47
      replace H := Ext.own H hb45 hu; clear hu
      refine RL.r (bld rfl rfl) rfl ?_
      refine RL.boxS w0.heap.size H.size rfl rfl ?_
      intro w7 i49 hi49 hx hb49
      replace H := H.ext hx; clear hx
      refine RL.r (asgP rfl) rfl ?_
      refine RL.r (asgI rfl) rfl ?_
      refine RL.nil ?_
      refine WP.ret ?_
      refine fin2_ret rfl rfl ⟨⟨_, tupE (by unfold topicsE; rw [if_neg (by omega), if_pos (show topicsOk l from fun i h => hok i h (by omega))])⟩, H⟩
theorem pLoad (w0 : World) (a : Option Addr) (c : Nat) (l : List Topic) (hl : Sl w0 a l) :
    Ct Try.prog 75 #[.slice a l.length c] w0 fun v w' => (∃ p, v = .tuple #[.pointer p, .int .i64 (topicsE l)]) ∧ Ext w0 w' := by
  refine Ct.intro2 Try.func75 Try.ntmps75 rfl rfl (by decide) rfl ?_
  have H : Ext w0 w0 := Ext.refl w0
  refine WP.regionS ?_
  refine RL.r (asgP rfl) rfl ?_
  refine RL.r (asgI rfl) rfl ?_
  refine RL.nil ?_
  refine WP.seq ?_
  refine WP.regionS ?_
  refine RL.r (mvL rfl) rfl ?_
  refine RL.r (len_sl rfl) rfl ?_
  refine RL.r (gtr rfl rfl) rfl ?_
  refine RL.nil ?_
  refine WP.cond rfl (fun hc => ?_) (fun hc => ?_)
  · refine WP.regionS ?_
    refine RL.r (asgP rfl) rfl ?_
    refine RL.r (asgI rfl) rfl ?_
    refine RL.nil ?_
    refine WP.ret ?_
    refine fin2_ret rfl rfl ⟨⟨none, tupE (by unfold topicsE; rw [if_pos (by omega)])⟩, H⟩
  · refine WP.skip ?_
    refine WP.regionS ?_
    -- call stagecoach/topics.New 
    refine RL.call (pNew _) rfl rfl ?_
    rintro _ w1 ⟨⟨ic, m, rfl, hbc, hm⟩, hx⟩
    replace hm : MpE Try.prog 9 ByteArray w0.heap.size _ m := ⟨_, hm⟩
    replace H := H.ext hx
    refine RL.r (asgP rfl) rfl ?_
    refine RL.nil ?_
    refine WP.seq ?_
    refine WP.regionS ?_
    refine RL.r (mvL rfl) rfl ?_
    refine RL.r (len_sl rfl) rfl ?_
    refine RL.r (mvI rfl) rfl ?_
    refine RL.nil ?_
    refine WP.block ?_
    refine WP.loop (fun k e' w' => ∃ j : Nat,  j + k = l.length ∧ Head [2, 3, 5, 6, 13, 14, 15, 16, 17, 18, 19, 20, 21, 22, 23, 24, 25, 26, 27, 28, 29, 30, 31, 32, 33, 34, 35, 36, 37, 38, 39, 40, 41, 42, 43, 44, 45, 46, 47] _ [(13, .int .i64 (j : Int))] e' ∧ Ext w0 w' ∧ MpE Try.prog 9 ByteArray w0.heap.size w' m ∧ Box w0.heap.size w' ic 120 [.map (some m)] ∧ (∀ (i : Nat) (h : i < l.length), i < j → topicAt l i h) ) (l.length)
      ⟨0, by omega, Head.intro (AgreeOff.refl _ _) ⟨rfl, trivial⟩, H, hm, hbc, (fun i h hi => by omega)⟩ ?_
    clear H hm hbc
    rintro k e w2 ⟨j, hjk, ⟨jk, rfl⟩, H, hm, hbc, hok⟩
    refine WP.regionS ?_
    refine RL.r (lss rfl rfl) rfl ?_
    refine RL.nil ?_
    refine WP.seq ?_
    refine WP.cond rfl (fun hc => ?_) (fun hc => ?_)
    · refine WP.skip ?_
      refine WP.seq ?_
      refine WP.block ?_
      refine WP.regionS ?_
      refine RL.r (mvI rfl) rfl ?_
      have hj : j < l.length := by omega
      have hj1 : j - 1 < l.length := by omega
      obtain ⟨p, rfl⟩ := hl.isAddr (by decide) hj
      refine RL.r (ix rfl rfl rfl (by omega)) rfl ?_
      refine RL.m (ldS_el rfl hl H rfl rfl (by omega)) rfl ?_
      refine RL.alloc w0.heap.size H.size rfl rfl ?_
      intro w3 i6 hi6 hx hb6
      have nec_6 := hbc.ne hi6
      refine RL.r (asgI rfl) rfl ?_
      refine RL.storeS rfl hb6 rfl rfl rfl rfl ?_
      intro w4 hu hb6
      replace hx := hx.box hu (Nat.le_of_eq hi6.symm)
      replace H := H.ext hx; replace hm := hm.ext hx; replace hbc := hbc.ext hx; clear hx hu
      refine RL.nil ?_
      refine WP.seq ?_
      refine WP.seq ?_
      refine WP.draw (by kernel_rfl) ?_
      refine QL.r (fa_box rfl) rfl ?_
      refine QL.m (ld_box rfl hb6 rfl) rfl ?_
      refine QL.r (fa_box rfl) rfl ?_
      refine QL.m (ld_box rfl hb6 rfl) rfl ?_
      -- call stagecoach/topics.may (tmp 19) (tmp 21)
      refine QL.call (fun w' hw' => (pMay w' _ _)) rfl rfl ?_
      first | refine QL.r (notD rfl) rfl ?_ | refine QL.r (not_ rfl) rfl ?_
      refine QL.r (mvB rfl) rfl ?_
      refine QL.gg (gwF rfl rfl) (fun hg => (mvI rfl).does _) rfl ?_
      refine QL.gg (gwF rfl rfl) (fun hg => (gtr (gs hg rfl) rfl).does _) rfl ?_
      refine QL.gg (gwF rfl rfl) (fun hg => (mvv (gs hg rfl)).does _) rfl ?_
      refine QL.gg (gwTT rfl rfl) (fun hg => (fa_box rfl).does _) rfl ?_
      refine QL.gg (gwTT rfl rfl) (fun hg => ld_box (gs hg rfl) hb6 rfl) rfl ?_
      refine QL.gg (gwTT rfl rfl) (fun hg => (mvL rfl).does _) rfl ?_
      refine QL.gg (gwTT rfl rfl) (fun hg => (mvI rfl).does _) rfl ?_
      refine QL.gg (gwTT rfl rfl) (fun hg => (sub (gs hg rfl) rfl (by omega)).does _) rfl ?_
      refine QL.gg (gwTT rfl rfl) (fun hg => (ix (gs hg rfl) (gs hg rfl) (show ((j : Int) - 1) = ((j - 1 : Nat) : Int) by omega) (by omega)).does _) rfl ?_
      refine QL.gg (gwTT rfl rfl) (fun hg => (fa_el hl.1 (gs hg rfl)).does _) rfl ?_
      refine QL.gg (gwTT rfl rfl) (fun hg => ld_el (gs hg rfl) hl H rfl hj1 rfl) rfl ?_
      refine QL.gg (gwTT rfl rfl) (fun hg => (sleq (gs hg rfl) (gs hg rfl)).does _) rfl ?_
      refine QL.gg (gwF rfl rfl) (fun hg => (pickAnd (gs hg rfl) (fun hn => gs ⟨hg, hn⟩ rfl)).does _) rfl ?_
      refine QL.r (pickOr rfl (fun hn => gs hn rfl)) rfl ?_
      refine QL.nil ?_; intro w6 hx; replace H := H.ext hx; replace hm := hm.ext hx; replace hbc := hbc.ext hx; replace hb6 := hb6.ext hx
      refine WP.cond rfl (fun hc => ?_) (fun hc => ?_)
      · refine WP.regionS ?_
        refine RL.r (asgP rfl) rfl ?_
        refine RL.r (asgI rfl) rfl ?_
        refine RL.nil ?_
        refine WP.ret ?_
        refine fin2_ret rfl rfl ⟨⟨none, tupE ?_⟩, H⟩
        unfold topicsE
        rw [if_neg (by omega), if_neg]
        intro h
        obtain ⟨h1, h2⟩ := h j hj
        rcases hc with hc | ⟨hc, hc'⟩
        · exact hc h1
        · exact hc' (h2 (by omega))
      · refine WP.skip ?_
        refine WP.any ?_
        intro w7 hx; replace H := H.ext hx; replace hm := hm.ext hx; replace hbc := hbc.ext hx; replace hb6 := hb6.ext hx
        refine AL.p 0 (by kernel_rfl) rfl (mvP rfl) rfl ?_
        refine AL.p 1 (by kernel_rfl) rfl (nilck rfl) rfl ?_
        refine AL.p 2 (by kernel_rfl) rfl (fa_box rfl) rfl ?_
        refine AL.p 4 (by kernel_rfl) rfl (fa_box rfl) rfl ?_
        refine AL.p 6 (by kernel_rfl) rfl (fa_box rfl) rfl ?_
        refine AL.m 3 (by kernel_rfl) rfl (ld_box rfl hbc rfl) rfl ?_
        refine AL.m 5 (by kernel_rfl) rfl (ld_box rfl hb6 rfl) rfl ?_
        refine AL.m 7 (by kernel_rfl) rfl (ld_box rfl hb6 rfl) rfl ?_
        refine AL.o 8 (by kernel_rfl) rfl ?_
        have ⟨lm, hlm⟩ := hm
        have hne := hlm.neb hbc
        refine RL.mapUpdate rfl hlm rfl rfl ?_
        intro w8 hu hlm
        replace hm : MpE Try.prog 9 ByteArray w0.heap.size _ m := ⟨_, hlm⟩; replace hbc := hbc.upd hu (fun e => hne e.symm); replace H := H.mp hu hlm.old; clear hu
        refine RL.nil ?_
        refine AL.nil (by kernel_rfl) ?_
        refine WP.region ?_
        refine RL.r (add rfl rfl (by omega)) rfl ?_
        refine RL.r (mvI rfl) rfl ?_
        refine RL.nil ?_
        refine ⟨k - 1, by omega, j + 1, by omega, Head.intro (by repeat (first | with_reducible exact AgreeOff.mix _ _ _ | refine AgreeOff.look rfl ?_ | refine AgreeOff.mixs rfl ?_)) ⟨rfl, trivial⟩, H, hm, hbc, ?_⟩
        intro i h hi
        by_cases hij : i < j
        · exact hok i h hij
        · obtain rfl : i = j := by omega
          exact ⟨Classical.byContradiction fun h1 => hc (.inl h1), fun h0 => Classical.byContradiction fun h1 => hc (.inr ⟨by omega, h1⟩)⟩
    · refine WP.exit ?_
      refine WP.regionS ?_
      refine RL.r (mvP rfl) rfl ?_
      refine RL.r (asgP rfl) rfl ?_
      refine RL.r (asgI rfl) rfl ?_
      refine RL.nil ?_
      refine WP.ret ?_
      refine fin2_ret rfl rfl ⟨⟨_, tupE (by unfold topicsE; rw [if_neg (by omega), if_pos (show topicsOk l from fun i h => hok i h (by omega))])⟩, H⟩
end Go.Proofs.Ytlkpgeopcdhgjaa
