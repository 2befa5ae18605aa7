/-
  TopicsGrow: the plain law and the walk.
-/
import Derived.Test.YtdcckaamepilcaaOpen09
set_option linter.unusedVariables false
namespace Go.Proofs.Ytdcckaamepilcaa
open Go Go.Eng Go.RowKit
abbrev tS : ByteArray := ⟨#[116]⟩
abbrev Sk (k : Int) : List Topic := [⟨tS, k⟩]
theorem t_ok {k : Int} (h1 : 1 ≤ k) (h2 : k ≤ 8) : topicOk ⟨tS, k⟩ := one_ok 116 (by decide) k h1 h2
theorem mk_t {k : Int} (h1 : 1 ≤ k) (h2 : k ≤ 8) : makeC [] ⟨tS, k⟩ = Sk k := (make_ok (S := []) (t := ⟨tS, k⟩) (t_ok h1 h2) rfl (by decide)).2.trans rfl
theorem put_t (k m : Int) : ePut (Sk k) (⟨tS, m⟩ : Topic) = Sk m := by
  unfold ePut
  rw [List.filter_cons_of_neg (by simp only [decide_eq_true_eq]; exact slt_irrefl tS), List.filter_nil, List.filter_cons_of_neg (by simp only [decide_eq_true_eq]; exact slt_irrefl tS), List.filter_nil]
  rfl
theorem gr_no {k m : Int} (h : m < k) : growE (Sk k) ⟨tS, m⟩ = 1 ∧ growC (Sk k) ⟨tS, m⟩ = Sk k := grow_no (eGet_yes rfl) h
theorem gr_yes {k m : Int} (h : ¬ m < k) (h8 : m ≤ 8) : growE (Sk k) ⟨tS, m⟩ = 0 ∧ growC (Sk k) ⟨tS, m⟩ = Sk m := by
  have h1 := grow_yes (S := Sk k) (t := ⟨tS, m⟩) (x := ⟨tS, k⟩) (eGet_yes rfl) (Int.not_lt.1 h) h8
  exact ⟨h1.1, h1.2.trans (put_t k m)⟩
theorem pt_t (k : Int) : partsC (Sk k) [tS] = strip tS 0 k.toNat := by
  show prS [tS] tS k.toNat ++ [] = _
  rw [List.append_nil]
  unfold prS
  rw [if_pos (by simp)]
theorem pt_len {k : Int} (h : 0 ≤ k) : ((partsC (Sk k) [tS]).length : Int) = k := by rw [pt_t, strip_length]; omega
theorem pt_at {k : Int} {G : List Topic} (hG : G = Sk k) {j : Nat} (h : j < (partsC G [tS]).length) : (partsC G [tS])[j].n = (j : Int) ∧ (partsC G [tS])[j].topic = tS := by
  subst hG
  have e : (partsC (Sk k) [tS])[j]? = (strip tS 0 k.toNat)[j]? := by rw [pt_t]
  have hj : j < k.toNat := by rw [pt_t, strip_length] at h; exact h
  rw [List.getElem?_eq_getElem h] at e
  unfold strip at e
  rw [List.getElem?_map, List.getElem?_range' hj] at e
  have e2 := Option.some.inj e
  rw [e2]
  exact ⟨by simp, rfl⟩
set_option maxRecDepth 20000 in
set_option maxHeartbeats 1600000 in
theorem lGrow (w0 : World) (n more : Int) :
    Ct Try.prog 6 #[.int .i64 n, .int .i64 more] w0 fun v w' => v = .bool true ∧ Ext w0 w' := by
  refine Ct.intro1 Try.func6 Try.ntmps6 rfl rfl (by decide) rfl ?_
  have H : Ext w0 w0 := Ext.refl w0
  have hk7 := andv_le 7 (by decide) n
  have hm7 := andv_le 7 (by decide) more
  refine WP.regionS ?_
  refine RL.r (asgB rfl) rfl ?_
  refine RL.nil ?_
  refine WP.regionS ?_
  -- call stagecoach/topics.New 
  refine RL.call (pNew _) rfl rfl ?_
  rintro v w1 ⟨⟨i, m, rfl, hT⟩, hx⟩
  replace H := H.ext hx
  refine RL.r (asgP rfl) rfl ?_
  refine RL.nil ?_
  refine WP.seq ?_
  refine WP.regionS ?_
  refine RL.r (mvP rfl) rfl ?_
  refine RL.r (peqn rfl rfl) rfl ?_
  refine RL.nil ?_
  refine WP.cond rfl (fun hc => ?_) (fun hc => ?_)
  · refine WP.regionS ?_
    refine RL.r (asgB rfl) rfl ?_
    refine RL.nil ?_
    refine WP.ret ?_
    refine fin1_ret rfl ⟨absurd hc (by simp), H⟩
  · refine WP.skip ?_
    refine WP.regionS ?_
    refine RL.r (mvI rfl) rfl ?_
    refine RL.r (andk (K := 7) rfl rfl (by decide)) rfl ?_
    refine RL.r (add rfl rfl (by omega)) rfl ?_
    refine RL.r (mvI rfl) rfl ?_
    refine RL.r (andk (K := 7) rfl rfl (by decide)) rfl ?_
    refine RL.r (add rfl rfl (by omega)) rfl ?_
    refine RL.r (asgI rfl) rfl ?_
    refine RL.r (asgI rfl) rfl ?_
    refine RL.nil ?_
    refine WP.regionS ?_
    refine RL.r (mvP rfl) rfl ?_
    refine RL.r (mvI rfl) rfl ?_
    -- call (*stagecoach/topics.Catalog).Make (tmp 23) (const (string {data:#[116]})) (tmp 24)
    refine RL.call (pMake _ _ i m [] hT tS (1 + ((andv 7 n : Nat) : Int))) rfl rfl ?_
    rintro _ w2 ⟨⟨rfl, hT2⟩, hx⟩
    replace H := H.mp hx hT.old
    rw [mk_t (k := (1 + ((andv 7 n : Nat) : Int))) (by omega) (by omega)] at hT2
    replace hT := hT2; clear hT2
    refine RL.nil ?_
    refine WP.regionS ?_
    refine RL.r (mvP rfl) rfl ?_
    refine RL.buildSlice w0.heap.size H.size rfl rfl rfl rfl rfl ?_
    intro w3 i27 hi27 hx hb27
    replace H := H.ext hx; replace hT := hT.ext hx; clear hx
    -- call (*stagecoach/topics.Catalog).Parts (tmp 26) (tmp 27)
    refine RL.call (pParts _ _ i m (Sk (1 + ((andv 7 n : Nat) : Int))) hT _ 1 [tS] (Box.sl (l := [tS]) hb27) (by decide)) rfl rfl ?_
    rintro v w4 ⟨⟨aP, cP, rfl, hP⟩, hx⟩
    replace H := H.ext hx; replace hT := hT.ext hx
    refine RL.r (asgL rfl) rfl ?_
    refine RL.nil ?_
    refine WP.regionS ?_
    refine RL.r (mvP rfl) rfl ?_
    refine RL.r (mvI rfl) rfl ?_
    -- call (*stagecoach/topics.Catalog).Grow (tmp 29) (const (string {data:#[116]})) (tmp 30)
    refine RL.call (pGrow _ _ i m (Sk (1 + ((andv 7 n : Nat) : Int))) hT tS (1 + ((andv 7 more : Nat) : Int))) rfl rfl ?_
    rintro _ w5 ⟨⟨rfl, hT2⟩, hx⟩
    replace H := H.mp hx hT.old; replace hP := hP.upd hx (fun k hk e => hT.nea hP (e ▸ hk))
    replace hT := hT2; clear hT2
    refine RL.r (asgI rfl) rfl ?_
    refine RL.nil ?_
    refine WP.regionS ?_
    refine RL.r (mvP rfl) rfl ?_
    refine RL.buildSlice w0.heap.size H.size rfl rfl rfl rfl rfl ?_
    intro w6 i33 hi33 hx hb33
    replace H := H.ext hx; replace hT := hT.ext hx; replace hP := hP.ext hx; clear hx
    -- call (*stagecoach/topics.Catalog).Parts (tmp 32) (tmp 33)
    have hs6 := H.size
    refine RL.call (pParts _ _ i m _ hT _ 1 [tS] (Box.sl (l := [tS]) hb33) (by decide)) rfl rfl ?_
    rintro v w7 ⟨⟨aN, cN, rfl, hN⟩, hx⟩
    replace H := H.ext hx; replace hT := hT.ext hx; replace hP := hP.ext hx
    replace hN := hN.mono hs6
    refine RL.r (asgL rfl) rfl ?_
    refine RL.nil ?_
    refine WP.seq ?_
    refine WP.regionS ?_
    refine RL.r (mvI rfl) rfl ?_
    refine RL.r (mvI rfl) rfl ?_
    refine RL.r (lss rfl rfl) rfl ?_
    refine RL.nil ?_
    refine WP.cond rfl (fun hc => ?_) (fun hc => ?_)
    · refine WP.seq (WP.quiet ?_)
      refine QL.r (mvI rfl) rfl ?_
      refine QL.r (eql rfl rfl) rfl ?_
      refine QL.r (mvB rfl) rfl ?_
      refine QL.gg (gwT rfl rfl) (fun hg => (mvL rfl).does _) rfl ?_
      refine QL.gg (gwT rfl rfl) (fun hg => (len_sl (gs hg rfl)).does _) rfl ?_
      refine QL.gg (gwT rfl rfl) (fun hg => (mvI rfl).does _) rfl ?_
      refine QL.gg (gwT rfl rfl) (fun hg => (eql (gs hg rfl) (gs hg rfl)).does _) rfl ?_
      refine QL.r (pickAnd rfl (fun hn => gs hn rfl)) rfl ?_
      refine QL.r (mvB rfl) rfl ?_
      refine QL.gg (gwT rfl rfl) (fun hg => (mvL rfl).does _) rfl ?_
      refine QL.gg (gwT rfl rfl) (fun hg => (len_sl (gs hg rfl)).does _) rfl ?_
      refine QL.gg (gwT rfl rfl) (fun hg => (mvI rfl).does _) rfl ?_
      refine QL.gg (gwT rfl rfl) (fun hg => (eql (gs hg rfl) (gs hg rfl)).does _) rfl ?_
      refine QL.r (pickAnd rfl (fun hn => gs hn rfl)) rfl ?_
      refine QL.r (mvB rfl) rfl ?_
      -- call stagecoach/stagecoachlaw09.fixed 
      refine QL.gcall (gwT rfl rfl) (fun hg w' hw' => lFixedD w') (fun hg => EvL.nil) rfl ?_
      refine QL.r (pickAnd rfl (fun hn => gs hn rfl)) rfl ?_
      refine QL.r (asgB rfl) rfl ?_
      refine QL.nil ?_; intro w9 hx; replace H := H.ext hx; replace hT := hT.ext hx; replace hP := hP.ext hx; replace hN := hN.ext hx
      refine WP.ret ?_
      have hlt : (1 + ((andv 7 more : Nat) : Int)) < (1 + ((andv 7 n : Nat) : Int)) := hc
      have hP1 := pt_len (k := (1 + ((andv 7 n : Nat) : Int))) (by omega)
      refine fin1_ret rfl ⟨congrArg Value.bool (decide_eq_true ⟨⟨⟨(gr_no hlt).1, by rw [(gr_no hlt).2]; exact hP1⟩, hP1⟩, rfl⟩), H⟩
    · refine WP.skip ?_
      refine WP.seq ?_
      refine WP.seq (WP.quiet ?_)
      refine QL.r (mvI rfl) rfl ?_
      refine QL.r (neq rfl rfl) rfl ?_
      refine QL.r (mvB rfl) rfl ?_
      refine QL.gg (gwF rfl rfl) (fun hg => (mvL rfl).does _) rfl ?_
      refine QL.gg (gwF rfl rfl) (fun hg => (len_sl (gs hg rfl)).does _) rfl ?_
      refine QL.gg (gwF rfl rfl) (fun hg => (mvI rfl).does _) rfl ?_
      refine QL.gg (gwF rfl rfl) (fun hg => (neq (gs hg rfl) (gs hg rfl)).does _) rfl ?_
      refine QL.r (pickOr rfl (fun hn => gs hn rfl)) rfl ?_
      refine QL.r (mvB rfl) rfl ?_
      refine QL.gg (gwF rfl rfl) (fun hg => (mvL rfl).does _) rfl ?_
      refine QL.gg (gwF rfl rfl) (fun hg => (len_sl (gs hg rfl)).does _) rfl ?_
      refine QL.gg (gwF rfl rfl) (fun hg => (mvI rfl).does _) rfl ?_
      refine QL.gg (gwF rfl rfl) (fun hg => (neq (gs hg rfl) (gs hg rfl)).does _) rfl ?_
      refine QL.r (pickOr rfl (fun hn => gs hn rfl)) rfl ?_
      refine QL.nil ?_; intro w10 hx; replace H := H.ext hx; replace hT := hT.ext hx; replace hP := hP.ext hx; replace hN := hN.ext hx
      refine WP.cond rfl (fun hc => ?_) (fun hc => ?_)
      · refine WP.regionS ?_
        refine RL.r (asgB rfl) rfl ?_
        refine RL.nil ?_
        refine WP.ret ?_
        have hge : ¬ (1 + ((andv 7 more : Nat) : Int)) < (1 + ((andv 7 n : Nat) : Int)) := by assumption
        have hP1 := pt_len (k := (1 + ((andv 7 n : Nat) : Int))) (by omega)
        have hP2 := pt_len (k := (1 + ((andv 7 more : Nat) : Int))) (by omega)
        refine fin1_ret rfl ⟨?_, H⟩
        exfalso
        rcases hc with (hc | hc) | hc
        · exact hc (gr_yes hge (by omega)).1
        · exact hc (by rw [(gr_yes hge (by omega)).2]; exact hP2)
        · exact hc hP1
      · refine WP.skip ?_
        refine WP.seq ?_
        refine WP.regionS ?_
        refine RL.r (asgI rfl) rfl ?_
        refine RL.nil ?_
        refine WP.block ?_
        have hge : ¬ (1 + ((andv 7 more : Nat) : Int)) < (1 + ((andv 7 n : Nat) : Int)) := by assumption
        have hG := (gr_yes hge (by omega)).2
        have hNl : (partsC (growC (Sk (1 + ((andv 7 n : Nat) : Int))) ⟨tS, (1 + ((andv 7 more : Nat) : Int))⟩) [tS]).length = (1 + ((andv 7 more : Nat) : Int)).toNat := by have := pt_len (k := (1 + ((andv 7 more : Nat) : Int))) (by omega); rw [hG]; omega
        refine WP.loop (fun k e' w' => ∃ j : Nat,  j + k = (1 + ((andv 7 more : Nat) : Int)).toNat ∧ Head [4, 11, 69, 70, 71, 72, 73, 74, 75, 76, 77, 78, 79, 80, 81, 82, 83, 84, 85, 86, 87, 88] _ [(11, .int .i64 (j : Int))] e' ∧ Ext w0 w' ∧ Tc w0.heap.size w' i m (growC (Sk (1 + ((andv 7 n : Nat) : Int))) ⟨tS, (1 + ((andv 7 more : Nat) : Int))⟩) ∧ Eng.Own w0.heap.size w' 48 aN cN (partsC (growC (Sk (1 + ((andv 7 n : Nat) : Int))) ⟨tS, (1 + ((andv 7 more : Nat) : Int))⟩) [tS])) ((1 + ((andv 7 more : Nat) : Int)).toNat)
          ⟨0, by omega, Head.intro (AgreeOff.refl _ _) ⟨rfl, trivial⟩, H, hT, hN⟩ ?_
        clear H hT hP hN
        rintro k e w11 ⟨j, hjk, ⟨jk, rfl⟩, H, hT, hN⟩
        refine WP.seq ?_
        refine WP.regionS ?_
        refine RL.r (mvI rfl) rfl ?_
        refine RL.r (mvI rfl) rfl ?_
        refine RL.r (lss rfl rfl) rfl ?_
        refine RL.nil ?_
        refine WP.cond rfl (fun hc => ?_) (fun hc => ?_)
        · refine WP.skip ?_
          refine WP.seq ?_
          refine WP.block ?_
          refine WP.seq (WP.quiet ?_)
          refine QL.r (mvL rfl) rfl ?_
          refine QL.r (mvI rfl) rfl ?_
          have hj : j < (partsC (growC (Sk (1 + ((andv 7 n : Nat) : Int))) ⟨tS, (1 + ((andv 7 more : Nat) : Int))⟩) [tS]).length := by omega
          have hpa := pt_at hG hj
          have hNs := hN.sl
          obtain ⟨q, hq⟩ := hNs.isAddr (by decide) hj
          subst hq
          refine QL.r (ix rfl rfl rfl hj) rfl ?_
          refine QL.r (fa_el hNs.1 rfl) rfl ?_
          refine QL.m (ld_el rfl hNs (Ext.refl _) rfl hj rfl) rfl ?_
          refine QL.r (mvI rfl) rfl ?_
          refine QL.r (neq rfl rfl) rfl ?_
          refine QL.r (mvB rfl) rfl ?_
          refine QL.gg (gwF rfl rfl) (fun hg => (mvL rfl).does _) rfl ?_
          refine QL.gg (gwF rfl rfl) (fun hg => (mvI rfl).does _) rfl ?_
          refine QL.gg (gwF rfl rfl) (fun hg => (ix (gs hg rfl) (gs hg rfl) rfl hj).does _) rfl ?_
          refine QL.gg (gwF rfl rfl) (fun hg => (fa_el hNs.1 (gs hg rfl)).does _) rfl ?_
          refine QL.gg (gwF rfl rfl) (fun hg => ld_el (gs hg rfl) hNs (Ext.refl _) rfl hj rfl) rfl ?_
          refine QL.gg (gwF rfl rfl) (fun hg => (sneq (gs hg rfl) rfl).does _) rfl ?_
          refine QL.r (pickOr rfl (fun hn => gs hn rfl)) rfl ?_
          refine QL.nil ?_; intro w12 hx; replace H := H.ext hx; replace hT := hT.ext hx; replace hN := hN.ext hx
          refine WP.cond rfl (fun hc => ?_) (fun hc => ?_)
          · refine WP.regionS ?_
            refine RL.r (asgB rfl) rfl ?_
            refine RL.nil ?_
            refine WP.ret ?_
            refine fin1_ret rfl ⟨?_, H⟩
            exfalso
            rcases hc with hc | hc
            · exact hc hpa.1
            · exact hc hpa.2
          · refine WP.skip ?_
            refine WP.region ?_
            refine RL.r (mvI rfl) rfl ?_
            refine RL.r (add rfl rfl (by omega)) rfl ?_
            refine RL.r (asgI rfl) rfl ?_
            refine RL.nil ?_
            refine ⟨k - 1, by omega, j + 1, by omega, Head.intro (by repeat (first | with_reducible exact AgreeOff.mix _ _ _ | refine AgreeOff.look rfl ?_ | refine AgreeOff.mixs rfl ?_)) ⟨rfl, trivial⟩, H, hT, hN⟩
        · refine WP.exit ?_
          refine WP.regionS ?_
          refine RL.r (mvP rfl) rfl ?_
          -- call (*stagecoach/topics.Catalog).List (tmp 90)
          have hs13 := H.size
          refine RL.call (pList _ _ i m _ hT) rfl rfl ?_
          rintro v w13 ⟨⟨aL, cL, rfl, hL⟩, hx⟩
          replace H := H.ext hx; replace hT := hT.ext hx; replace hN := hN.ext hx
          -- call stagecoach/topics.Load (tmp 91)
          refine RL.call (pLoad_ok _ aL cL _ hL.sl (okC_topicsE hT.ok)) rfl rfl ?_
          rintro v w14 ⟨⟨i2, m2, rfl, hU⟩, hx⟩
          replace H := H.ext hx; replace hT := hT.ext hx; replace hN := hN.ext hx; replace hL := hL.ext hx
          refine RL.r (mvU rfl) rfl ?_
          refine RL.r (ex0 rfl) rfl ?_
          refine RL.r (ex1 rfl) rfl ?_
          refine RL.r (asgP rfl) rfl ?_
          refine RL.r (asgI rfl) rfl ?_
          refine RL.nil ?_
          refine WP.regionS ?_
          refine RL.r (mvP rfl) rfl ?_
          refine RL.r (pneqn rfl rfl) rfl ?_
          refine RL.mvT rfl (by simp) rfl ?_
          refine RL.yes rfl rfl rfl ?_
          refine RL.r (mvI rfl) rfl ?_
          refine RL.yes rfl rfl rfl ?_
          refine RL.r (eql rfl rfl) rfl ?_
          refine RL.r (pickT rfl) rfl ?_
          refine RL.mvT rfl (by first | assumption | omega) rfl ?_
          refine RL.yes rfl rfl rfl ?_
          refine RL.r (mvP rfl) rfl ?_
          refine RL.yes rfl rfl rfl ?_
          -- call (*stagecoach/topics.Catalog).List (tmp 102)
          refine RL.call (pList _ _ i2 m2 _ hU) rfl rfl ?_
          rintro v w15 ⟨⟨aA, cA, rfl, hA⟩, hx⟩
          replace H := H.ext hx; replace hT := hT.ext hx; replace hN := hN.ext hx; replace hL := hL.ext hx; replace hU := hU.ext hx
          refine RL.yes rfl rfl rfl ?_
          refine RL.r (mvP rfl) rfl ?_
          refine RL.yes rfl rfl rfl ?_
          -- call (*stagecoach/topics.Catalog).List (tmp 104)
          refine RL.call (pList _ _ i m _ hT) rfl rfl ?_
          rintro v w16 ⟨⟨aB, cB, rfl, hB⟩, hx⟩
          replace H := H.ext hx; replace hT := hT.ext hx; replace hN := hN.ext hx; replace hL := hL.ext hx; replace hU := hU.ext hx; replace hA := hA.ext hx
          refine RL.yes rfl rfl rfl ?_
          -- call stagecoach/stagecoachref09.Same (tmp 103) (tmp 105)
          refine RL.call (rSameT _ aA aB cA cB _ _ hA.sl hB.sl (Nat.le_trans hT.ok.len (by decide))) rfl rfl ?_
          rintro _ w17 ⟨rfl, hx⟩
          replace H := H.ext hx; replace hT := hT.ext hx; replace hN := hN.ext hx; replace hL := hL.ext hx; replace hU := hU.ext hx; replace hA := hA.ext hx
          refine RL.r (pickT rfl) rfl ?_
          refine RL.mvT rfl rfl rfl ?_
          refine RL.yes rfl rfl rfl ?_
          -- call stagecoach/stagecoachlaw09.fixed 
          refine RL.call (lFixed _) rfl rfl ?_
          rintro _ w18 ⟨rfl, hx⟩
          replace H := H.ext hx; replace hT := hT.ext hx; replace hN := hN.ext hx; replace hL := hL.ext hx; replace hU := hU.ext hx; replace hA := hA.ext hx
          refine RL.r (pickT rfl) rfl ?_
          refine RL.r (asgB rfl) rfl ?_
          refine RL.nil ?_
          refine WP.ret ?_
          refine fin1_ret rfl ⟨rfl, H⟩
end Go.Proofs.Ytdcckaamepilcaa
