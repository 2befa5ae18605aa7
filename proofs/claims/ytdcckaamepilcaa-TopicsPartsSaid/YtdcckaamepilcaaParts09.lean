/-
  TopicsParts: the walk.
-/
import Derived.Test.YtdcckaamepilcaaPartsL09
set_option linter.unusedVariables false
namespace Go.Proofs.Ytdcckaamepilcaa
open Go Go.Eng Go.RowKit
set_option maxRecDepth 20000 in
set_option maxHeartbeats 1600000 in
theorem lParts (w0 : World) (a : Option Addr) (c : Nat) (l : List TOp) (name : ByteArray) (hl : SlI w0 a l) :
    Ct Try.prog 4 #[.slice a l.length c, .string name] w0 fun v w' => v = .bool true ∧ Ext w0 w' := by
  refine Ct.intro1 Try.func4 Try.ntmps4 rfl rfl (by decide) rfl ?_
  have H : Ext w0 w0 := Ext.refl w0
  refine WP.regionS ?_
  refine RL.r (asgB rfl) rfl ?_
  refine RL.nil ?_
  refine WP.regionS ?_
  -- call stagecoach/topics.New 
  refine RL.call (pNew _) rfl rfl ?_
  rintro v w1 ⟨⟨i, m, rfl, hT⟩, hx⟩
  replace H := H.ext hx
  refine RL.r (asgP rfl) rfl ?_
  refine RL.nil ?_
  refine WP.seq ?_
  refine WP.regionS ?_
  refine RL.r (mvP rfl) rfl ?_
  refine RL.r (peqn rfl rfl) rfl ?_
  refine RL.nil ?_
  refine WP.cond rfl (fun hc => ?_) (fun hc => ?_)
  · refine WP.regionS ?_
    refine RL.r (asgB rfl) rfl ?_
    refine RL.nil ?_
    refine WP.ret ?_
    refine fin1_ret rfl ⟨absurd hc (by simp), H⟩
  · refine WP.skip ?_
    refine WP.seq ?_
    refine WP.regionS ?_
    refine RL.r (asgI rfl) rfl ?_
    refine RL.nil ?_
    refine WP.block ?_
    refine WP.loop (fun k e' w' => ∃ j : Nat, ∃ S : List Topic,  j + k = min l.length 60 ∧ Head [6, 18, 19, 20, 21, 22, 23, 24, 25, 26, 27, 28, 29, 30, 31, 32, 33, 34, 35, 36, 37, 38, 39, 40] _ [(6, .int .i64 (j : Int))] e' ∧ Ext w0 w' ∧ Tc w0.heap.size w' i m S) (min l.length 60)
      ⟨0, [], by omega, Head.intro (AgreeOff.refl _ _) ⟨rfl, trivial⟩, H, hT⟩ ?_
    clear H hT
    rintro k e w2 ⟨j, S, hjk, ⟨jk, rfl⟩, H, hT⟩
    refine WP.seq ?_
    refine WP.seq (WP.quiet ?_)
    refine QL.r (mvI rfl) rfl ?_
    refine QL.r (mvL rfl) rfl ?_
    refine QL.r (len_sl rfl) rfl ?_
    refine QL.r (lss rfl rfl) rfl ?_
    refine QL.r (mvB rfl) rfl ?_
    refine QL.gg (gwT rfl rfl) (fun hg => (mvI rfl).does _) rfl ?_
    refine QL.gg (gwT rfl rfl) (fun hg => (lss (gs hg rfl) rfl).does _) rfl ?_
    refine QL.r (pickAnd rfl (fun hn => gs hn rfl)) rfl ?_
    refine QL.nil ?_; intro w3 hx; replace H := H.ext hx; replace hT := hT.ext hx
    refine WP.cond rfl (fun hc => ?_) (fun hc => ?_)
    · refine WP.skip ?_
      refine WP.seq ?_
      refine WP.block ?_
      refine WP.any ?_
      intro w4 hx; replace H := H.ext hx; replace hT := hT.ext hx
      refine AL.quiet 12 [11, 10, 9, 8, 7, 6, 5, 4, 3, 2, 1, 0] (by kernel_rfl) (by kernel_rfl) (by kernel_rfl) ?_
      refine QL.r (mvP rfl) rfl ?_
      refine QL.r (mvL rfl) rfl ?_
      refine QL.r (mvI rfl) rfl ?_
      have hj : j < l.length := by omega
      have hl := hl (List.ne_nil_of_length_pos (by omega))
      obtain ⟨p, rfl⟩ := hl.isAddr (by decide) hj
      refine QL.r (ix rfl rfl rfl hj) rfl ?_
      refine QL.r (fa_el hl.1 rfl) rfl ?_
      refine QL.m (ld_el rfl hl H rfl hj rfl) rfl ?_
      -- call stagecoach/stagecoachlaw09.cut (tmp 33)
      refine QL.call (fun w' hw' => lCut w' l[j].name) rfl rfl ?_
      refine QL.r (mvL rfl) rfl ?_
      refine QL.r (mvI rfl) rfl ?_
      refine QL.r (ix rfl rfl rfl hj) rfl ?_
      refine QL.r (fa_el hl.1 rfl) rfl ?_
      refine QL.m (ld_el rfl hl H rfl hj rfl) rfl ?_
      refine QL.nil ?_; intro w6 hx; replace H := H.ext hx; replace hT := hT.ext hx
      refine AL.o 12 (by kernel_rfl) rfl ?_
      -- call (*stagecoach/topics.Catalog).Make (tmp 28) (tmp 34) (tmp 39)
      refine RL.call (pMake _ _ i m S hT (l[j].name.extract 0 (min l[j].name.size 40)) l[j].n) rfl rfl ?_
      rintro _ w7 ⟨⟨rfl, hT2⟩, hx⟩
      replace H := H.mp hx hT.old
      replace hT := hT2; clear hT2
      refine RL.nil ?_
      refine AL.nil (by kernel_rfl) ?_
      refine WP.region ?_
      refine RL.r (mvI rfl) rfl ?_
      refine RL.r (add rfl rfl (by omega)) rfl ?_
      refine RL.r (asgI rfl) rfl ?_
      refine RL.nil ?_
      refine ⟨k - 1, by omega, j + 1, makeC S ⟨(l[j].name.extract 0 (min l[j].name.size 40)), l[j].n⟩, by omega, Head.intro (by repeat (first | with_reducible exact AgreeOff.mix _ _ _ | refine AgreeOff.look rfl ?_ | refine AgreeOff.mixs rfl ?_)) ⟨rfl, trivial⟩, H, hT⟩
    · refine WP.exit ?_
      refine WP.regionS ?_
      refine RL.r (mvP rfl) rfl ?_
      -- call (*stagecoach/topics.Catalog).List (tmp 41)
      have hok := hT.ok
      have hle8 := hok.len
      have hs7 := H.size
      refine RL.call (pList _ _ i m S hT) rfl rfl ?_
      rintro v w8 ⟨⟨aL, cL, rfl, hL⟩, hx⟩
      replace H := H.ext hx; replace hT := hT.ext hx
      replace hL := hL.mono hs7
      refine RL.build0 (α := ByteArray) w0.heap.size H.size rfl ?_
      intro w9 i43 hi43 hx hb43
      replace H := H.ext hx; replace hT := hT.ext hx; replace hL := hL.ext hx; clear hx
      have hN := hb43
      refine RL.r (asgL rfl) rfl ?_
      refine RL.r (asgL rfl) rfl ?_
      refine RL.r (asgI rfl) rfl ?_
      refine RL.nil ?_
      refine WP.seq ?_
      refine WP.regionS ?_
      refine RL.r (asgI rfl) rfl ?_
      refine RL.nil ?_
      refine WP.block ?_
      refine WP.loop (fun k1 e' w' => ∃ j1 : Nat, ∃ (a8 : Option Addr) (c8_ : Nat) (N8 : List ByteArray),  j1 + k1 = S.length ∧ Head [8, 9, 10, 44, 45, 46, 47, 48, 49, 50, 51, 52, 53, 54, 55, 56, 57, 58, 59, 60, 61, 62, 63, 64] _ [(8, .slice a8 N8.length c8_), (9, .int .i64 (sumN S j1)), (10, .int .i64 (j1 : Int))] e' ∧ Ext w0 w' ∧ Tc w0.heap.size w' i m S ∧ Eng.Own w0.heap.size w' 25 aL cL S ∧ Eng.Own w0.heap.size w' 9 a8 c8_ N8 ∧ N8 = (S.take j1).map key) (S.length)
        ⟨0, _, _, [], by omega, Head.intro (AgreeOff.refl _ _) ⟨rfl, rfl, rfl, trivial⟩, H, hT, hL, hN, rfl⟩ ?_
      clear H hT hL hN
      rintro k1 e w10 ⟨j1, a8, c8_, N8, hjk1, ⟨jk1, rfl⟩, H, hT, hL, hN, hN8⟩
      have hsb := sumN_b hok.may j1 (by omega)
      have hN8l : N8.length ≤ 8 := by rw [hN8, List.length_map, List.length_take]; omega
      refine WP.seq ?_
      refine WP.regionS ?_
      refine RL.r (mvI rfl) rfl ?_
      refine RL.r (mvL rfl) rfl ?_
      refine RL.r (len_sl rfl) rfl ?_
      refine RL.r (lss rfl rfl) rfl ?_
      refine RL.nil ?_
      refine WP.cond rfl (fun hc => ?_) (fun hc => ?_)
      · refine WP.skip ?_
        refine WP.seq ?_
        refine WP.block ?_
        refine WP.regionS ?_
        refine RL.r (mvL rfl) rfl ?_
        refine RL.r (mvL rfl) rfl ?_
        refine RL.r (mvI rfl) rfl ?_
        have hj1 : j1 < S.length := by omega
        have hn8 := (hok.may _ (List.getElem_mem hj1)).2
        have hLs := hL.sl
        obtain ⟨q1, hq1⟩ := hLs.isAddr (by decide) hj1
        subst hq1
        refine RL.r (ix rfl rfl rfl hj1) rfl ?_
        refine RL.r (fa_el hLs.1 rfl) rfl ?_
        refine RL.m (ld_el rfl hLs (Ext.refl _) rfl hj1 rfl) rfl ?_
        refine RL.buildSlice w0.heap.size H.size rfl rfl rfl rfl rfl ?_
        intro w11 i56 hi56 hx hb56
        replace H := H.ext hx; replace hT := hT.ext hx; replace hL := hL.ext hx; replace hN := hN.ext hx; clear hx
        refine RL.appendS rfl hN H.size rfl (show Sl _ _ [S[j1].name] from Box.sl1 hb56) rfl rfl (by decide) rfl cell1 (by omega) (by simp only [maxLen]; omega) rfl ?_
        intro w12 a57 c57 hu hb57 hfr57
        replace hT := hT.ow hN (by decide) hu
        replace hL := hL.upd hu (fun y hy => hL.apart hN (by decide) hy)
        replace H := Ext.own H hN hu; clear hu
        refine RL.r (asgL rfl) rfl ?_
        refine RL.nil ?_
        refine WP.region ?_
        refine RL.r (mvI rfl) rfl ?_
        refine RL.r (mvL rfl) rfl ?_
        refine RL.r (mvI rfl) rfl ?_
        refine RL.r (ix rfl rfl rfl hj1) rfl ?_
        refine RL.r (fa_el hL.sl.1 rfl) rfl ?_
        refine RL.m (ld_el rfl hL.sl (Ext.refl _) rfl hj1 rfl) rfl ?_
        refine RL.r (add rfl rfl (by omega)) rfl ?_
        refine RL.r (asgI rfl) rfl ?_
        refine RL.nil ?_
        refine WP.region ?_
        refine RL.r (mvI rfl) rfl ?_
        refine RL.r (add rfl rfl (by omega)) rfl ?_
        refine RL.r (asgI rfl) rfl ?_
        refine RL.nil ?_
        refine ⟨k1 - 1, by omega, j1 + 1, _, _, _, by omega, Head.intro (by repeat (first | with_reducible exact AgreeOff.mix _ _ _ | refine AgreeOff.look rfl ?_ | refine AgreeOff.mixs rfl ?_)) ⟨rfl, intE (sumN_s hj1).symm, rfl, trivial⟩, H, hT, hL, hb57, by rw [hN8, List.take_succ_eq_append_getElem hj1, List.map_append]; rfl⟩
      · refine WP.exit ?_
        refine WP.regionS ?_
        refine RL.r (mvP rfl) rfl ?_
        refine RL.r (mvL rfl) rfl ?_
        -- call (*stagecoach/topics.Catalog).Parts (tmp 65) (tmp 66)
        have hjS : j1 = S.length := by omega
        have hall : (partsC S N8) = allP S := parts_all fun x hx => by rw [hN8, hjS, List.take_length]; exact List.mem_map_of_mem hx
        have hlenP : ((partsC S N8).length : Int) = sumN S j1 := by rw [hall, hjS]; exact allP_len hok.may
        have hlenO : ((partsC S [(name.extract 0 (min name.size 40))]).length : Int) = nC S (name.extract 0 (min name.size 40)) := by rw [parts_one hok, strip_length]; have := nC_nn hok (name.extract 0 (min name.size 40)); omega
        have hs12 := H.size
        refine RL.call (pParts _ _ i m S hT a8 c8_ N8 hN.sl (by omega)) rfl rfl ?_
        rintro v w13 ⟨⟨aP, cP, rfl, hP⟩, hx⟩
        replace H := H.ext hx; replace hT := hT.ext hx; replace hL := hL.ext hx; replace hN := hN.ext hx
        replace hP := hP.mono hs12
        refine RL.r (asgL rfl) rfl ?_
        refine RL.nil ?_
        refine WP.regionS ?_
        refine RL.r (mvP rfl) rfl ?_
        refine RL.r (mvS rfl) rfl ?_
        -- call stagecoach/stagecoachlaw09.cut (tmp 69)
        refine RL.call (lCut _ name) rfl rfl ?_
        rintro _ w14 ⟨rfl, hx⟩
        replace H := H.ext hx; replace hT := hT.ext hx; replace hL := hL.ext hx; replace hN := hN.ext hx; replace hP := hP.ext hx
        refine RL.buildSlice w0.heap.size H.size rfl rfl rfl rfl rfl ?_
        intro w15 i71 hi71 hx hb71
        replace H := H.ext hx; replace hT := hT.ext hx; replace hL := hL.ext hx; replace hN := hN.ext hx; replace hP := hP.ext hx; clear hx
        -- call (*stagecoach/topics.Catalog).Parts (tmp 68) (tmp 71)
        have hs15 := H.size
        refine RL.call (pParts _ _ i m S hT _ 1 [(name.extract 0 (min name.size 40))] (Box.sl (l := [(name.extract 0 (min name.size 40))]) hb71) (by simp)) rfl rfl ?_
        rintro v w16 ⟨⟨aO, cO, rfl, hO⟩, hx⟩
        replace H := H.ext hx; replace hT := hT.ext hx; replace hL := hL.ext hx; replace hN := hN.ext hx; replace hP := hP.ext hx
        replace hO := hO.mono hs15
        refine RL.r (asgL rfl) rfl ?_
        refine RL.nil ?_
        refine WP.seq ?_
        refine WP.regionS ?_
        refine RL.r (mvL rfl) rfl ?_
        refine RL.r (len_sl rfl) rfl ?_
        refine RL.r (mvI rfl) rfl ?_
        refine RL.r (neq rfl rfl) rfl ?_
        refine RL.mvF rfl (not_not_intro hlenP) rfl ?_
        refine RL.yes rfl rfl rfl ?_
        refine RL.r (mvL rfl) rfl ?_
        refine RL.yes rfl rfl rfl ?_
        refine RL.r (len_sl rfl) rfl ?_
        refine RL.yes rfl rfl rfl ?_
        refine RL.r (mvP rfl) rfl ?_
        refine RL.yes rfl rfl rfl ?_
        refine RL.r (mvS rfl) rfl ?_
        refine RL.yes rfl rfl rfl ?_
        -- call stagecoach/stagecoachlaw09.cut (tmp 81)
        refine RL.call (lCut _ name) rfl rfl ?_
        rintro _ w17 ⟨rfl, hx⟩
        replace H := H.ext hx; replace hT := hT.ext hx; replace hL := hL.ext hx; replace hN := hN.ext hx; replace hP := hP.ext hx; replace hO := hO.ext hx
        refine RL.yes rfl rfl rfl ?_
        -- call (*stagecoach/topics.Catalog).N (tmp 80) (tmp 82)
        refine RL.call (pN _ _ i m S hT (name.extract 0 (min name.size 40))) rfl rfl ?_
        rintro _ w18 ⟨rfl, hx⟩
        replace H := H.ext hx; replace hT := hT.ext hx; replace hL := hL.ext hx; replace hN := hN.ext hx; replace hP := hP.ext hx; replace hO := hO.ext hx
        refine RL.yes rfl rfl rfl ?_
        refine RL.r (neq rfl rfl) rfl ?_
        refine RL.r (pickF rfl) rfl ?_
        refine RL.mvF rfl (not_not_intro hlenO) rfl ?_
        refine RL.yes rfl rfl rfl ?_
        refine RL.r (mvP rfl) rfl ?_
        refine RL.yes rfl rfl rfl ?_
        -- call (*stagecoach/topics.Catalog).Parts (tmp 87) (const (slice none 0 0))
        refine RL.call (pParts _ _ i m S hT none 0 [] rfl (by decide)) rfl rfl ?_
        rintro v w19 ⟨⟨aZ, cZ, rfl, _⟩, hx⟩
        replace H := H.ext hx; replace hT := hT.ext hx; replace hL := hL.ext hx; replace hN := hN.ext hx; replace hP := hP.ext hx; replace hO := hO.ext hx
        refine RL.yes rfl rfl rfl ?_
        refine RL.r (len_sl rfl) rfl ?_
        refine RL.yes rfl rfl rfl ?_
        refine RL.r (neq rfl rfl) rfl ?_
        refine RL.r (pickF rfl) rfl ?_
        refine RL.nil ?_
        refine WP.cond rfl (fun hc => ?_) (fun hc => ?_)
        · refine WP.regionS ?_
          refine RL.r (asgB rfl) rfl ?_
          refine RL.nil ?_
          refine WP.ret ?_
          refine fin1_ret rfl ⟨absurd (by rw [parts_nil]; rfl) hc, H⟩
        · refine WP.skip ?_
          refine WP.seq ?_
          refine WP.regionS ?_
          refine RL.r (asgI rfl) rfl ?_
          refine RL.nil ?_
          refine WP.block ?_
          have hPl : (partsC S N8).length ≤ 64 := by have := sumN_b hok.may j1 (by omega); omega
          have hOl : (partsC S [(name.extract 0 (min name.size 40))]).length ≤ 64 := by have h := parts_one hok (name.extract 0 (min name.size 40)); rw [h, strip_length]; unfold nC; cases he : eGet S (name.extract 0 (min name.size 40)) with
            | none => simp
            | some x => have := (hok.may x (eGet_some he).1).2.2; show x.n.toNat ≤ 64; omega
          refine WP.loop (fun k2 e' w' => ∃ j2 : Nat,  j2 + k2 = (partsC S N8).length ∧ Head [4, 13, 92, 93, 94, 95, 96, 97, 98, 99, 100, 101, 102, 103, 104, 105, 106, 107, 108, 109, 110, 111, 112, 113, 114, 115, 116, 117, 118, 119, 120, 121, 122, 123, 124, 125, 126, 127, 128, 129, 130, 131, 132, 133, 134, 135, 136, 137, 138, 139, 140, 141, 142, 143, 144, 145, 146, 147, 148, 149, 150, 151, 152] _ [(13, .int .i64 (j2 : Int))] e' ∧ Ext w0 w' ∧ Tc w0.heap.size w' i m S ∧ Eng.Own w0.heap.size w' 48 aP cP (partsC S N8) ∧ Eng.Own w0.heap.size w' 48 aO cO (partsC S [(name.extract 0 (min name.size 40))])) ((partsC S N8).length)
            ⟨0, by omega, Head.intro (AgreeOff.refl _ _) ⟨rfl, trivial⟩, H, hT, hP, hO⟩ ?_
          clear H hT hL hN hP hO
          rintro k2 e w20 ⟨j2, hjk2, ⟨jk2, rfl⟩, H, hT, hP, hO⟩
          refine WP.seq ?_
          refine WP.regionS ?_
          refine RL.r (mvI rfl) rfl ?_
          refine RL.r (mvL rfl) rfl ?_
          refine RL.r (len_sl rfl) rfl ?_
          refine RL.r (lss rfl rfl) rfl ?_
          refine RL.nil ?_
          refine WP.cond rfl (fun hc => ?_) (fun hc => ?_)
          · refine WP.skip ?_
            refine WP.seq ?_
            refine WP.block ?_
            refine WP.seq ?_
            refine WP.draw (by kernel_rfl) ?_
            refine QL.r (mvP rfl) rfl ?_
            refine QL.r (mvL rfl) rfl ?_
            refine QL.r (mvI rfl) rfl ?_
            have hj2 : j2 < (partsC S N8).length := by omega
            have hmem : (partsC S N8)[j2] ∈ allP S := by rw [← hall]; exact List.getElem_mem hj2
            have hhas := allP_has hok hmem
            have hj21 : j2 - 1 < (partsC S N8).length := by omega
            have hmem1 : ((partsC S N8)[j2 - 1]'hj21) ∈ allP S := by rw [← hall]; exact List.getElem_mem hj21
            have hnb : ((partsC S N8)[j2 - 1]'hj21).n ≤ 8 ∧ 0 ≤ ((partsC S N8)[j2 - 1]'hj21).n ∧ ((partsC S N8)[j2 - 1]'hj21).topic.size ≤ 40 := by
              obtain ⟨x, hx, h1, h2, h3⟩ := allP_mem hmem1
              have h4 := hok.may x hx
              exact ⟨by have := h4.2.2; omega, h2, by rw [h1]; have := h4.1.2.1; omega⟩
            have hnext : 0 < j2 → nextP ((partsC S N8)[j2 - 1]'hj21) (partsC S N8)[j2] := by
              intro h0
              have h := allP_next hok.srt (j2 - 1) (by rw [← hall]; omega)
              have e : j2 - 1 + 1 = j2 := by omega
              simp only [e, ← hall] at h
              exact h
            have hCH := fun (w' : World) (hw' : Ext _ w') => pHas w' _ i m S (hT.ext hw') (partsC S N8)[j2]
            have hCL := fun (w' : World) => rLess w' ((partsC S N8)[j2 - 1]'hj21).topic (partsC S N8)[j2].topic (Nat.le_trans hnb.2.2 (by decide))
            have hPs := hP.sl
            obtain ⟨q2, hq2⟩ := hPs.isAddr (by decide) hj2
            subst hq2
            refine QL.r (ix rfl rfl rfl hj2) rfl ?_
            refine QL.m (ldS_el rfl hPs (Ext.refl _) rfl rfl hj2) rfl ?_
            -- call (*stagecoach/topics.Catalog).Has (tmp 98) (tmp 102)
            refine QL.call (fun w' hw' => hCH w' hw') rfl rfl ?_
            first | refine QL.r (notD rfl) rfl ?_ | refine QL.r (not_ rfl) rfl ?_
            refine QL.r (mvB rfl) rfl ?_
            refine QL.gg (gwF rfl rfl) (fun hg => (mvI rfl).does _) rfl ?_
            refine QL.gg (gwF rfl rfl) (fun hg => (gtr (gs hg rfl) rfl).does _) rfl ?_
            refine QL.gg (gwF rfl rfl) (fun hg => (mvv (gs hg rfl)).does _) rfl ?_
            refine QL.gg (gwTT rfl rfl) (fun hg => (mvL rfl).does _) rfl ?_
            refine QL.gg (gwTT rfl rfl) (fun hg => (mvI rfl).does _) rfl ?_
            refine QL.gg (gwTT rfl rfl) (fun hg => (sub (gs hg rfl) rfl (by omega)).does _) rfl ?_
            refine QL.gg (gwTT rfl rfl) (fun hg => (ix (gs hg rfl) (gs hg rfl) (show ((j2 : Int) - 1) = ((j2 - 1 : Nat) : Int) by omega) hj21).does _) rfl ?_
            refine QL.gg (gwTT rfl rfl) (fun hg => (fa_el hPs.1 (gs hg rfl)).does _) rfl ?_
            refine QL.gg (gwTT rfl rfl) (fun hg => ld_el (gs hg rfl) hPs (Ext.refl _) rfl hj21 rfl) rfl ?_
            refine QL.gg (gwTT rfl rfl) (fun hg => (mvL rfl).does _) rfl ?_
            refine QL.gg (gwTT rfl rfl) (fun hg => (mvI rfl).does _) rfl ?_
            refine QL.gg (gwTT rfl rfl) (fun hg => (ix (gs hg rfl) (gs hg rfl) rfl hj2).does _) rfl ?_
            refine QL.gg (gwTT rfl rfl) (fun hg => (fa_el hPs.1 (gs hg rfl)).does _) rfl ?_
            refine QL.gg (gwTT rfl rfl) (fun hg => ld_el (gs hg rfl) hPs (Ext.refl _) rfl hj2 rfl) rfl ?_
            -- call stagecoach/stagecoachref04.Less (tmp 114) (tmp 119)
            refine QL.gcall (gwTT rfl rfl) (fun hg w' hw' => hCL w') (fun hg => EvL.cons (gs hg rfl) (EvL.cons (gs hg rfl) (EvL.nil))) rfl ?_
            first | refine QL.gg (gwTT rfl rfl) (fun hg => (notD (gs hg rfl)).does _) rfl ?_ | refine QL.gg (gwTT rfl rfl) (fun hg => (not_ (gs hg rfl)).does _) rfl ?_
            refine QL.gg (gwF rfl rfl) (fun hg => (pickAnd (gs hg rfl) (fun hn => gs ⟨hg, hn⟩ rfl)).does _) rfl ?_
            refine QL.gg (gwF rfl rfl) (fun hg => (mvv (gs hg rfl)).does _) rfl ?_
            refine QL.gg (gwTT rfl rfl) (fun hg => (mvL rfl).does _) rfl ?_
            refine QL.gg (gwTT rfl rfl) (fun hg => (mvI rfl).does _) rfl ?_
            refine QL.gg (gwTT rfl rfl) (fun hg => (sub (gs hg rfl) rfl (by omega)).does _) rfl ?_
            refine QL.gg (gwTT rfl rfl) (fun hg => (ix (gs hg rfl) (gs hg rfl) (show ((j2 : Int) - 1) = ((j2 - 1 : Nat) : Int) by omega) hj21).does _) rfl ?_
            refine QL.gg (gwTT rfl rfl) (fun hg => (fa_el hPs.1 (gs hg rfl)).does _) rfl ?_
            refine QL.gg (gwTT rfl rfl) (fun hg => ld_el (gs hg rfl) hPs (Ext.refl _) rfl hj21 rfl) rfl ?_
            refine QL.gg (gwTT rfl rfl) (fun hg => (mvL rfl).does _) rfl ?_
            refine QL.gg (gwTT rfl rfl) (fun hg => (mvI rfl).does _) rfl ?_
            refine QL.gg (gwTT rfl rfl) (fun hg => (ix (gs hg rfl) (gs hg rfl) rfl hj2).does _) rfl ?_
            refine QL.gg (gwTT rfl rfl) (fun hg => (fa_el hPs.1 (gs hg rfl)).does _) rfl ?_
            refine QL.gg (gwTT rfl rfl) (fun hg => ld_el (gs hg rfl) hPs (Ext.refl _) rfl hj2 rfl) rfl ?_
            refine QL.gg (gwTT rfl rfl) (fun hg => (sneq (gs hg rfl) (gs hg rfl)).does _) rfl ?_
            refine QL.gg (gwTT rfl rfl) (fun hg => (mvv (gs hg rfl)).does _) rfl ?_
            refine QL.gg (gwTF rfl rfl) (fun hg => (mvL rfl).does _) rfl ?_
            refine QL.gg (gwTF rfl rfl) (fun hg => (mvI rfl).does _) rfl ?_
            refine QL.gg (gwTF rfl rfl) (fun hg => (ix (gs hg rfl) (gs hg rfl) rfl hj2).does _) rfl ?_
            refine QL.gg (gwTF rfl rfl) (fun hg => (fa_el hPs.1 (gs hg rfl)).does _) rfl ?_
            refine QL.gg (gwTF rfl rfl) (fun hg => ld_el (gs hg rfl) hPs (Ext.refl _) rfl hj2 rfl) rfl ?_
            refine QL.gg (gwTF rfl rfl) (fun hg => (mvL rfl).does _) rfl ?_
            refine QL.gg (gwTF rfl rfl) (fun hg => (mvI rfl).does _) rfl ?_
            refine QL.gg (gwTF rfl rfl) (fun hg => (sub (gs hg rfl) rfl (by omega)).does _) rfl ?_
            refine QL.gg (gwTF rfl rfl) (fun hg => (ix (gs hg rfl) (gs hg rfl) (show ((j2 : Int) - 1) = ((j2 - 1 : Nat) : Int) by omega) hj21).does _) rfl ?_
            refine QL.gg (gwTF rfl rfl) (fun hg => (fa_el hPs.1 (gs hg rfl)).does _) rfl ?_
            refine QL.gg (gwTF rfl rfl) (fun hg => ld_el (gs hg rfl) hPs (Ext.refl _) rfl hj21 rfl) rfl ?_
            refine QL.gg (gwTF rfl rfl) (fun hg => (add (gs hg rfl) rfl (by omega)).does _) rfl ?_
            refine QL.gg (gwTF rfl rfl) (fun hg => (neq (gs hg rfl) (gs hg rfl)).does _) rfl ?_
            refine QL.gg (gwTT rfl rfl) (fun hg => (pickOr (gs hg rfl) (fun hn => gs ⟨hg, hn⟩ rfl)).does _) rfl ?_
            refine QL.gg (gwF rfl rfl) (fun hg => (pickAnd (gs hg rfl) (fun hn => gs ⟨hg, hn⟩ rfl)).does _) rfl ?_
            refine QL.r (pickOr rfl (fun hn => gs hn rfl)) rfl ?_
            refine QL.nil ?_; intro w23 hx; replace H := H.ext hx; replace hT := hT.ext hx; replace hP := hP.ext hx; replace hO := hO.ext hx
            refine WP.cond rfl (fun hc => ?_) (fun hc => ?_)
            · refine WP.regionS ?_
              refine RL.r (asgB rfl) rfl ?_
              refine RL.nil ?_
              refine WP.ret ?_
              refine fin1_ret rfl ⟨?_, H⟩
              exfalso
              rcases hc with hc | ⟨⟨h0, h1⟩, h2⟩
              · exact hc hhas
              · rcases hnext (by omega) with h3 | ⟨h3, h4⟩
                · exact h1 h3
                · rcases h2 with h2 | h2
                  · exact h2 h3
                  · exact h2 h4
            · refine WP.skip ?_
              refine WP.region ?_
              refine RL.r (mvI rfl) rfl ?_
              refine RL.r (add rfl rfl (by omega)) rfl ?_
              refine RL.r (asgI rfl) rfl ?_
              refine RL.nil ?_
              refine ⟨k2 - 1, by omega, j2 + 1, by omega, Head.intro (by repeat (first | with_reducible exact AgreeOff.mix _ _ _ | refine AgreeOff.look rfl ?_ | refine AgreeOff.mixs rfl ?_)) ⟨rfl, trivial⟩, H, hT, hP, hO⟩
          · refine WP.exit ?_
            refine WP.seq ?_
            refine WP.regionS ?_
            refine RL.r (asgI rfl) rfl ?_
            refine RL.nil ?_
            refine WP.block ?_
            refine WP.loop (fun k3 e' w' => ∃ j3 : Nat,  j3 + k3 = (partsC S [(name.extract 0 (min name.size 40))]).length ∧ Head [4, 14, 153, 154, 155, 156, 157, 158, 159, 160, 161, 162, 163, 164, 165, 166, 167, 168, 169, 170, 171, 172, 173, 174, 175] _ [(14, .int .i64 (j3 : Int))] e' ∧ Ext w0 w' ∧ Tc w0.heap.size w' i m S ∧ Eng.Own w0.heap.size w' 48 aP cP (partsC S N8) ∧ Eng.Own w0.heap.size w' 48 aO cO (partsC S [(name.extract 0 (min name.size 40))])) ((partsC S [(name.extract 0 (min name.size 40))]).length)
              ⟨0, by omega, Head.intro (AgreeOff.refl _ _) ⟨rfl, trivial⟩, H, hT, hP, hO⟩ ?_
            clear H hT hP hO
            rintro k3 e w24 ⟨j3, hjk3, ⟨jk3, rfl⟩, H, hT, hP, hO⟩
            refine WP.seq ?_
            refine WP.regionS ?_
            refine RL.r (mvI rfl) rfl ?_
            refine RL.r (mvL rfl) rfl ?_
            refine RL.r (len_sl rfl) rfl ?_
            refine RL.r (lss rfl rfl) rfl ?_
            refine RL.nil ?_
            refine WP.cond rfl (fun hc => ?_) (fun hc => ?_)
            · refine WP.skip ?_
              refine WP.seq ?_
              refine WP.block ?_
              refine WP.seq ?_
              refine WP.draw (by kernel_rfl) ?_
              refine QL.r (mvL rfl) rfl ?_
              refine QL.r (mvI rfl) rfl ?_
              have hj3 : j3 < (partsC S [(name.extract 0 (min name.size 40))]).length := by omega
              have hone : (partsC S [(name.extract 0 (min name.size 40))])[j3] = ⟨(name.extract 0 (min name.size 40)), (j3 : Int)⟩ := by
                have e : (partsC S [(name.extract 0 (min name.size 40))])[j3]? = (strip (name.extract 0 (min name.size 40)) 0 (nC S (name.extract 0 (min name.size 40))).toNat)[j3]? := by rw [parts_one hok]
                have h5 : j3 < (strip (name.extract 0 (min name.size 40)) 0 (nC S (name.extract 0 (min name.size 40))).toNat).length := by rw [← parts_one hok]; exact hj3
                rw [List.getElem?_eq_getElem hj3, List.getElem?_eq_getElem h5] at e
                exact (Option.some.inj e).trans (strip_at _ h5)
              have hOs := hO.sl
              obtain ⟨q3, hq3⟩ := hOs.isAddr (by decide) hj3
              subst hq3
              refine QL.r (ix rfl rfl rfl hj3) rfl ?_
              refine QL.r (fa_el hOs.1 rfl) rfl ?_
              refine QL.m (ld_el rfl hOs (Ext.refl _) rfl hj3 rfl) rfl ?_
              refine QL.r (mvS rfl) rfl ?_
              -- call stagecoach/stagecoachlaw09.cut (tmp 164)
              refine QL.call (fun w' hw' => lCut w' name) rfl rfl ?_
              refine QL.r (sneq rfl rfl) rfl ?_
              refine QL.r (mvB rfl) rfl ?_
              refine QL.gg (gwF rfl rfl) (fun hg => (mvL rfl).does _) rfl ?_
              refine QL.gg (gwF rfl rfl) (fun hg => (mvI rfl).does _) rfl ?_
              refine QL.gg (gwF rfl rfl) (fun hg => (ix (gs hg rfl) (gs hg rfl) rfl hj3).does _) rfl ?_
              refine QL.gg (gwF rfl rfl) (fun hg => (fa_el hOs.1 (gs hg rfl)).does _) rfl ?_
              refine QL.gg (gwF rfl rfl) (fun hg => ld_el (gs hg rfl) hOs (Ext.refl _) rfl hj3 rfl) rfl ?_
              refine QL.gg (gwF rfl rfl) (fun hg => (mvI rfl).does _) rfl ?_
              refine QL.gg (gwF rfl rfl) (fun hg => (neq (gs hg rfl) (gs hg rfl)).does _) rfl ?_
              refine QL.r (pickOr rfl (fun hn => gs hn rfl)) rfl ?_
              refine QL.nil ?_; intro w26 hx; replace H := H.ext hx; replace hT := hT.ext hx; replace hP := hP.ext hx; replace hO := hO.ext hx
              refine WP.cond rfl (fun hc => ?_) (fun hc => ?_)
              · refine WP.regionS ?_
                refine RL.r (asgB rfl) rfl ?_
                refine RL.nil ?_
                refine WP.ret ?_
                refine fin1_ret rfl ⟨?_, H⟩
                exfalso
                rcases hc with hc | hc
                · exact hc (by rw [hone])
                · exact hc (by rw [hone])
              · refine WP.skip ?_
                refine WP.region ?_
                refine RL.r (mvI rfl) rfl ?_
                refine RL.r (add rfl rfl (by omega)) rfl ?_
                refine RL.r (asgI rfl) rfl ?_
                refine RL.nil ?_
                refine ⟨k3 - 1, by omega, j3 + 1, by omega, Head.intro (by repeat (first | with_reducible exact AgreeOff.mix _ _ _ | refine AgreeOff.look rfl ?_ | refine AgreeOff.mixs rfl ?_)) ⟨rfl, trivial⟩, H, hT, hP, hO⟩
            · refine WP.exit ?_
              refine WP.regionS ?_
              -- call stagecoach/stagecoachlaw09.fixed 
              refine RL.call (lFixed _) rfl rfl ?_
              rintro _ w27 ⟨rfl, hx⟩
              replace H := H.ext hx; replace hT := hT.ext hx; replace hP := hP.ext hx; replace hO := hO.ext hx
              refine RL.r (asgB rfl) rfl ?_
              refine RL.nil ?_
              refine WP.ret ?_
              refine fin1_ret rfl ⟨rfl, H⟩
end Go.Proofs.Ytdcckaamepilcaa
