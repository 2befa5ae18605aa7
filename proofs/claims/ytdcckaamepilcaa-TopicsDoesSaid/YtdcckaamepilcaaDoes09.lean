/-
  TopicsDoes: the walk.
-/
import Derived.Test.YtdcckaamepilcaaClone09
import Derived.Test.YtdcckaamepilcaaOpen09
set_option linter.unusedVariables false
namespace Go.Proofs.Ytdcckaamepilcaa
open Go Go.Eng Go.RowKit
theorem Tr.os {α : Type} [Lies α] {B B' i c' : Nat} {a a' : Option Addr} {w w' : World} {S : List Topic} {T : TypeId} {l : List α} (h : Tr B w i a S) (ho : Eng.Own B' w T a' c' l) (h1 : T ≠ 54) (h2 : 25 ≠ T) (k : Upd (inBlock a') w w') : Tr B w' i a S := by
  obtain ⟨c, hb, hr⟩ := h.at_
  exact h.upd k (fun e => ho.box_apart hb h1 e) (fun j hj e => hr.apart ho h2 hj e)
set_option maxRecDepth 20000 in
set_option maxHeartbeats 3200000 in
theorem lDoes (w0 : World) (a : Option Addr) (c : Nat) (l : List TOp) (a2 : Option Addr) (c2 : Nat) (names : List ByteArray) (hl : SlI w0 a l) (hn : SlI w0 a2 names) :
    Ct Try.prog 7 #[.slice a l.length c, .slice a2 names.length c2] w0 fun v w' => v = .bool true ∧ Ext w0 w' := by
  refine Ct.intro1 Try.func7 Try.ntmps7 rfl rfl (by decide) rfl ?_
  have H : Ext w0 w0 := Ext.refl w0
  refine WP.regionS ?_
  refine RL.r (asgB rfl) rfl ?_
  refine RL.nil ?_
  refine WP.regionS ?_
  -- call stagecoach/topics.New 
  refine RL.call (pNew _) rfl rfl ?_
  rintro v w1 ⟨⟨i, m, rfl, hT⟩, hx⟩
  replace H := H.ext hx
  refine RL.r (bld rfl rfl) rfl ?_
  refine RL.boxS w0.heap.size H.size rfl rfl ?_
  intro w2 i20 hi20 hx hb20
  replace H := H.ext hx; replace hT := hT.ext hx; clear hx
  have hR := tr_new hb20
  refine RL.r (asgP rfl) rfl ?_
  refine RL.r (asgP rfl) rfl ?_
  refine RL.nil ?_
  refine WP.seq ?_
  refine WP.regionS ?_
  refine RL.r (mvP rfl) rfl ?_
  refine RL.r (peqn rfl rfl) rfl ?_
  refine RL.nil ?_
  refine WP.cond rfl (fun hc => ?_) (fun hc => ?_)
  · refine WP.regionS ?_
    refine RL.r (asgB rfl) rfl ?_
    refine RL.nil ?_
    refine WP.ret ?_
    refine fin1_ret rfl ⟨absurd hc (by simp), H⟩
  · refine WP.skip ?_
    refine WP.regionS ?_
    refine RL.build0 (α := ByteArray) w0.heap.size H.size rfl ?_
    intro w3 i23 hi23 hx hb23
    replace H := H.ext hx; replace hT := hT.ext hx; replace hR := hR.ext hx; clear hx
    refine RL.r (asgL rfl) rfl ?_
    refine RL.nil ?_
    refine WP.seq ?_
    refine WP.regionS ?_
    refine RL.r (asgI rfl) rfl ?_
    refine RL.nil ?_
    refine WP.block ?_
    refine WP.loop (fun k e' w' => ∃ j : Nat, ∃ (a7 : Option Addr) (c7 : Nat) (N7 : List ByteArray),  j + k = min names.length 12 ∧ Head [7, 8, 24, 25, 26, 27, 28, 29, 30, 31, 32, 33, 34, 35, 36, 37, 38, 39, 40, 41] _ [(7, .slice a7 N7.length c7), (8, .int .i64 (j : Int))] e' ∧ Ext w0 w' ∧ Tc w0.heap.size w' i m [] ∧ Tr w0.heap.size w' i20 none [] ∧ Eng.Own w0.heap.size w' 9 a7 c7 N7 ∧ N7.length ≤ j) (min names.length 12)
      ⟨0, _, _, [], by omega, Head.intro (AgreeOff.refl _ _) ⟨rfl, rfl, trivial⟩, H, hT, hR, hb23, Nat.le_refl _⟩ ?_
    clear H hT hR hb23
    rintro k e w4 ⟨j, a7, c7, N7, hjk, ⟨jk, rfl⟩, H, hT, hR, hS, hN7⟩
    refine WP.seq ?_
    refine WP.seq (WP.quiet ?_)
    refine QL.r (mvI rfl) rfl ?_
    refine QL.r (mvL rfl) rfl ?_
    refine QL.r (len_sl rfl) rfl ?_
    refine QL.r (lss rfl rfl) rfl ?_
    refine QL.r (mvB rfl) rfl ?_
    refine QL.gg (gwT rfl rfl) (fun hg => (mvI rfl).does _) rfl ?_
    refine QL.gg (gwT rfl rfl) (fun hg => (lss (gs hg rfl) rfl).does _) rfl ?_
    refine QL.r (pickAnd rfl (fun hn => gs hn rfl)) rfl ?_
    refine QL.nil ?_; intro w5 hx; replace H := H.ext hx; replace hT := hT.ext hx; replace hR := hR.ext hx; replace hS := hS.ext hx
    refine WP.cond rfl (fun hc => ?_) (fun hc => ?_)
    · refine WP.skip ?_
      refine WP.seq ?_
      refine WP.block ?_
      refine WP.region ?_
      refine RL.r (mvL rfl) rfl ?_
      refine RL.r (mvL rfl) rfl ?_
      refine RL.r (mvI rfl) rfl ?_
      have hj : j < names.length := by omega
      have hn := hn (List.ne_nil_of_length_pos (by omega))
      obtain ⟨p, hp⟩ := hn.isAddr (by decide) hj
      subst hp
      refine RL.r (ix rfl rfl rfl hj) rfl ?_
      refine RL.m (ld_e0 rfl hn H rfl hj rfl) rfl ?_
      -- call stagecoach/stagecoachlaw09.cut (tmp 38)
      refine RL.call (lCut _ names[j]) rfl rfl ?_
      rintro _ w6 ⟨rfl, hx⟩
      replace H := H.ext hx; replace hT := hT.ext hx; replace hR := hR.ext hx; replace hS := hS.ext hx
      refine RL.buildSlice w0.heap.size H.size rfl rfl rfl rfl rfl ?_
      intro w7 i40 hi40 hx hb40
      replace H := H.ext hx; replace hT := hT.ext hx; replace hR := hR.ext hx; replace hS := hS.ext hx; clear hx
      refine RL.appendS rfl hS H.size rfl (show Sl _ _ [names[j].extract 0 (min names[j].size 40)] from Box.sl1 hb40) rfl rfl (by decide) rfl cell1 (by omega) (by simp only [maxLen]; omega) rfl ?_
      intro w8 a41 c41 hu hb41 hfr41
      replace hT := hT.ow hS (by decide) hu
      replace hR := hR.os hS (by decide) (by decide) hu
      replace H := Ext.own H hS hu; clear hu
      refine RL.r (asgL rfl) rfl ?_
      refine RL.nil ?_
      refine WP.region ?_
      refine RL.r (mvI rfl) rfl ?_
      refine RL.r (add rfl rfl (by omega)) rfl ?_
      refine RL.r (asgI rfl) rfl ?_
      refine RL.nil ?_
      refine ⟨k - 1, by omega, j + 1, _, _, _, by omega, Head.intro (by repeat (first | with_reducible exact AgreeOff.mix _ _ _ | refine AgreeOff.look rfl ?_ | refine AgreeOff.mixs rfl ?_)) ⟨rfl, rfl, trivial⟩, H, hT, hR, hb41, by rw [List.length_append]; exact Nat.succ_le_succ hN7⟩
    · refine WP.exit ?_
      refine WP.seq ?_
      refine WP.regionS ?_
      refine RL.r (asgI rfl) rfl ?_
      refine RL.nil ?_
      refine WP.block ?_
      refine WP.loop (fun k1 e' w' => ∃ j1 : Nat, ∃ (S : List Topic) (ci cm : Nat) (ra : Option Addr),  j1 + k1 = min l.length 60 ∧ Head [4, 5, 9, 10, 11, 12, 13, 14, 15, 16, 17, 42, 43, 44, 45, 46, 47, 48, 49, 50, 51, 52, 53, 54, 55, 56, 57, 58, 59, 60, 61, 62, 63, 64, 65, 66, 67, 68, 69, 70, 71, 72, 73, 74, 75, 76, 77, 78, 79, 80, 81, 82, 83, 84, 85, 86, 87, 88, 89, 90, 91, 92, 93, 94, 95, 96, 97, 98, 99, 100, 101, 102, 103, 104, 105, 106, 107, 108, 109, 110, 111, 112, 113, 114, 115, 116, 117, 118, 119, 120, 121, 122, 123, 124, 125, 126, 127, 128, 129, 130, 131, 132, 133, 134, 135, 136, 137, 138, 139, 140, 141, 142, 143, 144, 145, 146, 147, 148, 149, 150, 151, 152, 153, 154, 155, 156, 157, 158, 159, 160] _ [(5, .pointer (some ⟨ci, 0, none⟩)), (9, .int .i64 (j1 : Int))] e' ∧ Ext w0 w' ∧ Tc w0.heap.size w' ci cm S ∧ Tr w0.heap.size w' i20 ra S ∧ Eng.Own w0.heap.size w' 9 a7 c7 N7) (min l.length 60)
        ⟨0, [], i, m, none, by omega, Head.intro (AgreeOff.refl _ _) ⟨rfl, rfl, trivial⟩, H, hT, hR, hS⟩ ?_
      clear H hT hR hS
      rintro k1 e w9 ⟨j1, S, ci, cm, ra, hjk1, ⟨jk1, rfl⟩, H, hT, hR, hS⟩
      refine WP.seq ?_
      refine WP.seq (WP.quiet ?_)
      refine QL.r (mvI rfl) rfl ?_
      refine QL.r (mvL rfl) rfl ?_
      refine QL.r (len_sl rfl) rfl ?_
      refine QL.r (lss rfl rfl) rfl ?_
      refine QL.r (mvB rfl) rfl ?_
      refine QL.gg (gwT rfl rfl) (fun hg => (mvI rfl).does _) rfl ?_
      refine QL.gg (gwT rfl rfl) (fun hg => (lss (gs hg rfl) rfl).does _) rfl ?_
      refine QL.r (pickAnd rfl (fun hn => gs hn rfl)) rfl ?_
      refine QL.nil ?_; intro w10 hx; replace H := H.ext hx; replace hT := hT.ext hx; replace hR := hR.ext hx; replace hS := hS.ext hx
      refine WP.cond rfl (fun hc => ?_) (fun hc => ?_)
      · refine WP.skip ?_
        refine WP.seq ?_
        refine WP.block ?_
        refine WP.regionS ?_
        refine RL.r (mvL rfl) rfl ?_
        refine RL.r (mvI rfl) rfl ?_
        have hj1 : j1 < l.length := by omega
        have hl := hl (List.ne_nil_of_length_pos (by omega))
        obtain ⟨p1, hp1⟩ := hl.isAddr (by decide) hj1
        subst hp1
        refine RL.r (ix rfl rfl rfl hj1) rfl ?_
        refine RL.m (ldS_el rfl hl H rfl rfl hj1) rfl ?_
        refine RL.alloc w0.heap.size H.size rfl rfl ?_
        intro w11 i10 hi10 hx hb10
        refine RL.storeS rfl hb10 rfl rfl rfl rfl ?_
        intro w12 hu hb10
        replace hx := hx.box hu (Nat.le_of_eq hi10.symm)
        replace H := H.ext hx; replace hT := hT.ext hx; replace hR := hR.ext hx; replace hS := hS.ext hx; clear hx hu
        refine RL.nil ?_
        refine WP.regionS ?_
        refine RL.r (fa_box rfl) rfl ?_
        refine RL.m (ld_box rfl hb10 rfl) rfl ?_
        -- call stagecoach/stagecoachlaw09.cut (tmp 57)
        refine RL.call (lCut _ l[j1].name) rfl rfl ?_
        rintro _ w13 ⟨rfl, hx⟩
        replace H := H.ext hx; replace hb10 := hb10.ext hx; replace hT := hT.ext hx; replace hR := hR.ext hx; replace hS := hS.ext hx
        refine RL.r (asgS rfl) rfl ?_
        refine RL.nil ?_
        refine WP.regionS ?_
        refine RL.r (asgI rfl) rfl ?_
        refine RL.r (asgI rfl) rfl ?_
        refine RL.nil ?_
        refine WP.seq ?_
        refine WP.regionS ?_
        refine RL.r (fa_box rfl) rfl ?_
        refine RL.m (ld_box rfl hb10 rfl) rfl ?_
        refine RL.nil ?_
        refine WP.cut (α := Nat × Nat × Option Addr × Int × List Topic) [4, 5, 12, 13, 14, 61, 62, 63, 64, 65, 66, 67, 68, 69, 70, 71, 72, 73, 74, 75, 76, 77, 78, 79, 80, 81, 82, 83, 84, 85, 86, 87, 88, 89, 90, 91, 92, 93, 94, 95, 96, 97, 98, 99, 100, 101, 102, 103, 104] (fun x => [(5, .pointer (some ⟨x.1, 0, none⟩)), (12, .int .i64 x.2.2.2.1), (13, .int .i64 x.2.2.2.1)]) (fun x w' => Ext w0 w' ∧ Box w0.heap.size w' i10 41 (Lies.enc l[j1]) ∧ Tc w0.heap.size w' x.1 x.2.1 x.2.2.2.2 ∧ Tr w0.heap.size w' i20 x.2.2.1 x.2.2.2.2 ∧ Eng.Own w0.heap.size w' 9 a7 c7 N7) ?_ ?_
        · refine WP.block ?_
          refine WP.regionS ?_
          refine RL.r (eql rfl rfl) rfl ?_
          refine RL.r (asgB rfl) rfl ?_
          refine RL.nil ?_
          refine WP.cond rfl (fun hc => ?_) (fun hc => ?_)
          · refine WP.regionS ?_
            refine RL.r (mvP rfl) rfl ?_
            refine RL.r (mvS rfl) rfl ?_
            refine RL.r (fa_box rfl) rfl ?_
            refine RL.m (ld_box rfl hb10 rfl) rfl ?_
            -- call (*stagecoach/topics.Catalog).Make (tmp 63) (tmp 64) (tmp 66)
            refine RL.call (pMake _ _ ci cm S hT (l[j1].name.extract 0 (min l[j1].name.size 40)) l[j1].n) rfl rfl ?_
            rintro _ w14 ⟨⟨rfl, hT2⟩, hx⟩
            replace H := H.mp hx hT.old; replace hb10 := hb10.upd hx (hT.neb hb10); replace hR := hR.xm hT hx; replace hS := hS.upd hx (fun j hj e => hT.nea hS (e ▸ hj))
            replace hT := hT2; clear hT2
            refine RL.r (asgI rfl) rfl ?_
            refine RL.nil ?_
            refine WP.region ?_
            refine RL.r (mvP rfl) rfl ?_
            refine RL.r (mvS rfl) rfl ?_
            refine RL.r (fa_box rfl) rfl ?_
            refine RL.m (ld_box rfl hb10 rfl) rfl ?_
            -- call (*stagecoach/stagecoachref09.Catalog).Make (tmp 68) (tmp 69) (tmp 71)
            refine RL.call (rMake _ _ i20 ra S hR ⟨(l[j1].name.extract 0 (min l[j1].name.size 40)), l[j1].n⟩) rfl rfl ?_
            rintro _ w15 ⟨⟨rfl, ra2, hR2⟩, hx⟩
            replace H := H.mp hx hR.lt.2; replace hb10 := box_xr hb10 hR (by decide) (by decide) (Upd.xi (a := ra) hx); replace hT := hT.xr hR (Upd.xi hx); replace hS := own_xr hS hR (by decide) (by decide) (Upd.xi (a := ra) hx)
            replace hR := hR2; clear hR2
            refine RL.r (asgI rfl) rfl ?_
            refine RL.nil ?_
            refine ⟨(ci, cm, ra2, makeE S ⟨(l[j1].name.extract 0 (min l[j1].name.size 40)), l[j1].n⟩, makeC S ⟨(l[j1].name.extract 0 (min l[j1].name.size 40)), l[j1].n⟩), Head.intro (by repeat (first | with_reducible exact AgreeOff.refl _ _ | with_reducible exact AgreeOff.mix _ _ _ | refine AgreeOff.look rfl ?_ | refine AgreeOff.mixs rfl ?_)) ⟨rfl, rfl, rfl, trivial⟩, H, hb10, hT, hR, hS⟩
          · refine WP.regionS ?_
            refine RL.r (eql rfl rfl) rfl ?_
            refine RL.r (asgB rfl) rfl ?_
            refine RL.nil ?_
            refine WP.cond rfl (fun hc => ?_) (fun hc => ?_)
            · refine WP.regionS ?_
              refine RL.r (mvP rfl) rfl ?_
              refine RL.r (mvS rfl) rfl ?_
              refine RL.r (fa_box rfl) rfl ?_
              refine RL.m (ld_box rfl hb10 rfl) rfl ?_
              -- call (*stagecoach/topics.Catalog).Grow (tmp 75) (tmp 76) (tmp 78)
              refine RL.call (pGrow _ _ ci cm S hT (l[j1].name.extract 0 (min l[j1].name.size 40)) l[j1].n) rfl rfl ?_
              rintro _ w16 ⟨⟨rfl, hT2⟩, hx⟩
              replace H := H.mp hx hT.old; replace hb10 := hb10.upd hx (hT.neb hb10); replace hR := hR.xm hT hx; replace hS := hS.upd hx (fun j hj e => hT.nea hS (e ▸ hj))
              replace hT := hT2; clear hT2
              refine RL.r (asgI rfl) rfl ?_
              refine RL.nil ?_
              refine WP.region ?_
              refine RL.r (mvP rfl) rfl ?_
              refine RL.r (mvS rfl) rfl ?_
              refine RL.r (fa_box rfl) rfl ?_
              refine RL.m (ld_box rfl hb10 rfl) rfl ?_
              -- call (*stagecoach/stagecoachref09.Catalog).Grow (tmp 80) (tmp 81) (tmp 83)
              refine RL.call (rGrow _ _ i20 ra S hR ⟨(l[j1].name.extract 0 (min l[j1].name.size 40)), l[j1].n⟩) rfl rfl ?_
              rintro _ w17 ⟨⟨rfl, hR2⟩, hx⟩
              replace H := Ext.upd H hx (xr_old hR (Nat.le_refl _)); replace hb10 := box_xr hb10 hR (by decide) (by decide) hx; replace hT := hT.xr hR hx; replace hS := own_xr hS hR (by decide) (by decide) hx
              replace hR := hR2; clear hR2
              refine RL.r (asgI rfl) rfl ?_
              refine RL.nil ?_
              refine ⟨(ci, cm, ra, growE S ⟨(l[j1].name.extract 0 (min l[j1].name.size 40)), l[j1].n⟩, growC S ⟨(l[j1].name.extract 0 (min l[j1].name.size 40)), l[j1].n⟩), Head.intro (by repeat (first | with_reducible exact AgreeOff.refl _ _ | with_reducible exact AgreeOff.mix _ _ _ | refine AgreeOff.look rfl ?_ | refine AgreeOff.mixs rfl ?_)) ⟨rfl, rfl, rfl, trivial⟩, H, hb10, hT, hR, hS⟩
            · refine WP.regionS ?_
              refine RL.r (eql rfl rfl) rfl ?_
              refine RL.r (asgB rfl) rfl ?_
              refine RL.nil ?_
              refine WP.cond rfl (fun hc => ?_) (fun hc => ?_)
              · refine WP.regionS ?_
                refine RL.r (mvP rfl) rfl ?_
                refine RL.r (mvS rfl) rfl ?_
                -- call (*stagecoach/topics.Catalog).Drop (tmp 87) (tmp 88)
                refine RL.call (pDrop _ _ ci cm S hT (l[j1].name.extract 0 (min l[j1].name.size 40))) rfl rfl ?_
                rintro _ w18 ⟨⟨rfl, hT2⟩, hx⟩
                replace H := H.mp hx hT.old; replace hb10 := hb10.upd hx (hT.neb hb10); replace hR := hR.xm hT hx; replace hS := hS.upd hx (fun j hj e => hT.nea hS (e ▸ hj))
                replace hT := hT2; clear hT2
                refine RL.r (asgI rfl) rfl ?_
                refine RL.nil ?_
                refine WP.region ?_
                refine RL.r (mvP rfl) rfl ?_
                refine RL.r (mvS rfl) rfl ?_
                -- call (*stagecoach/stagecoachref09.Catalog).Drop (tmp 90) (tmp 91)
                refine RL.call (rDrop _ _ i20 ra S hR (l[j1].name.extract 0 (min l[j1].name.size 40))) rfl rfl ?_
                rintro _ w19 ⟨⟨rfl, ra2, hR2⟩, hx⟩
                replace H := H.mp hx hR.lt.2; replace hb10 := box_xr hb10 hR (by decide) (by decide) (Upd.xi (a := ra) hx); replace hT := hT.xr hR (Upd.xi hx); replace hS := own_xr hS hR (by decide) (by decide) (Upd.xi (a := ra) hx)
                replace hR := hR2; clear hR2
                refine RL.r (asgI rfl) rfl ?_
                refine RL.nil ?_
                refine ⟨(ci, cm, ra2, dropE S (l[j1].name.extract 0 (min l[j1].name.size 40)), dropC S (l[j1].name.extract 0 (min l[j1].name.size 40))), Head.intro (by repeat (first | with_reducible exact AgreeOff.refl _ _ | with_reducible exact AgreeOff.mix _ _ _ | refine AgreeOff.look rfl ?_ | refine AgreeOff.mixs rfl ?_)) ⟨rfl, rfl, rfl, trivial⟩, H, hb10, hT, hR, hS⟩
              · refine WP.regionS ?_
                refine RL.r (eql rfl rfl) rfl ?_
                refine RL.r (asgB rfl) rfl ?_
                refine RL.nil ?_
                refine WP.cond rfl (fun hc => ?_) (fun hc => ?_)
                · refine WP.regionS ?_
                  refine RL.r (mvP rfl) rfl ?_
                  refine RL.r (asgP rfl) rfl ?_
                  refine RL.nil ?_
                  refine WP.regionS ?_
                  refine RL.r (mvP rfl) rfl ?_
                  -- call (*stagecoach/topics.Catalog).Copy (tmp 96)
                  have hs6 := H.size
                  have hcl := hT.lt
                  refine RL.call (pCopy _ _ ci cm S hT) rfl rfl ?_
                  rintro v w20 ⟨⟨ci2, cm2, rfl, hC⟩, hx⟩
                  replace H := H.ext hx; replace hb10 := hb10.ext hx; replace hT := hT.ext hx; replace hR := hR.ext hx; replace hS := hS.ext hx
                  have hne1 : ci2 ≠ cm := fun e => by have := hC.box.old; omega
                  have hne2 : cm2 ≠ cm := fun e => by have := hC.old; omega
                  replace hC := hC.mono hs6
                  refine RL.r (asgP rfl) rfl ?_
                  refine RL.nil ?_
                  refine WP.regionS ?_
                  refine RL.r (mvP rfl) rfl ?_
                  refine RL.r (mvS rfl) rfl ?_
                  -- call (*stagecoach/topics.Catalog).Drop (tmp 98) (tmp 99)
                  refine RL.call (pDrop _ _ ci cm S hT (l[j1].name.extract 0 (min l[j1].name.size 40))) rfl rfl ?_
                  rintro _ w21 ⟨⟨rfl, hT2⟩, hx⟩
                  replace H := H.mp hx hT.old; replace hb10 := hb10.upd hx (hT.neb hb10); replace hR := hR.xm hT hx; replace hS := hS.upd hx (fun j hj e => hT.nea hS (e ▸ hj)); replace hC := hC.upd hx hne1 hne2
                  replace hT := hT2; clear hT2
                  refine RL.nil ?_
                  refine WP.regionS ?_
                  refine RL.r (mvP rfl) rfl ?_
                  -- call (*stagecoach/topics.Catalog).Make (tmp 101) (const (string {data:#[111, 116, 104, 101, 114]})) (const (int i64 1))
                  refine RL.call (pMake _ _ ci cm _ hT ⟨#[111, 116, 104, 101, 114]⟩ 1) rfl rfl ?_
                  rintro _ w22 ⟨⟨rfl, hT2⟩, hx⟩
                  replace H := H.mp hx hT.old; replace hb10 := hb10.upd hx (hT.neb hb10); replace hR := hR.xm hT hx; replace hS := hS.upd hx (fun j hj e => hT.nea hS (e ▸ hj)); replace hC := hC.upd hx hne1 hne2
                  replace hT := hT2; clear hT2
                  refine RL.nil ?_
                  refine WP.regionS ?_
                  refine RL.r (mvP rfl) rfl ?_
                  refine RL.r (peqn rfl rfl) rfl ?_
                  refine RL.nil ?_
                  refine WP.cond rfl (fun hc => ?_) (fun hc => ?_)
                  · refine WP.regionS ?_
                    refine RL.r (asgB rfl) rfl ?_
                    refine RL.nil ?_
                    refine WP.ret ?_
                    refine fin1_ret rfl ⟨absurd hc (by simp), H⟩
                  · refine WP.skip ?_
                    refine ⟨(ci2, cm2, ra, 0, S), Head.intro (by repeat (first | with_reducible exact AgreeOff.refl _ _ | with_reducible exact AgreeOff.mix _ _ _ | refine AgreeOff.look rfl ?_ | refine AgreeOff.mixs rfl ?_)) ⟨rfl, rfl, rfl, trivial⟩, H, hb10, hC, hR, hS⟩
                · refine WP.skip ?_
                  refine ⟨(ci, cm, ra, 0, S), Head.intro (by repeat (first | with_reducible exact AgreeOff.refl _ _ | with_reducible exact AgreeOff.mix _ _ _ | refine AgreeOff.look rfl ?_ | refine AgreeOff.mixs rfl ?_)) ⟨rfl, rfl, rfl, trivial⟩, H, hb10, hT, hR, hS⟩
        rintro ⟨ci9, cm9, ra9, err, S9⟩ jc w23 ⟨H, hb10, hT, hR, hS⟩
        refine WP.regionS ?_
        refine RL.r (mvS rfl) rfl ?_
        refine RL.r (fa_box rfl) rfl ?_
        refine RL.m (ld_box rfl hb10 rfl) rfl ?_
        refine RL.r (bld rfl rfl) rfl ?_
        refine RL.alloc w0.heap.size H.size rfl rfl ?_
        intro w24 i15 hi15 hx hb15
        have ne10_15 := hb10.ne hi15
        refine RL.storeS rfl hb15 rfl rfl rfl rfl ?_
        intro w25 hu hb15
        replace hx := hx.box hu (Nat.le_of_eq hi15.symm)
        replace H := H.ext hx; replace hb10 := hb10.ext hx; replace hT := hT.ext hx; replace hR := hR.ext hx; replace hS := hS.ext hx; clear hx hu
        refine RL.nil ?_
        refine WP.regionS ?_
        refine RL.r (mvP rfl) rfl ?_
        -- call (*stagecoach/topics.Catalog).List (tmp 109)
        dsimp only at hT hR hS
        have hok := hT.ok
        have hle8 := hok.len
        have hsL := H.size
        have hT19 := hT
        have hR19 := hR
        have hS19 := hS
        have hb10l := hb10.lt
        have hb15l := hb15.lt
        have hRl := hR.lt.1
        have hPl : (partsC S9 N7).length ≤ 64 := by have h := partsC_le hok N7 S9.length (Nat.le_refl _); rw [List.take_length] at h; omega
        refine RL.call (pList _ _ ci9 cm9 S9 hT) rfl rfl ?_
        rintro v w26 ⟨⟨aL, cL, rfl, hL⟩, hx⟩
        replace H := H.ext hx; replace hb10 := hb10.ext hx; replace hb15 := hb15.ext hx; replace hT := hT.ext hx; replace hR := hR.ext hx; replace hS := hS.ext hx
        have H19 := hx
        obtain ⟨c9, hbt, hOR⟩ := hR.at_
        refine RL.r (asgL rfl) rfl ?_
        refine RL.nil ?_
        refine WP.seq ?_
        refine WP.seq ?_
        refine WP.cutN (α := Unit) [111, 112, 113, 114, 115, 116, 117, 118, 119, 120, 121, 122, 123, 124, 125, 126, 127, 128, 129, 130, 131, 132, 133, 134, 135, 136, 137, 138, 139, 140, 141, 142, 143, 144, 145, 146, 147, 148, 149, 150] (fun x => [(150, .bool (decide (¬ partsC S9 N7 = partsC S9 N7)))]) (fun x w' => Ext w0 w' ∧ Box w0.heap.size w' i10 41 (Lies.enc l[j1]) ∧ Box w0.heap.size w' i15 48 (Lies.enc (⟨(l[j1].name.extract 0 (min l[j1].name.size 40)), l[j1].n⟩ : Part)) ∧ Box w0.heap.size w' i20 54 [.slice ra9 S9.length c9] ∧ Eng.Own w25.heap.size w' 25 aL cL S9 ∧ Ext w25 w') ?_ ?_
        · refine WP.any ?_
          intro w27 hx; replace H := H.ext hx; replace hb10 := hb10.ext hx; replace hb15 := hb15.ext hx; replace hbt := hbt.ext hx; replace hT := hT.ext hx; replace hR := hR.ext hx; replace hS := hS.ext hx; replace hL := hL.ext hx; replace H19 := H19.ext hx; replace hOR := hOR.ext hx
          refine AL.p 0 (by kernel_rfl) rfl (mvI rfl) rfl ?_
          refine AL.p 1 (by kernel_rfl) rfl (mvI rfl) rfl ?_
          refine AL.p 2 (by kernel_rfl) rfl (neq rfl rfl) rfl ?_
          refine AL.mvF 3 (by kernel_rfl) rfl rfl (fun h => h rfl) rfl ?_
          refine AL.pg 4 (by kernel_rfl) rfl rfl rfl rfl (mvL rfl) rfl ?_
          refine AL.pg 5 (by kernel_rfl) rfl rfl rfl rfl (mvP rfl) rfl ?_
          refine AL.pg 6 (by kernel_rfl) rfl rfl rfl rfl (nilck rfl) rfl ?_
          refine AL.pg 7 (by kernel_rfl) rfl rfl rfl rfl (fa_box rfl) rfl ?_
          refine AL.mg 8 (by kernel_rfl) rfl rfl rfl rfl (ld_box rfl hbt rfl) rfl ?_
          refine AL.o 9 (by kernel_rfl) rfl ?_
          refine RL.yes rfl rfl rfl ?_
          -- call stagecoach/stagecoachref09.Same (tmp 115) (tmp 119)
          refine RL.call (rSameT _ aL ra9 cL c9 S9 S9 hL.sl hOR.sl (by omega)) rfl rfl ?_
          rintro _ w28 ⟨rfl, hx⟩
          replace H := H.ext hx; replace hb10 := hb10.ext hx; replace hb15 := hb15.ext hx; replace hbt := hbt.ext hx; replace hT := hT.ext hx; replace hR := hR.ext hx; replace hS := hS.ext hx; replace hL := hL.ext hx; replace H19 := H19.ext hx; replace hOR := hOR.ext hx
          refine RL.nil ?_
          first | refine AL.pg 10 (by kernel_rfl) rfl rfl rfl rfl (notD rfl) rfl ?_ | refine AL.pg 10 (by kernel_rfl) rfl rfl rfl rfl (not_ rfl) rfl ?_
          refine AL.p 11 (by kernel_rfl) rfl (pickF rfl) rfl ?_
          refine AL.mvF 12 (by kernel_rfl) rfl rfl (fun h => h rfl) rfl ?_
          refine AL.pg 13 (by kernel_rfl) rfl rfl rfl rfl (mvP rfl) rfl ?_
          refine AL.pg 14 (by kernel_rfl) rfl rfl rfl rfl (mvS rfl) rfl ?_
          refine AL.pg 16 (by kernel_rfl) rfl rfl rfl rfl (mvP rfl) rfl ?_
          refine AL.pg 17 (by kernel_rfl) rfl rfl rfl rfl (mvS rfl) rfl ?_
          refine AL.o 15 (by kernel_rfl) rfl ?_
          refine RL.yes rfl rfl rfl ?_
          -- call (*stagecoach/topics.Catalog).N (tmp 124) (tmp 125)
          refine RL.call (pN _ _ ci9 cm9 S9 hT (l[j1].name.extract 0 (min l[j1].name.size 40))) rfl rfl ?_
          rintro _ w29 ⟨rfl, hx⟩
          replace H := H.ext hx; replace hb10 := hb10.ext hx; replace hb15 := hb15.ext hx; replace hbt := hbt.ext hx; replace hT := hT.ext hx; replace hR := hR.ext hx; replace hS := hS.ext hx; replace hL := hL.ext hx; replace H19 := H19.ext hx; replace hOR := hOR.ext hx
          refine RL.nil ?_
          refine AL.o 18 (by kernel_rfl) rfl ?_
          refine RL.yes rfl rfl rfl ?_
          -- call (*stagecoach/stagecoachref09.Catalog).N (tmp 127) (tmp 128)
          refine RL.call (rN _ _ i20 ra9 S9 hR (l[j1].name.extract 0 (min l[j1].name.size 40))) rfl rfl ?_
          rintro _ w30 ⟨rfl, hx⟩
          replace H := H.ext hx; replace hb10 := hb10.ext hx; replace hb15 := hb15.ext hx; replace hbt := hbt.ext hx; replace hT := hT.ext hx; replace hR := hR.ext hx; replace hS := hS.ext hx; replace hL := hL.ext hx; replace H19 := H19.ext hx; replace hOR := hOR.ext hx
          refine RL.nil ?_
          refine AL.pg 19 (by kernel_rfl) rfl rfl rfl rfl (neq rfl rfl) rfl ?_
          refine AL.p 20 (by kernel_rfl) rfl (pickF rfl) rfl ?_
          refine AL.mvF 21 (by kernel_rfl) rfl rfl (fun h => h rfl) rfl ?_
          refine AL.pg 22 (by kernel_rfl) rfl rfl rfl rfl (mvP rfl) rfl ?_
          refine AL.pg 25 (by kernel_rfl) rfl rfl rfl rfl (mvP rfl) rfl ?_
          refine AL.mg 23 (by kernel_rfl) rfl rfl rfl rfl (ldS_box rfl hb15 (Nat.le_of_ble_eq_true rfl) rfl) rfl ?_
          refine AL.all (rs := [24, 26]) (by kernel_rfl) rfl ?_
          rintro i hi; simp only [List.mem_cons, List.not_mem_nil, or_false] at hi; rcases hi with rfl | rfl
          · refine ⟨_, rfl, ?_⟩
            refine RL.yes rfl rfl rfl ?_
            -- call (*stagecoach/topics.Catalog).Has (tmp 133) (tmp 134)
            refine RL.call (pHas _ _ ci9 cm9 S9 hT ⟨(l[j1].name.extract 0 (min l[j1].name.size 40)), l[j1].n⟩) rfl rfl ?_
            rintro _ w31 ⟨rfl, hx⟩
            replace H := H.ext hx; replace hb10 := hb10.ext hx; replace hb15 := hb15.ext hx; replace hbt := hbt.ext hx; replace hT := hT.ext hx; replace hR := hR.ext hx; replace hS := hS.ext hx; replace hL := hL.ext hx; replace H19 := H19.ext hx; replace hOR := hOR.ext hx
            refine RL.nil ?_
            refine AL.mg 26 (by kernel_rfl) rfl rfl rfl rfl (ldS_box rfl hb15 (Nat.le_of_ble_eq_true rfl) rfl) rfl ?_
            refine AL.o 27 (by kernel_rfl) rfl ?_
            refine RL.yes rfl rfl rfl ?_
            -- call (*stagecoach/stagecoachref09.Catalog).Has (tmp 136) (tmp 137)
            refine RL.call (rHas _ _ i20 ra9 S9 hR ⟨(l[j1].name.extract 0 (min l[j1].name.size 40)), l[j1].n⟩) rfl rfl ?_
            rintro _ w32 ⟨rfl, hx⟩
            replace H := H.ext hx; replace hb10 := hb10.ext hx; replace hb15 := hb15.ext hx; replace hbt := hbt.ext hx; replace hT := hT.ext hx; replace hR := hR.ext hx; replace hS := hS.ext hx; replace hL := hL.ext hx; replace H19 := H19.ext hx; replace hOR := hOR.ext hx
            refine RL.nil ?_
            refine AL.pg 28 (by kernel_rfl) rfl rfl rfl rfl (bneq rfl rfl) rfl ?_
            refine AL.p 29 (by kernel_rfl) rfl (pickF rfl) rfl ?_
            refine AL.mvF 30 (by kernel_rfl) rfl rfl (by simp) rfl ?_
            refine AL.pg 31 (by kernel_rfl) rfl rfl rfl rfl (mvP rfl) rfl ?_
            refine AL.pg 32 (by kernel_rfl) rfl rfl rfl rfl (mvL rfl) rfl ?_
            refine AL.pg 34 (by kernel_rfl) rfl rfl rfl rfl (mvP rfl) rfl ?_
            refine AL.pg 35 (by kernel_rfl) rfl rfl rfl rfl (mvL rfl) rfl ?_
            refine AL.o 33 (by kernel_rfl) rfl ?_
            refine RL.yes rfl rfl rfl ?_
            -- call (*stagecoach/topics.Catalog).Parts (tmp 142) (tmp 143)
            refine RL.call (pParts _ _ ci9 cm9 S9 hT a7 c7 N7 hS.sl (by omega)) rfl rfl ?_
            rintro v w33 ⟨⟨aP, cP, rfl, hP⟩, hx⟩
            replace H := H.ext hx; replace hb10 := hb10.ext hx; replace hb15 := hb15.ext hx; replace hbt := hbt.ext hx; replace hT := hT.ext hx; replace hR := hR.ext hx; replace hS := hS.ext hx; replace hL := hL.ext hx; replace H19 := H19.ext hx; replace hOR := hOR.ext hx
            refine RL.nil ?_
            refine AL.o 36 (by kernel_rfl) rfl ?_
            refine RL.yes rfl rfl rfl ?_
            -- call (*stagecoach/stagecoachref09.Catalog).Parts (tmp 145) (tmp 146)
            refine RL.call (rPartsC _ _ i20 ra9 S9 hR a7 c7 N7 hS.sl (by omega)) rfl rfl ?_
            rintro v w34 ⟨⟨aQ, cQ, rfl, hQ⟩, hx⟩
            replace H := H.ext hx; replace hb10 := hb10.ext hx; replace hb15 := hb15.ext hx; replace hbt := hbt.ext hx; replace hT := hT.ext hx; replace hR := hR.ext hx; replace hS := hS.ext hx; replace hL := hL.ext hx; replace H19 := H19.ext hx; replace hOR := hOR.ext hx; replace hP := hP.ext hx
            refine RL.nil ?_
            refine AL.o 37 (by kernel_rfl) rfl ?_
            refine RL.yes rfl rfl rfl ?_
            -- call stagecoach/stagecoachref04.Parts (tmp 144) (tmp 147)
            refine RL.call (rParts _ aP aQ cP cQ _ _ hP.sl hQ.sl (by omega)) rfl rfl ?_
            rintro _ w35 ⟨rfl, hx⟩
            replace H := H.ext hx; replace hb10 := hb10.ext hx; replace hb15 := hb15.ext hx; replace hbt := hbt.ext hx; replace hT := hT.ext hx; replace hR := hR.ext hx; replace hS := hS.ext hx; replace hL := hL.ext hx; replace H19 := H19.ext hx; replace hOR := hOR.ext hx; replace hP := hP.ext hx; replace hQ := hQ.ext hx
            refine RL.nil ?_
            first | refine AL.pg 38 (by kernel_rfl) rfl rfl rfl rfl (notD rfl) rfl ?_ | refine AL.pg 38 (by kernel_rfl) rfl rfl rfl rfl (not_ rfl) rfl ?_
            refine AL.p 39 (by kernel_rfl) rfl (pickF rfl) rfl ?_
            refine AL.nil (by kernel_rfl) ?_
            refine ⟨(), Head.intro (by repeat (first | with_reducible exact AgreeOff.refl _ _ | with_reducible exact AgreeOff.mix _ _ _ | refine AgreeOff.look rfl ?_ | refine AgreeOff.mixs rfl ?_)) ⟨rfl, trivial⟩, H, hb10, hb15, hbt, hL, H19⟩
          · refine ⟨_, rfl, ?_⟩
            refine RL.yes rfl rfl rfl ?_
            refine RL.m (ldS_box rfl hb15 (Nat.le_of_ble_eq_true rfl) rfl) rfl ?_
            refine RL.nil ?_
            refine AL.o 24 (by kernel_rfl) rfl ?_
            refine RL.yes rfl rfl rfl ?_
            -- call (*stagecoach/topics.Catalog).Has (tmp 133) (tmp 134)
            refine RL.call (pHas _ _ ci9 cm9 S9 hT ⟨(l[j1].name.extract 0 (min l[j1].name.size 40)), l[j1].n⟩) rfl rfl ?_
            rintro _ w36 ⟨rfl, hx⟩
            replace H := H.ext hx; replace hb10 := hb10.ext hx; replace hb15 := hb15.ext hx; replace hbt := hbt.ext hx; replace hT := hT.ext hx; replace hR := hR.ext hx; replace hS := hS.ext hx; replace hL := hL.ext hx; replace H19 := H19.ext hx; replace hOR := hOR.ext hx
            refine RL.nil ?_
            refine AL.o 27 (by kernel_rfl) rfl ?_
            refine RL.yes rfl rfl rfl ?_
            -- call (*stagecoach/stagecoachref09.Catalog).Has (tmp 136) (tmp 137)
            refine RL.call (rHas _ _ i20 ra9 S9 hR ⟨(l[j1].name.extract 0 (min l[j1].name.size 40)), l[j1].n⟩) rfl rfl ?_
            rintro _ w37 ⟨rfl, hx⟩
            replace H := H.ext hx; replace hb10 := hb10.ext hx; replace hb15 := hb15.ext hx; replace hbt := hbt.ext hx; replace hT := hT.ext hx; replace hR := hR.ext hx; replace hS := hS.ext hx; replace hL := hL.ext hx; replace H19 := H19.ext hx; replace hOR := hOR.ext hx
            refine RL.nil ?_
            refine AL.pg 28 (by kernel_rfl) rfl rfl rfl rfl (bneq rfl rfl) rfl ?_
            refine AL.p 29 (by kernel_rfl) rfl (pickF rfl) rfl ?_
            refine AL.mvF 30 (by kernel_rfl) rfl rfl (by simp) rfl ?_
            refine AL.pg 31 (by kernel_rfl) rfl rfl rfl rfl (mvP rfl) rfl ?_
            refine AL.pg 32 (by kernel_rfl) rfl rfl rfl rfl (mvL rfl) rfl ?_
            refine AL.pg 34 (by kernel_rfl) rfl rfl rfl rfl (mvP rfl) rfl ?_
            refine AL.pg 35 (by kernel_rfl) rfl rfl rfl rfl (mvL rfl) rfl ?_
            refine AL.o 33 (by kernel_rfl) rfl ?_
            refine RL.yes rfl rfl rfl ?_
            -- call (*stagecoach/topics.Catalog).Parts (tmp 142) (tmp 143)
            refine RL.call (pParts _ _ ci9 cm9 S9 hT a7 c7 N7 hS.sl (by omega)) rfl rfl ?_
            rintro v w38 ⟨⟨aP, cP, rfl, hP⟩, hx⟩
            replace H := H.ext hx; replace hb10 := hb10.ext hx; replace hb15 := hb15.ext hx; replace hbt := hbt.ext hx; replace hT := hT.ext hx; replace hR := hR.ext hx; replace hS := hS.ext hx; replace hL := hL.ext hx; replace H19 := H19.ext hx; replace hOR := hOR.ext hx
            refine RL.nil ?_
            refine AL.o 36 (by kernel_rfl) rfl ?_
            refine RL.yes rfl rfl rfl ?_
            -- call (*stagecoach/stagecoachref09.Catalog).Parts (tmp 145) (tmp 146)
            refine RL.call (rPartsC _ _ i20 ra9 S9 hR a7 c7 N7 hS.sl (by omega)) rfl rfl ?_
            rintro v w39 ⟨⟨aQ, cQ, rfl, hQ⟩, hx⟩
            replace H := H.ext hx; replace hb10 := hb10.ext hx; replace hb15 := hb15.ext hx; replace hbt := hbt.ext hx; replace hT := hT.ext hx; replace hR := hR.ext hx; replace hS := hS.ext hx; replace hL := hL.ext hx; replace H19 := H19.ext hx; replace hOR := hOR.ext hx; replace hP := hP.ext hx
            refine RL.nil ?_
            refine AL.o 37 (by kernel_rfl) rfl ?_
            refine RL.yes rfl rfl rfl ?_
            -- call stagecoach/stagecoachref04.Parts (tmp 144) (tmp 147)
            refine RL.call (rParts _ aP aQ cP cQ _ _ hP.sl hQ.sl (by omega)) rfl rfl ?_
            rintro _ w40 ⟨rfl, hx⟩
            replace H := H.ext hx; replace hb10 := hb10.ext hx; replace hb15 := hb15.ext hx; replace hbt := hbt.ext hx; replace hT := hT.ext hx; replace hR := hR.ext hx; replace hS := hS.ext hx; replace hL := hL.ext hx; replace H19 := H19.ext hx; replace hOR := hOR.ext hx; replace hP := hP.ext hx; replace hQ := hQ.ext hx
            refine RL.nil ?_
            first | refine AL.pg 38 (by kernel_rfl) rfl rfl rfl rfl (notD rfl) rfl ?_ | refine AL.pg 38 (by kernel_rfl) rfl rfl rfl rfl (not_ rfl) rfl ?_
            refine AL.p 39 (by kernel_rfl) rfl (pickF rfl) rfl ?_
            refine AL.nil (by kernel_rfl) ?_
            refine ⟨(), Head.intro (by repeat (first | with_reducible exact AgreeOff.refl _ _ | with_reducible exact AgreeOff.mix _ _ _ | refine AgreeOff.look rfl ?_ | refine AgreeOff.mixs rfl ?_)) ⟨rfl, trivial⟩, H, hb10, hb15, hbt, hL, H19⟩
        rintro _ jc w41 ⟨H, hb10, hb15, hbt, hL, H19⟩
        refine WP.cond rfl (fun hc => ?_) (fun hc => ?_)
        · refine WP.regionS ?_
          refine RL.r (asgB rfl) rfl ?_
          refine RL.nil ?_
          refine WP.ret ?_
          refine fin1_ret rfl ⟨absurd rfl hc, H⟩
        · refine WP.skip ?_
          refine WP.regionS ?_
          refine RL.r (asgI rfl) rfl ?_
          refine RL.nil ?_
          refine WP.block ?_
          refine WP.loop (fun k2 e' w' => ∃ j2 : Nat, ∃ L1 : List Topic,  j2 + k2 = S9.length ∧ Head [17, 151, 152, 153, 154, 155, 156, 157, 158, 159, 160] _ [(17, .int .i64 (j2 : Int))] e' ∧ Ext w0 w' ∧ Box w0.heap.size w' i10 41 (Lies.enc l[j1]) ∧ Box w0.heap.size w' i15 48 (Lies.enc (⟨(l[j1].name.extract 0 (min l[j1].name.size 40)), l[j1].n⟩ : Part)) ∧ Box w0.heap.size w' i20 54 [.slice ra9 S9.length c9] ∧ Eng.Own w25.heap.size w' 25 aL cL L1 ∧ L1.length = S9.length ∧ Ext w25 w') (S9.length)
            ⟨0, S9, by omega, Head.intro (AgreeOff.refl _ _) ⟨rfl, trivial⟩, H, hb10, hb15, hbt, hL, rfl, H19⟩ ?_
          clear H hb10 hb15 hbt hT hR hS hL H19 hOR
          rintro k2 e w42 ⟨j2, L1, hjk2, ⟨jk2, rfl⟩, H, hb10, hb15, hbt, hL, hLl, H19⟩
          refine WP.seq ?_
          refine WP.regionS ?_
          refine RL.r (mvI rfl) rfl ?_
          refine RL.r (mvL rfl) rfl ?_
          refine RL.r (len_sl rfl) rfl ?_
          refine RL.r (lss rfl rfl) rfl ?_
          refine RL.nil ?_
          refine WP.cond rfl (fun hc => ?_) (fun hc => ?_)
          · refine WP.skip ?_
            refine WP.seq ?_
            refine WP.block ?_
            refine WP.region ?_
            refine RL.r (mvL rfl) rfl ?_
            refine RL.r (mvI rfl) rfl ?_
            have hj2 : j2 < L1.length := by omega
            obtain ⟨q2, hq2⟩ := hL.sl.isAddr (by decide) hj2
            subst hq2
            refine RL.r (ix rfl rfl rfl (by omega)) rfl ?_
            refine RL.r (fa_el hL.sl.1 rfl) rfl ?_
            refine RL.setOwn (u := (⟨L1[j2].name, 99⟩ : Topic)) (i := j2) (off := 1) (v := .int .i64 99) (vs := [.int .i64 99]) rfl hL hj2 rfl rfl rfl (Nat.le_of_ble_eq_true rfl) rfl (fun v hv => by obtain rfl := List.mem_singleton.1 hv; rfl) ?_
            intro w99 hu hL2
            replace hb10 := hb10.upd hu (fun h => by have := (hL.blk h).1; omega)
            replace hb15 := hb15.upd hu (fun h => by have := (hL.blk h).1; omega)
            replace hbt := hbt.upd hu (fun h => by have := (hL.blk h).1; omega)
            replace H := Ext.own H (hL.mono hsL) hu
            replace H19 := Ext.own H19 hL hu
            refine RL.nil ?_
            refine WP.region ?_
            refine RL.r (mvI rfl) rfl ?_
            refine RL.r (add rfl rfl (by omega)) rfl ?_
            refine RL.r (asgI rfl) rfl ?_
            refine RL.nil ?_
            refine ⟨k2 - 1, by omega, j2 + 1, L1.set j2 ⟨L1[j2].name, 99⟩, by omega, Head.intro (by repeat (first | with_reducible exact AgreeOff.mix _ _ _ | refine AgreeOff.look rfl ?_ | refine AgreeOff.mixs rfl ?_)) ⟨rfl, trivial⟩, H, hb10, hb15, hbt, hL2, by rw [List.length_set]; exact hLl, H19⟩
          · refine WP.exit ?_
            refine WP.region ?_
            refine RL.r (mvI rfl) rfl ?_
            refine RL.r (add rfl rfl (by omega)) rfl ?_
            refine RL.r (asgI rfl) rfl ?_
            refine RL.nil ?_
            refine ⟨k1 - 1, by omega, j1 + 1, S9, ci9, cm9, ra9, by omega, Head.intro (by repeat (first | with_reducible exact AgreeOff.mix _ _ _ | refine AgreeOff.look rfl ?_ | refine AgreeOff.mixs rfl ?_)) ⟨rfl, rfl, trivial⟩, H, hT19.ext H19, hR19.ext H19, hS19.ext H19⟩
      · refine WP.exit ?_
        refine WP.regionS ?_
        -- call stagecoach/stagecoachlaw09.fixed 
        refine RL.call (lFixed _) rfl rfl ?_
        rintro _ w44 ⟨rfl, hx⟩
        replace H := H.ext hx; replace hT := hT.ext hx; replace hR := hR.ext hx; replace hS := hS.ext hx
        refine RL.r (asgB rfl) rfl ?_
        refine RL.nil ?_
        refine WP.ret ?_
        refine fin1_ret rfl ⟨rfl, H⟩
end Go.Proofs.Ytdcckaamepilcaa
