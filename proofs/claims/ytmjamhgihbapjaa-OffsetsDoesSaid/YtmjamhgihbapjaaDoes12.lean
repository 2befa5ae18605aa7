/-
  OffsetsDoes: Copy, and the walk.
-/
import Derived.Test.YtmjamhgihbapjaaRefTab2
import Derived.Test.YtmjamhgihbapjaaClone12
set_option linter.unusedVariables false
namespace Go.Proofs.Ytmjamhgihbapjaa
open Go Go.Eng Go.RowKit
theorem Tb.lt {B i m : Nat} {w : World} {S : List Mrk} (h : Tb B w i m S) : m < w.heap.size := let ⟨_, _, h3, _⟩ := h.map; h3.blk
theorem xr_old {B w0s i c : Nat} {w : World} {a : Option Addr} {S : List Mrk} {T T' : TypeId} {cs : List Value} (hb : Box B w i T cs) (ho : Own w0s w T' a c S) (h : w0s ≤ B) : ∀ k, XR i a k → w0s ≤ k := by
  rintro k (rfl | hk)
  · exact Nat.le_trans h hb.old
  · exact (ho.blk hk).1
theorem Tb.xr {B B' B'' i it m c : Nat} {w w' : World} {S S' : List Mrk} {a : Option Addr} {cs : List Value} (h : Tb B w it m S') (hb : Box B' w i 54 cs) (ho : Own B'' w 26 a c S) (k : Upd (XR i a) w w') : Tb B w' it m S' := by
  refine h.upd k ?_ ?_
  · rintro (e | e)
    · exact box_nt h.box hb (by decide) e
    · exact ho.box_apart h.box (by decide) e
  · rintro (e | e)
    · exact h.neb hb e.symm
    · exact h.nea ho _ e rfl
theorem box_xr {B B' i i6 : Nat} {w w' : World} {a : Option Addr} {T : TypeId} {cs cs' : List Value} (h : Box B w i6 T cs) (hb : Box B' w i 54 cs') (hT : T ≠ 54) (hn : ∀ k, inBlock a k → k ≠ i6) (k : Upd (XR i a) w w') : Box B w' i6 T cs := by
  refine h.upd k ?_
  rintro (e | e)
  · exact box_nt h hb hT e
  · exact hn _ e rfl
theorem pCopy (w0 : World) (B i m : Nat) (S : List Mrk) (hT : Tb B w0 i m S) :
    Ct Try.prog 24 #[.pointer (some ⟨i, 0, none⟩)] w0 fun v w' => (∃ i2 m2, v = .pointer (some ⟨i2, 0, none⟩) ∧ Tb w0.heap.size w' i2 m2 S) ∧ Ext w0 w' := by
  refine Ct.intro1 Try.func24 Try.ntmps24 rfl rfl (by decide) rfl ?_
  have H : Ext w0 w0 := Ext.refl w0
  obtain ⟨lb, c, hm, hr⟩ := hT.map
  have hbt := hT.box
  refine WP.regionS ?_
  refine RL.r (asgP rfl) rfl ?_
  refine RL.nil ?_
  refine WP.regionS ?_
  refine RL.r (mvP rfl) rfl ?_
  refine RL.r (nilck rfl) rfl ?_
  refine RL.r (fa_box rfl) rfl ?_
  refine RL.m (ld_box rfl hbt rfl) rfl ?_
  -- call maps.Clone[map[stagecoach/offsets.key]int,stagecoach/offsets.key,int] (tmp 6)
  refine RL.call (pClone _ _ m lb c hm) rfl rfl ?_
  rintro v w1 ⟨⟨m2, rfl, hm2⟩, hx⟩
  replace H := H.ext hx; replace hm := hm.ext hx; replace hbt := hbt.ext hx
  refine RL.r (bld rfl rfl) rfl ?_
  refine RL.boxS w0.heap.size H.size rfl rfl ?_
  intro w2 i9 hi9 hx hb9
  have net_9 := hbt.ne hi9
  replace H := H.ext hx; replace hm := hm.ext hx; replace hbt := hbt.ext hx; replace hm2 := hm2.ext hx; clear hx
  refine RL.r (asgP rfl) rfl ?_
  refine RL.nil ?_
  refine WP.ret ?_
  refine fin1_ret rfl ⟨⟨_, m2, rfl, hb9, ⟨lb, c, hm2, hr⟩, hT.srt, hT.may⟩, H⟩
set_option maxRecDepth 20000 in
set_option maxHeartbeats 3200000 in
theorem lDoes (w0 : World) (a : Option Addr) (c : Nat) (l : List MOp) (hl : SlI w0 a l) :
    Ct Try.prog 8 #[.slice a l.length c] w0 fun v w' => v = .bool true ∧ Ext w0 w' := by
  refine Ct.intro1 Try.func8 Try.ntmps8 rfl rfl (by decide) rfl ?_
  have H : Ext w0 w0 := Ext.refl w0
  refine WP.regionS ?_
  refine RL.r (asgB rfl) rfl ?_
  refine RL.nil ?_
  refine WP.regionS ?_
  -- call stagecoach/offsets.New 
  refine RL.call (pNewB _ _ H.size) rfl rfl ?_
  rintro v w1 ⟨⟨it, mp, rfl, hT⟩, hx⟩
  replace H := H.ext hx
  refine RL.r (bld rfl rfl) rfl ?_
  refine RL.boxS w0.heap.size H.size rfl rfl ?_
  intro w2 i18 hi18 hx hb18
  replace H := H.ext hx; replace hT := hT.ext hx; clear hx
  refine RL.r (asgP rfl) rfl ?_
  refine RL.r (asgP rfl) rfl ?_
  refine RL.nil ?_
  refine WP.seq ?_
  refine WP.regionS ?_
  refine RL.r (mvP rfl) rfl ?_
  refine RL.r (peqn rfl rfl) rfl ?_
  refine RL.nil ?_
  refine WP.cond rfl (fun hc => ?_) (fun hc => ?_)
  · refine WP.regionS ?_
    refine RL.r (asgB rfl) rfl ?_
    refine RL.nil ?_
    refine WP.ret ?_
    refine fin1_ret rfl ⟨absurd hc (by simp), H⟩
  · refine WP.skip ?_
    refine WP.seq ?_
    refine WP.regionS ?_
    refine RL.r (asgI rfl) rfl ?_
    refine RL.nil ?_
    refine WP.block ?_
    refine WP.loop (fun k e' w' => ∃ j : Nat, ∃ (S : List Mrk) (a4 : Option Addr) (c4 it mp : Nat),  j + k = min l.length 80 ∧ Head [2, 3, 5, 6, 7, 8, 9, 10, 11, 12, 13, 14, 15, 21, 22, 23, 24, 25, 26, 27, 28, 29, 30, 31, 32, 33, 34, 35, 36, 37, 38, 39, 40, 41, 42, 43, 44, 45, 46, 47, 48, 49, 50, 51, 52, 53, 54, 55, 56, 57, 58, 59, 60, 61, 62, 63, 64, 65, 66, 67, 68, 69, 70, 71, 72, 73, 74, 75, 76, 77, 78, 79, 80, 81, 82, 83, 84, 85, 86, 87, 88, 89, 90, 91, 92, 93, 94, 95, 96, 97, 98, 99, 100, 101, 102, 103, 104, 105, 106, 107, 108, 109, 110, 111, 112, 113, 114, 115, 116, 117, 118, 119, 120, 121, 122, 123, 124, 125, 126, 127, 128, 129, 130, 131, 132, 133, 134, 135, 136, 137, 138, 139, 140, 141, 142, 143, 144, 145, 146, 147, 148, 149, 150, 151, 152, 153, 154, 155, 156, 157, 158, 159, 160] _ [(3, .pointer (some ⟨it, 0, none⟩)), (5, .int .i64 (j : Int))] e' ∧ Ext w0 w' ∧ Box w0.heap.size w' i18 54 [.slice a4 S.length c4] ∧ Tb w0.heap.size w' it mp S ∧ Own w0.heap.size w' 26 a4 c4 S ∧ S.length ≤ j) (min l.length 80)
      ⟨0, [], none, 0, it, mp, by omega, Head.intro (AgreeOff.refl _ _) ⟨rfl, rfl, trivial⟩, H, hb18, hT, Own.nil _ _ _, Nat.le_refl _⟩ ?_
    clear H hb18 hT
    rintro k e w3 ⟨j, S, a4, c4, it, mp, hjk, ⟨jk, rfl⟩, H, hb18, hT, hO4, hSl⟩
    refine WP.seq ?_
    refine WP.seq (WP.quiet ?_)
    refine QL.r (mvI rfl) rfl ?_
    refine QL.r (mvL rfl) rfl ?_
    refine QL.r (len_sl rfl) rfl ?_
    refine QL.r (lss rfl rfl) rfl ?_
    refine QL.r (mvB rfl) rfl ?_
    refine QL.gg (gwT rfl rfl) (fun hg => (mvI rfl).does _) rfl ?_
    refine QL.gg (gwT rfl rfl) (fun hg => (lss (gs hg rfl) rfl).does _) rfl ?_
    refine QL.r (pickAnd rfl (fun hn => gs hn rfl)) rfl ?_
    refine QL.nil ?_; intro w4 hx; replace H := H.ext hx; replace hb18 := hb18.ext hx; replace hT := hT.ext hx; replace hO4 := hO4.ext hx
    refine WP.cond rfl (fun hc => ?_) (fun hc => ?_)
    · refine WP.skip ?_
      refine WP.seq ?_
      refine WP.block ?_
      refine WP.regionS ?_
      refine RL.r (mvL rfl) rfl ?_
      refine RL.r (mvI rfl) rfl ?_
      have hj : j < l.length := by omega
      have hl := hl (List.ne_nil_of_length_pos (by omega))
      obtain ⟨p, rfl⟩ := hl.isAddr (by decide) hj
      refine RL.r (ix rfl rfl rfl (by omega)) rfl ?_
      refine RL.r (fa_el hl.1 rfl) rfl ?_
      refine RL.m (ldS_ef rfl hl H (by omega) rfl (Nat.le_of_ble_eq_true rfl)) rfl ?_
      -- call stagecoach/stagecoachlaw12.cut (tmp 35)
      obtain ⟨X, hXe⟩ : ∃ X, X = cutM l[j].m := ⟨_, rfl⟩
      obtain ⟨S9, hS9e⟩ : ∃ S9, S9 = stepS S l[j].kind X := ⟨_, rfl⟩
      have hS9l : S9.length ≤ S.length + 1 := hS9e ▸ stepS_len S l[j].kind X
      refine RL.call (lCutE _ hXe) rfl rfl ?_
      rintro _ w5 ⟨rfl, hx⟩
      replace H := H.ext hx; replace hb18 := hb18.ext hx; replace hT := hT.ext hx; replace hO4 := hO4.ext hx
      have hlt4 : ∀ k, inBlock a4 k → k < w5.heap.size := fun k hk => (hO4.blk hk).2
      refine RL.alloc w0.heap.size H.size rfl rfl ?_
      intro w6 i6 hi6 hx hb6
      have ne18_6 := hb18.ne hi6
      refine RL.storeS rfl hb6 rfl rfl rfl rfl ?_
      intro w7 hu hb6
      replace hx := hx.box hu (Nat.le_of_eq hi6.symm)
      replace H := H.ext hx; replace hb18 := hb18.ext hx; replace hT := hT.ext hx; replace hO4 := hO4.ext hx; clear hx hu
      refine RL.nil ?_
      refine WP.regionS ?_
      refine RL.r (asgI rfl) rfl ?_
      refine RL.r (asgI rfl) rfl ?_
      refine RL.nil ?_
      refine WP.seq ?_
      refine WP.regionS ?_
      refine RL.r (mvL rfl) rfl ?_
      refine RL.r (mvI rfl) rfl ?_
      refine RL.r (ix rfl rfl rfl hj) rfl ?_
      refine RL.r (fa_el hl.1 rfl) rfl ?_
      refine RL.m (ld_el rfl hl H rfl hj rfl) rfl ?_
      refine RL.nil ?_
      refine WP.cut (α := Option Addr × Nat × Nat × Nat × Int) [2, 3, 7, 8, 9, 42, 43, 44, 45, 46, 47, 48, 49, 50, 51, 52, 53, 54, 55, 56, 57, 58, 59, 60, 61, 62, 63, 64, 65, 66, 67, 68, 69, 70, 71, 72, 73, 74, 75, 76, 77, 78, 79, 80, 81, 82, 83, 84, 85, 86, 87, 88, 89] (fun x => [(3, .pointer (some ⟨x.2.2.1, 0, none⟩)), (7, .int .i64 x.2.2.2.2), (8, .int .i64 x.2.2.2.2)]) (fun x w' => Ext w0 w' ∧ Box w0.heap.size w' i18 54 [.slice x.1 S9.length x.2.1] ∧ Box w0.heap.size w' i6 26 (Lies.enc X) ∧ Tb w0.heap.size w' x.2.2.1 x.2.2.2.1 S9 ∧ Own w0.heap.size w' 26 x.1 x.2.1 S9) ?_ ?_
      · refine WP.block ?_
        refine WP.regionS ?_
        refine RL.r (eql rfl rfl) rfl ?_
        refine RL.r (asgB rfl) rfl ?_
        refine RL.nil ?_
        refine WP.cond rfl (fun hc => ?_) (fun hc => ?_)
        · refine WP.regionS ?_
          refine RL.r (mvP rfl) rfl ?_
          refine RL.m (ldS_box rfl hb6 (Nat.le_of_ble_eq_true rfl) rfl) rfl ?_
          -- call (*stagecoach/offsets.Table).Put (tmp 44) (tmp 45)
          have hs9 : S9 = putR S X := by rw [hS9e]; unfold stepS; rw [if_pos (by assumption)]
          have hsr := hT.srt
          have hmy := hT.may
          have hn6 : ∀ k, inBlock a4 k → k ≠ i6 := fun k hk e => by have := hlt4 k hk; omega
          refine RL.call (pPut _ _ it mp S X hT) rfl rfl ?_
          rintro _ w8 ⟨⟨rfl, hT2⟩, hx⟩
          replace H := H.mp hx hT.old; replace hb18 := hb18.upd hx (hT.neb hb18); replace hb6 := hb6.upd hx (hT.neb hb6); replace hO4 := hO4.upd hx (hT.nea hO4)
          replace hT := hT2; clear hT2
          refine RL.r (asgI rfl) rfl ?_
          refine RL.nil ?_
          refine WP.region ?_
          refine RL.r (mvP rfl) rfl ?_
          refine RL.m (ldS_box rfl hb6 (Nat.le_of_ble_eq_true rfl) rfl) rfl ?_
          -- call (*stagecoach/stagecoachref12.Table).Put (tmp 47) (tmp 48)
          have hb18o := hb18
          have hO4o := hO4
          refine RL.call (rPut _ _ i18 a4 c4 S X hsr hmy ⟨hb18, hO4⟩ (by omega)) rfl rfl ?_
          rintro _ w9 ⟨⟨a9, c9, rfl, hR2⟩, hx⟩
          replace H := Ext.upd H hx (xr_old hb18o hO4o (Nat.le_refl _)); replace hb18 := hR2.1; replace hb6 := box_xr hb6 hb18o (by decide) hn6 hx; replace hT := hT.xr hb18o hO4o hx; replace hO4 := hR2.2
          refine RL.r (asgI rfl) rfl ?_
          refine RL.nil ?_
          rw [← hs9] at hT hO4 hb18
          refine ⟨(a9, c9, it, mp, putE S X), Head.intro (by repeat (first | with_reducible exact AgreeOff.refl _ _ | with_reducible exact AgreeOff.mix _ _ _ | refine AgreeOff.look rfl ?_ | refine AgreeOff.mixs rfl ?_)) ⟨rfl, rfl, rfl, trivial⟩, H, hb18, hb6, hT, hO4⟩
        · refine WP.regionS ?_
          refine RL.r (eql rfl rfl) rfl ?_
          refine RL.r (asgB rfl) rfl ?_
          refine RL.nil ?_
          refine WP.cond rfl (fun hc => ?_) (fun hc => ?_)
          · refine WP.regionS ?_
            refine RL.r (mvP rfl) rfl ?_
            refine RL.r (fa_box rfl) rfl ?_
            refine RL.m (ldS_box rfl hb6 (Nat.le_of_ble_eq_true rfl) rfl) rfl ?_
            refine RL.r (fa_box rfl) rfl ?_
            refine RL.m (ld_box rfl hb6 rfl) rfl ?_
            -- call (*stagecoach/offsets.Table).Raise (tmp 52) (tmp 54) (tmp 56)
            have hs9 : S9 = raiseT S ⟨X.topic, X.n⟩ X.off := by rw [hS9e]; unfold stepS; rw [if_neg (by assumption), if_pos (by assumption)]
            have hn6 : ∀ k, inBlock a4 k → k ≠ i6 := fun k hk e => by have := hlt4 k hk; omega
            refine RL.call (pRaise _ _ it mp S ⟨X.topic, X.n⟩ X.off hT (by omega)) rfl rfl ?_
            rintro _ w10 ⟨⟨rfl, hT2⟩, hx⟩
            replace H := H.mp hx hT.old; replace hb18 := hb18.upd hx (hT.neb hb18); replace hb6 := hb6.upd hx (hT.neb hb6); replace hO4 := hO4.upd hx (hT.nea hO4)
            replace hT := hT2; clear hT2
            refine RL.r (asgI rfl) rfl ?_
            refine RL.nil ?_
            refine WP.region ?_
            refine RL.r (mvP rfl) rfl ?_
            refine RL.r (fa_box rfl) rfl ?_
            refine RL.m (ldS_box rfl hb6 (Nat.le_of_ble_eq_true rfl) rfl) rfl ?_
            refine RL.r (fa_box rfl) rfl ?_
            refine RL.m (ld_box rfl hb6 rfl) rfl ?_
            -- call (*stagecoach/stagecoachref12.Table).Raise (tmp 58) (tmp 60) (tmp 62)
            have hb18o := hb18
            have hO4o := hO4
            refine RL.call (rRaise _ _ i18 a4 c4 S ⟨X.topic, X.n⟩ X.off ⟨hb18, hO4⟩ (by omega)) rfl rfl ?_
            rintro _ w11 ⟨⟨rfl, hR2⟩, hx⟩
            replace H := Ext.upd H hx (xr_old hb18o hO4o (Nat.le_refl _)); replace hb18 := hR2.1; replace hb6 := box_xr hb6 hb18o (by decide) hn6 hx; replace hT := hT.xr hb18o hO4o hx; replace hO4 := hR2.2
            refine RL.r (asgI rfl) rfl ?_
            refine RL.nil ?_
            rw [← hs9] at hT hO4 hb18
            refine ⟨(a4, c4, it, mp, raiseV S ⟨X.topic, X.n⟩ X.off), Head.intro (by repeat (first | with_reducible exact AgreeOff.refl _ _ | with_reducible exact AgreeOff.mix _ _ _ | refine AgreeOff.look rfl ?_ | refine AgreeOff.mixs rfl ?_)) ⟨rfl, rfl, rfl, trivial⟩, H, hb18, hb6, hT, hO4⟩
          · refine WP.regionS ?_
            refine RL.r (eql rfl rfl) rfl ?_
            refine RL.r (asgB rfl) rfl ?_
            refine RL.nil ?_
            refine WP.cond rfl (fun hc => ?_) (fun hc => ?_)
            · refine WP.regionS ?_
              refine RL.r (mvP rfl) rfl ?_
              refine RL.r (fa_box rfl) rfl ?_
              refine RL.m (ld_box rfl hb6 rfl) rfl ?_
              -- call (*stagecoach/offsets.Table).Drop (tmp 66) (tmp 68)
              have hs9 : S9 = dropS S X.group := by rw [hS9e]; unfold stepS; rw [if_neg (by assumption), if_neg (by assumption), if_pos (by assumption)]
              have hn6 : ∀ k, inBlock a4 k → k ≠ i6 := fun k hk e => by have := hlt4 k hk; omega
              refine RL.call (pDrop _ _ it mp S X.group hT (by omega)) rfl rfl ?_
              rintro _ w12 ⟨⟨rfl, hT2⟩, hx⟩
              replace H := H.mp hx hT.old; replace hb18 := hb18.upd hx (hT.neb hb18); replace hb6 := hb6.upd hx (hT.neb hb6); replace hO4 := hO4.upd hx (hT.nea hO4)
              replace hT := hT2; clear hT2
              refine RL.r (asgI rfl) rfl ?_
              refine RL.nil ?_
              refine WP.region ?_
              refine RL.r (mvP rfl) rfl ?_
              refine RL.r (fa_box rfl) rfl ?_
              refine RL.m (ld_box rfl hb6 rfl) rfl ?_
              -- call (*stagecoach/stagecoachref12.Table).Drop (tmp 70) (tmp 72)
              have hb18o := hb18
              have hO4o := hO4
              refine RL.call (rDrop _ _ i18 a4 c4 S X.group ⟨hb18, hO4⟩ (by omega)) rfl rfl ?_
              rintro _ w13 ⟨⟨a9, c9, rfl, hR2⟩, hx⟩
              replace H := Ext.upd H hx (xr_old hb18o hO4o (Nat.le_refl _)); replace hb18 := hR2.1; replace hb6 := box_xr hb6 hb18o (by decide) hn6 hx; replace hT := hT.xr hb18o hO4o hx; replace hO4 := hR2.2
              refine RL.r (asgI rfl) rfl ?_
              refine RL.nil ?_
              rw [← hs9] at hT hO4 hb18
              refine ⟨(a9, c9, it, mp, ((dropN S X.group : Nat) : Int)), Head.intro (by repeat (first | with_reducible exact AgreeOff.refl _ _ | with_reducible exact AgreeOff.mix _ _ _ | refine AgreeOff.look rfl ?_ | refine AgreeOff.mixs rfl ?_)) ⟨rfl, rfl, rfl, trivial⟩, H, hb18, hb6, hT, hO4⟩
            · refine WP.regionS ?_
              refine RL.r (eql rfl rfl) rfl ?_
              refine RL.r (asgB rfl) rfl ?_
              refine RL.nil ?_
              refine WP.cond rfl (fun hc => ?_) (fun hc => ?_)
              · refine WP.regionS ?_
                refine RL.r (mvP rfl) rfl ?_
                refine RL.r (asgP rfl) rfl ?_
                refine RL.nil ?_
                refine WP.regionS ?_
                refine RL.r (mvP rfl) rfl ?_
                -- call (*stagecoach/offsets.Table).Copy (tmp 77)
                have hs9 : S9 = S := by rw [hS9e]; unfold stepS; rw [if_neg (by omega), if_neg (by omega), if_neg (by omega)]
                have hsz := H.size
                have hmlt := hT.lt
                refine RL.call (pCopy _ _ it mp S hT) rfl rfl ?_
                rintro v w14 ⟨⟨it2, mp2, rfl, hC⟩, hx⟩
                replace H := H.ext hx; replace hb18 := hb18.ext hx; replace hb6 := hb6.ext hx; replace hT := hT.ext hx; replace hO4 := hO4.ext hx
                have hne1 : it2 ≠ mp := fun e => by have := hC.box.old; omega
                have hne2 : mp2 ≠ mp := fun e => by have := hC.old; omega
                refine RL.r (asgP rfl) rfl ?_
                refine RL.nil ?_
                refine WP.regionS ?_
                refine RL.r (mvP rfl) rfl ?_
                refine RL.r (fa_box rfl) rfl ?_
                refine RL.m (ldS_box rfl hb6 (Nat.le_of_ble_eq_true rfl) rfl) rfl ?_
                refine RL.r (bld rfl rfl) rfl ?_
                -- call (*stagecoach/offsets.Table).Put (tmp 79) (tmp 82)
                refine RL.call (pPut _ _ it mp S ⟨⟨#[111, 116, 104, 101, 114]⟩, X.topic, X.n, 0⟩ hT) rfl rfl ?_
                rintro _ w15 ⟨⟨rfl, hT2⟩, hx⟩
                replace H := H.mp hx hT.old; replace hb18 := hb18.upd hx (hT.neb hb18); replace hb6 := hb6.upd hx (hT.neb hb6); replace hO4 := hO4.upd hx (hT.nea hO4); replace hC := hC.upd hx hne1 hne2
                replace hT := hT2; clear hT2
                refine RL.nil ?_
                refine WP.regionS ?_
                refine RL.r (mvP rfl) rfl ?_
                refine RL.r (fa_box rfl) rfl ?_
                refine RL.m (ld_box rfl hb6 rfl) rfl ?_
                -- call (*stagecoach/offsets.Table).Drop (tmp 84) (tmp 86)
                refine RL.call (pDrop _ _ it mp _ X.group hT (by have := stepS_len S 0 ⟨⟨#[111, 116, 104, 101, 114]⟩, X.topic, X.n, 0⟩; unfold stepS at this; rw [if_pos rfl] at this; omega)) rfl rfl ?_
                rintro _ w16 ⟨⟨rfl, hT2⟩, hx⟩
                replace H := H.mp hx hT.old; replace hb18 := hb18.upd hx (hT.neb hb18); replace hb6 := hb6.upd hx (hT.neb hb6); replace hO4 := hO4.upd hx (hT.nea hO4); replace hC := hC.upd hx hne1 hne2
                replace hT := hT2; clear hT2
                refine RL.nil ?_
                refine WP.regionS ?_
                refine RL.r (mvP rfl) rfl ?_
                refine RL.r (peqn rfl rfl) rfl ?_
                refine RL.nil ?_
                refine WP.cond rfl (fun hc => ?_) (fun hc => ?_)
                · refine WP.regionS ?_
                  refine RL.r (asgB rfl) rfl ?_
                  refine RL.nil ?_
                  refine WP.ret ?_
                  refine fin1_ret rfl ⟨absurd hc (by simp), H⟩
                · refine WP.skip ?_
                  replace hC := hC.mono hsz
                  rw [← hs9] at hC hO4 hb18
                  refine ⟨(a4, c4, it2, mp2, 0), Head.intro (by repeat (first | with_reducible exact AgreeOff.refl _ _ | with_reducible exact AgreeOff.mix _ _ _ | refine AgreeOff.look rfl ?_ | refine AgreeOff.mixs rfl ?_)) ⟨rfl, rfl, rfl, trivial⟩, H, hb18, hb6, hC, hO4⟩
              · refine WP.skip ?_
                have hs9 : S9 = S := by rw [hS9e]; unfold stepS; rw [if_neg (by assumption), if_neg (by assumption), if_neg (by assumption)]
                rw [← hs9] at hT hO4 hb18
                refine ⟨(a4, c4, it, mp, 0), Head.intro (by repeat (first | with_reducible exact AgreeOff.refl _ _ | with_reducible exact AgreeOff.mix _ _ _ | refine AgreeOff.look rfl ?_ | refine AgreeOff.mixs rfl ?_)) ⟨rfl, rfl, rfl, trivial⟩, H, hb18, hb6, hT, hO4⟩
      rintro ⟨a9, c9, it9, mp9, val⟩ jc w17 ⟨H, hb18, hb6, hT, hO4⟩
      refine WP.regionS ?_
      refine RL.r (mvP rfl) rfl ?_
      refine RL.r (fa_box rfl) rfl ?_
      refine RL.m (ld_box rfl hb6 rfl) rfl ?_
      refine RL.r (fa_box rfl) rfl ?_
      refine RL.m (ldS_box rfl hb6 (Nat.le_of_ble_eq_true rfl) rfl) rfl ?_
      -- call (*stagecoach/offsets.Table).Get (tmp 91) (tmp 93) (tmp 95)
      dsimp only at hb18 hT hO4
      refine RL.call (pGet _ _ it9 mp9 S9 X.group ⟨X.topic, X.n⟩ hT) rfl rfl ?_
      rintro _ w18 ⟨rfl, hx⟩
      replace H := H.ext hx; replace hb18 := hb18.ext hx; replace hb6 := hb6.ext hx; replace hT := hT.ext hx; replace hO4 := hO4.ext hx
      refine RL.r (mvU rfl) rfl ?_
      refine RL.r (ex0 rfl) rfl ?_
      refine RL.r (ex1 rfl) rfl ?_
      refine RL.r (asgI rfl) rfl ?_
      refine RL.r (asgB rfl) rfl ?_
      refine RL.nil ?_
      refine WP.regionS ?_
      refine RL.r (mvP rfl) rfl ?_
      refine RL.r (fa_box rfl) rfl ?_
      refine RL.m (ld_box rfl hb6 rfl) rfl ?_
      refine RL.r (fa_box rfl) rfl ?_
      refine RL.m (ldS_box rfl hb6 (Nat.le_of_ble_eq_true rfl) rfl) rfl ?_
      -- call (*stagecoach/stagecoachref12.Table).Get (tmp 100) (tmp 102) (tmp 104)
      refine RL.call (rGet _ _ i18 a9 c9 S9 X.group ⟨X.topic, X.n⟩ ⟨hb18, hO4⟩ (by omega)) rfl rfl ?_
      rintro _ w19 ⟨rfl, hx⟩
      replace H := H.ext hx; replace hb18 := hb18.ext hx; replace hb6 := hb6.ext hx; replace hT := hT.ext hx; replace hO4 := hO4.ext hx
      have H19 := Ext.refl w19
      refine RL.r (mvU rfl) rfl ?_
      refine RL.r (ex0 rfl) rfl ?_
      refine RL.r (ex1 rfl) rfl ?_
      refine RL.r (asgI rfl) rfl ?_
      refine RL.r (asgB rfl) rfl ?_
      refine RL.nil ?_
      refine WP.regionS ?_
      refine RL.r (mvP rfl) rfl ?_
      -- call (*stagecoach/offsets.Table).List (tmp 108)
      have hN18 := hb18.lt
      have hN6 := hb6.lt
      have hs19 := H.size
      refine RL.call (pList _ _ it9 mp9 S9 hT (by omega)) rfl rfl ?_
      rintro _ w20 ⟨⟨a14, c14, rfl, hL⟩, hx⟩
      replace H := H.ext hx; replace hb18 := hb18.ext hx; replace hb6 := hb6.ext hx; replace H19 := H19.ext hx
      refine RL.r (asgL rfl) rfl ?_
      refine RL.nil ?_
      refine WP.seq ?_
      refine WP.seq ?_
      refine WP.draw (by kernel_rfl) ?_
      refine QL.r (mvI rfl) rfl ?_
      refine QL.r (mvI rfl) rfl ?_
      refine QL.r (neq rfl rfl) rfl ?_
      refine QL.r (mvB rfl) rfl ?_
      refine QL.gg (gwF rfl rfl) (fun hg => (mvI rfl).does _) rfl ?_
      refine QL.gg (gwF rfl rfl) (fun hg => (mvI rfl).does _) rfl ?_
      refine QL.gg (gwF rfl rfl) (fun hg => (neq (gs hg rfl) (gs hg rfl)).does _) rfl ?_
      refine QL.r (pickOr rfl (fun hn => gs hn rfl)) rfl ?_
      refine QL.r (mvB rfl) rfl ?_
      refine QL.gg (gwF rfl rfl) (fun hg => (mvB rfl).does _) rfl ?_
      refine QL.gg (gwF rfl rfl) (fun hg => (mvB rfl).does _) rfl ?_
      refine QL.gg (gwF rfl rfl) (fun hg => (bneq (gs hg rfl) (gs hg rfl)).does _) rfl ?_
      refine QL.r (pickOr rfl (fun hn => gs hn rfl)) rfl ?_
      refine QL.r (mvB rfl) rfl ?_
      refine QL.gg (gwF rfl rfl) (fun hg => (mvL rfl).does _) rfl ?_
      refine QL.gg (gwF rfl rfl) (fun hg => (mvP rfl).does _) rfl ?_
      refine QL.gg (gwF rfl rfl) (fun hg => (nilck (gs hg rfl)).does _) rfl ?_
      refine QL.gg (gwF rfl rfl) (fun hg => (fa_box (gs hg rfl)).does _) rfl ?_
      refine QL.gg (gwF rfl rfl) (fun hg => ld_box (gs hg rfl) hb18 rfl) rfl ?_
      -- call stagecoach/stagecoachref12.Same (tmp 124) (tmp 128)
      refine QL.gcall (gwF rfl rfl) (fun hg w' hw' => rSame w' a14 a9 c14 c9 S9 S9 (hL.sl.ext hw') ((hO4.ext (H19.ext hw')).sl) (by omega)) (fun hg => EvL.cons (gs hg rfl) (EvL.cons (gs hg rfl) (EvL.nil))) rfl ?_
      first | refine QL.gg (gwF rfl rfl) (fun hg => (notD (gs hg rfl)).does _) rfl ?_ | refine QL.gg (gwF rfl rfl) (fun hg => (not_ (gs hg rfl)).does _) rfl ?_
      refine QL.r (pickOr rfl (fun hn => gs hn rfl)) rfl ?_
      refine QL.r (mvB rfl) rfl ?_
      refine QL.gg (gwF rfl rfl) (fun hg => (mvP rfl).does _) rfl ?_
      refine QL.gg (gwF rfl rfl) (fun hg => (fa_box rfl).does _) rfl ?_
      refine QL.gg (gwF rfl rfl) (fun hg => ld_box (gs hg rfl) hb6 rfl) rfl ?_
      refine QL.gg (gwF rfl rfl) (fun hg => (fa_box rfl).does _) rfl ?_
      refine QL.gg (gwF rfl rfl) (fun hg => ldS_box (gs hg rfl) hb6 (Nat.le_of_ble_eq_true rfl) rfl) rfl ?_
      refine QL.gg (gwF rfl rfl) (fun hg => (fa_box rfl).does _) rfl ?_
      refine QL.gg (gwF rfl rfl) (fun hg => ld_box (gs hg rfl) hb6 rfl) rfl ?_
      -- call (*stagecoach/offsets.Table).Behind (tmp 133) (tmp 135) (tmp 137) (tmp 139)
      refine QL.gcall (gwF rfl rfl) (fun hg w' hw' => pBehind w' _ it9 mp9 S9 X.group ⟨X.topic, X.n⟩ X.off (hT.ext (H19.ext hw'))) (fun hg => EvL.cons (gs hg rfl) (EvL.cons (gs hg rfl) (EvL.cons (gs hg rfl) (EvL.cons (gs hg rfl) (EvL.nil))))) rfl ?_
      refine QL.gg (gwF rfl rfl) (fun hg => (mvP rfl).does _) rfl ?_
      refine QL.gg (gwF rfl rfl) (fun hg => (fa_box rfl).does _) rfl ?_
      refine QL.gg (gwF rfl rfl) (fun hg => ld_box (gs hg rfl) hb6 rfl) rfl ?_
      refine QL.gg (gwF rfl rfl) (fun hg => (fa_box rfl).does _) rfl ?_
      refine QL.gg (gwF rfl rfl) (fun hg => ldS_box (gs hg rfl) hb6 (Nat.le_of_ble_eq_true rfl) rfl) rfl ?_
      refine QL.gg (gwF rfl rfl) (fun hg => (fa_box rfl).does _) rfl ?_
      refine QL.gg (gwF rfl rfl) (fun hg => ld_box (gs hg rfl) hb6 rfl) rfl ?_
      -- call (*stagecoach/stagecoachref12.Table).Behind (tmp 141) (tmp 143) (tmp 145) (tmp 147)
      refine QL.gcall (gwF rfl rfl) (fun hg w' hw' => rBehind w' _ i18 a9 c9 S9 X.group ⟨X.topic, X.n⟩ X.off hT.may ⟨hb18.ext hw', hO4.ext (H19.ext hw')⟩ (by omega)) (fun hg => EvL.cons (gs hg rfl) (EvL.cons (gs hg rfl) (EvL.cons (gs hg rfl) (EvL.cons (gs hg rfl) (EvL.nil))))) rfl ?_
      refine QL.gg (gwF rfl rfl) (fun hg => (neq (gs hg rfl) (gs hg rfl)).does _) rfl ?_
      refine QL.r (pickOr rfl (fun hn => gs hn rfl)) rfl ?_
      refine QL.nil ?_; intro w24 hx; replace H := H.ext hx; replace hb18 := hb18.ext hx; replace hb6 := hb6.ext hx; replace H19 := H19.ext hx; replace hL := hL.ext hx
      refine WP.cond rfl (fun hc => ?_) (fun hc => ?_)
      · refine WP.regionS ?_
        refine RL.r (asgB rfl) rfl ?_
        refine RL.nil ?_
        refine WP.ret ?_
        refine fin1_ret rfl ⟨?_, H⟩
        exfalso
        rcases hc with (((hc | hc) | hc) | hc) | hc <;> exact hc rfl
      · refine WP.skip ?_
        refine WP.regionS ?_
        refine RL.r (asgI rfl) rfl ?_
        refine RL.nil ?_
        refine WP.block ?_
        refine WP.loop (fun k1 e' w' => ∃ j1 : Nat, ∃ L1 : List Mrk,  j1 + k1 = S9.length ∧ Head [15, 151, 152, 153, 154, 155, 156, 157, 158, 159, 160] _ [(15, .int .i64 (j1 : Int))] e' ∧ Ext w0 w' ∧ Box w0.heap.size w' i18 54 [.slice a9 S9.length c9] ∧ Box w0.heap.size w' i6 26 (Lies.enc X) ∧ Own w19.heap.size w' 26 a14 c14 L1 ∧ L1.length = S9.length ∧ Ext w19 w') (S9.length)
          ⟨0, S9, by omega, Head.intro (AgreeOff.refl _ _) ⟨rfl, trivial⟩, H, hb18, hb6, hL, rfl, H19⟩ ?_
        clear H hb18 hb6 H19 hL
        rintro k1 e w25 ⟨j1, L1, hjk1, ⟨jk1, rfl⟩, H, hb18, hb6, hL, hLl, H19⟩
        refine WP.seq ?_
        refine WP.regionS ?_
        refine RL.r (mvI rfl) rfl ?_
        refine RL.r (mvL rfl) rfl ?_
        refine RL.r (len_sl rfl) rfl ?_
        refine RL.r (lss rfl rfl) rfl ?_
        refine RL.nil ?_
        refine WP.cond rfl (fun hc => ?_) (fun hc => ?_)
        · refine WP.skip ?_
          refine WP.seq ?_
          refine WP.block ?_
          refine WP.region ?_
          refine RL.r (mvL rfl) rfl ?_
          refine RL.r (mvI rfl) rfl ?_
          have hj1 : j1 < L1.length := by omega
          obtain ⟨q2, hq2⟩ := hL.sl.isAddr (by decide) hj1
          subst hq2
          refine RL.r (ix rfl rfl rfl (by omega)) rfl ?_
          refine RL.r (fa_el hL.sl.1 rfl) rfl ?_
          refine RL.setOwn (u := (⟨L1[j1].group, L1[j1].topic, L1[j1].n, 99⟩ : Mrk)) (i := j1) (off := 3) (v := .int .i64 99) (vs := [.int .i64 99]) rfl hL hj1 rfl rfl rfl (Nat.le_of_ble_eq_true rfl) rfl (fun v hv => by obtain rfl := List.mem_singleton.1 hv; rfl) ?_
          intro w99 hu hL2
          replace hb18 := hb18.upd hu (fun h => by have := (hL.blk h).1; omega)
          replace hb6 := hb6.upd hu (fun h => by have := (hL.blk h).1; omega)
          replace H := Ext.own H (hL.mono hs19) hu
          replace H19 := Ext.own H19 hL hu
          refine RL.nil ?_
          refine WP.region ?_
          refine RL.r (mvI rfl) rfl ?_
          refine RL.r (add rfl rfl (by omega)) rfl ?_
          refine RL.r (asgI rfl) rfl ?_
          refine RL.nil ?_
          refine ⟨k1 - 1, by omega, j1 + 1, L1.set j1 ⟨L1[j1].group, L1[j1].topic, L1[j1].n, 99⟩, by omega, Head.intro (by repeat (first | with_reducible exact AgreeOff.mix _ _ _ | refine AgreeOff.look rfl ?_ | refine AgreeOff.mixs rfl ?_)) ⟨rfl, trivial⟩, H, hb18, hb6, hL2, by rw [List.length_set]; exact hLl, H19⟩
        · refine WP.exit ?_
          refine WP.region ?_
          refine RL.r (mvI rfl) rfl ?_
          refine RL.r (add rfl rfl (by omega)) rfl ?_
          refine RL.r (asgI rfl) rfl ?_
          refine RL.nil ?_
          refine ⟨k - 1, by omega, j + 1, S9, a9, c9, it9, mp9, by omega, Head.intro (by repeat (first | with_reducible exact AgreeOff.mix _ _ _ | refine AgreeOff.look rfl ?_ | refine AgreeOff.mixs rfl ?_)) ⟨rfl, rfl, trivial⟩, H, hb18, hT.ext H19, hO4.ext H19, by omega⟩
    · refine WP.exit ?_
      refine WP.regionS ?_
      -- call stagecoach/stagecoachlaw12.fixed 
      refine RL.call (lFixed _) rfl rfl ?_
      rintro _ w27 ⟨rfl, hx⟩
      replace H := H.ext hx; replace hb18 := hb18.ext hx; replace hT := hT.ext hx; replace hO4 := hO4.ext hx
      refine RL.r (asgB rfl) rfl ?_
      refine RL.nil ?_
      refine WP.ret ?_
      refine fin1_ret rfl ⟨rfl, H⟩
end Go.Proofs.Ytmjamhgihbapjaa
