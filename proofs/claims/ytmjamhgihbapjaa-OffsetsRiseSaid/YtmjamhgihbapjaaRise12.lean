/-
  OffsetsRise: the walk.
-/
import Derived.Test.YtmjamhgihbapjaaStep12
set_option linter.unusedVariables false
namespace Go.Proofs.Ytmjamhgihbapjaa
open Go Go.Eng Go.RowKit
set_option maxRecDepth 20000 in
set_option maxHeartbeats 1600000 in
theorem lRise (w0 : World) (a : Option Addr) (c : Nat) (l : List MOp) (m0 : Mrk) (hl : SlI w0 a l) :
    Ct Try.prog 4 #[.slice a l.length c, .agg (Lies.enc m0).toArray] w0 fun v w' => v = .bool true ∧ Ext w0 w' := by
  refine Ct.intro1 Try.func4 Try.ntmps4 rfl rfl (by decide) rfl ?_
  have H : Ext w0 w0 := Ext.refl w0
  obtain ⟨M, hMe⟩ : ∃ M, M = cutM m0 := ⟨_, rfl⟩
  refine WP.regionS ?_
  refine RL.boxS w0.heap.size H.size rfl rfl ?_
  intro w1 i3 hi3 hx hb3
  replace H := H.ext hx; clear hx
  refine RL.r (asgB rfl) rfl ?_
  refine RL.nil ?_
  refine WP.regionS ?_
  -- call stagecoach/offsets.New 
  refine RL.call (pNewB _ _ H.size) rfl rfl ?_
  rintro v w2 ⟨⟨i, m, rfl, hT⟩, hx⟩
  replace H := H.ext hx; replace hb3 := hb3.ext hx
  refine RL.r (asgP rfl) rfl ?_
  refine RL.nil ?_
  refine WP.seq ?_
  refine WP.regionS ?_
  refine RL.r (mvP rfl) rfl ?_
  refine RL.r (peqn rfl rfl) rfl ?_
  refine RL.nil ?_
  refine WP.cond rfl (fun hc => ?_) (fun hc => ?_)
  · refine WP.regionS ?_
    refine RL.r (asgB rfl) rfl ?_
    refine RL.nil ?_
    refine WP.ret ?_
    refine fin1_ret rfl ⟨absurd hc (by simp), H⟩
  · refine WP.skip ?_
    refine WP.regionS ?_
    refine RL.m (ldS_box rfl hb3 (Nat.le_of_ble_eq_true rfl) rfl) rfl ?_
    -- call stagecoach/stagecoachlaw12.cut (tmp 21)
    refine RL.call (lCutE _ hMe) rfl rfl ?_
    rintro _ w3 ⟨rfl, hx⟩
    replace H := H.ext hx; replace hb3 := hb3.ext hx; replace hT := hT.ext hx
    have hb3_0 := hb3
    refine RL.storeS rfl hb3 rfl rfl rfl rfl ?_
    intro w4 hu hb3
    replace hT := hT.bx hb3_0 (by decide) hu
    replace H := H.box hu hb3.old
    refine RL.nil ?_
    refine WP.seq ?_
    refine WP.regionS ?_
    refine RL.r (asgI rfl) rfl ?_
    refine RL.nil ?_
    refine WP.block ?_
    refine WP.loop (fun k e' w' => ∃ j : Nat, ∃ S : List Mrk,  j + k = min l.length 80 ∧ Head [4, 6, 7, 8, 9, 10, 11, 12, 13, 14, 15, 16, 17, 23, 24, 25, 26, 27, 28, 29, 30, 31, 32, 33, 34, 35, 36, 37, 38, 39, 40, 41, 42, 43, 44, 45, 46, 47, 48, 49, 50, 51, 52, 53, 54, 55, 56, 57, 58, 59, 60, 61, 62, 63, 64, 65, 66, 67, 68, 69, 70, 71, 72, 73, 74, 75, 76, 77, 78, 79, 80, 81, 82, 83, 84, 85, 86, 87, 88, 89, 90, 91, 92, 93, 94, 95, 96, 97, 98, 99, 100, 101, 102, 103, 104, 105, 106, 107, 108, 109, 110, 111, 112, 113, 114, 115, 116, 117, 118, 119, 120, 121, 122, 123, 124, 125, 126, 127, 128, 129, 130, 131, 132, 133, 134, 135, 136, 137, 138, 139, 140, 141, 142, 143, 144, 145, 146, 147, 148, 149, 150, 151, 152, 153, 154, 155, 156, 157, 158, 159, 160, 161, 162, 163, 164, 165, 166, 167, 168, 169, 170, 171, 172, 173, 174, 175, 176, 177, 178, 179, 180, 181] _ [(6, .int .i64 (j : Int))] e' ∧ Ext w0 w' ∧ Box w0.heap.size w' i3 26 (Lies.enc M) ∧ Tb w0.heap.size w' i m S ∧ S.length ≤ j) (min l.length 80)
      ⟨0, [], by omega, Head.intro (AgreeOff.refl _ _) ⟨rfl, trivial⟩, H, hb3, hT, Nat.le_refl _⟩ ?_
    clear H hb3 hT
    rintro k e w5 ⟨j, S, hjk, ⟨jk, rfl⟩, H, hb3, hT, hSl⟩
    refine WP.seq ?_
    refine WP.seq (WP.quiet ?_)
    refine QL.r (mvI rfl) rfl ?_
    refine QL.r (mvL rfl) rfl ?_
    refine QL.r (len_sl rfl) rfl ?_
    refine QL.r (lss rfl rfl) rfl ?_
    refine QL.r (mvB rfl) rfl ?_
    refine QL.gg (gwT rfl rfl) (fun hg => (mvI rfl).does _) rfl ?_
    refine QL.gg (gwT rfl rfl) (fun hg => (lss (gs hg rfl) rfl).does _) rfl ?_
    refine QL.r (pickAnd rfl (fun hn => gs hn rfl)) rfl ?_
    refine QL.nil ?_; intro w6 hx; replace H := H.ext hx; replace hb3 := hb3.ext hx; replace hT := hT.ext hx
    refine WP.cond rfl (fun hc => ?_) (fun hc => ?_)
    · refine WP.skip ?_
      refine WP.seq ?_
      refine WP.block ?_
      refine WP.regionS ?_
      refine RL.r (mvL rfl) rfl ?_
      refine RL.r (mvI rfl) rfl ?_
      have hj : j < l.length := by omega
      have hl := hl (List.ne_nil_of_length_pos (by omega))
      obtain ⟨p, rfl⟩ := hl.isAddr (by decide) hj
      refine RL.r (ix rfl rfl rfl (by omega)) rfl ?_
      refine RL.m (ldS_el rfl hl H rfl rfl (by omega)) rfl ?_
      refine RL.alloc w0.heap.size H.size rfl rfl ?_
      intro w7 i7 hi7 hx hb7
      have ne3_7 := hb3.ne hi7
      refine RL.storeS rfl hb7 rfl rfl rfl rfl ?_
      intro w8 hu hb7
      replace hx := hx.box hu (Nat.le_of_eq hi7.symm)
      replace H := H.ext hx; replace hb3 := hb3.ext hx; replace hT := hT.ext hx; clear hx hu
      refine RL.nil ?_
      refine WP.regionS ?_
      refine RL.r (fa_box rfl) rfl ?_
      refine RL.m (ldS_box rfl hb7 (Nat.le_of_ble_eq_true rfl) rfl) rfl ?_
      -- call stagecoach/stagecoachlaw12.cut (tmp 38)
      obtain ⟨X, hXe⟩ : ∃ X, X = cutM l[j].m := ⟨_, rfl⟩
      refine RL.call (lCutE _ hXe) rfl rfl ?_
      rintro _ w9 ⟨rfl, hx⟩
      replace H := H.ext hx; replace hb3 := hb3.ext hx; replace hb7 := hb7.ext hx; replace hT := hT.ext hx
      refine RL.alloc w0.heap.size H.size rfl rfl ?_
      intro w10 i8 hi8 hx hb8
      have ne3_8 := hb3.ne hi8
      have ne7_8 := hb7.ne hi8
      refine RL.storeS rfl hb8 rfl rfl rfl rfl ?_
      intro w11 hu hb8
      replace hx := hx.box hu (Nat.le_of_eq hi8.symm)
      replace H := H.ext hx; replace hb3 := hb3.ext hx; replace hb7 := hb7.ext hx; replace hT := hT.ext hx; clear hx hu
      refine RL.nil ?_
      refine WP.regionS ?_
      refine RL.r (mvP rfl) rfl ?_
      refine RL.r (fa_box rfl) rfl ?_
      refine RL.m (ld_box rfl hb3 rfl) rfl ?_
      refine RL.r (fa_box rfl) rfl ?_
      refine RL.m (ldS_box rfl hb3 (Nat.le_of_ble_eq_true rfl) rfl) rfl ?_
      -- call (*stagecoach/offsets.Table).Get (tmp 41) (tmp 43) (tmp 45)
      have hsrt := hT.srt
      refine RL.call (pGet _ _ i m S M.group ⟨M.topic, M.n⟩ hT) rfl rfl ?_
      rintro _ w12 ⟨rfl, hx⟩
      replace H := H.ext hx; replace hb3 := hb3.ext hx; replace hb7 := hb7.ext hx; replace hb8 := hb8.ext hx; replace hT := hT.ext hx
      refine RL.r (mvU rfl) rfl ?_
      refine RL.r (ex0 rfl) rfl ?_
      refine RL.r (ex1 rfl) rfl ?_
      refine RL.r (asgI rfl) rfl ?_
      refine RL.r (asgB rfl) rfl ?_
      refine RL.nil ?_
      refine WP.seq ?_
      refine WP.regionS ?_
      refine RL.r (fa_box rfl) rfl ?_
      refine RL.m (ld_box rfl hb7 rfl) rfl ?_
      refine RL.nil ?_
      refine WP.cut (α := Unit) [4, 11, 12, 13, 51, 52, 53, 54, 55, 56, 57, 58, 59, 60, 61, 62, 63, 64, 65, 66, 67, 68, 69, 70, 71, 72, 73, 74, 75, 76, 77, 78, 79, 80, 81, 82, 83, 84, 85, 86, 87, 88, 89, 90, 91, 92, 93, 94, 95, 96, 97, 98, 99, 100, 101, 102, 103, 104] (fun x => []) (fun x w' => Ext w0 w' ∧ Box w0.heap.size w' i3 26 (Lies.enc M) ∧ Box w0.heap.size w' i7 42 (Lies.enc l[j]) ∧ Box w0.heap.size w' i8 26 (Lies.enc X) ∧ Tb w0.heap.size w' i m (stepS S l[j].kind X)) ?_ ?_
      · refine WP.block ?_
        refine WP.regionS ?_
        refine RL.r (eql rfl rfl) rfl ?_
        refine RL.r (asgB rfl) rfl ?_
        refine RL.nil ?_
        refine WP.cond rfl (fun hc => ?_) (fun hc => ?_)
        · refine WP.regionS ?_
          refine RL.r (mvP rfl) rfl ?_
          refine RL.m (ldS_box rfl hb8 (Nat.le_of_ble_eq_true rfl) rfl) rfl ?_
          -- call (*stagecoach/offsets.Table).Put (tmp 53) (tmp 54)
          have hgot := put_got hsrt X
          refine RL.call (pPut _ _ i m S X hT) rfl rfl ?_
          rintro _ w13 ⟨⟨rfl, hT2⟩, hx⟩
          replace H := H.mp hx hT.old; replace hb3 := hb3.upd hx (hT.neb hb3); replace hb7 := hb7.upd hx (hT.neb hb7); replace hb8 := hb8.upd hx (hT.neb hb8)
          replace hT := hT2; clear hT2
          have hc1 := hc
          refine RL.r (asgI rfl) rfl ?_
          refine RL.nil ?_
          refine WP.regionS ?_
          refine RL.r (mvP rfl) rfl ?_
          refine RL.r (fa_box rfl) rfl ?_
          refine RL.m (ld_box rfl hb8 rfl) rfl ?_
          refine RL.r (fa_box rfl) rfl ?_
          refine RL.m (ldS_box rfl hb8 (Nat.le_of_ble_eq_true rfl) rfl) rfl ?_
          -- call (*stagecoach/offsets.Table).Get (tmp 57) (tmp 59) (tmp 61)
          refine RL.call (pGet _ _ i m (putR S X) X.group ⟨X.topic, X.n⟩ hT) rfl rfl ?_
          rintro _ w14 ⟨rfl, hx⟩
          replace H := H.ext hx; replace hb3 := hb3.ext hx; replace hb7 := hb7.ext hx; replace hb8 := hb8.ext hx; replace hT := hT.ext hx
          refine RL.r (mvU rfl) rfl ?_
          refine RL.r (ex0 rfl) rfl ?_
          refine RL.r (ex1 rfl) rfl ?_
          refine RL.r (asgI rfl) rfl ?_
          refine RL.r (asgB rfl) rfl ?_
          refine RL.nil ?_
          refine WP.seq (WP.quiet ?_)
          refine QL.r (mvI rfl) rfl ?_
          refine QL.r (eql rfl rfl) rfl ?_
          refine QL.r (mvB rfl) rfl ?_
          refine QL.gg (gwT rfl rfl) (fun hg => (mvI rfl).does _) rfl ?_
          refine QL.gg (gwT rfl rfl) (fun hg => (fa_box rfl).does _) rfl ?_
          refine QL.gg (gwT rfl rfl) (fun hg => ld_box (gs hg rfl) hb8 rfl) rfl ?_
          refine QL.gg (gwT rfl rfl) (fun hg => (neq (gs hg rfl) (gs hg rfl)).does _) rfl ?_
          refine QL.gg (gwT rfl rfl) (fun hg => (mvv (gs hg rfl)).does _) rfl ?_
          refine QL.gg (gwTF rfl rfl) (fun hg => (mvB rfl).does _) rfl ?_
          first | refine QL.gg (gwTF rfl rfl) (fun hg => (notD (gs hg rfl)).does _) rfl ?_ | refine QL.gg (gwTF rfl rfl) (fun hg => (not_ (gs hg rfl)).does _) rfl ?_
          refine QL.gg (gwT rfl rfl) (fun hg => (pickOr (gs hg rfl) (fun hn => gs ⟨hg, hn⟩ rfl)).does _) rfl ?_
          refine QL.r (pickAnd rfl (fun hn => gs hn rfl)) rfl ?_
          refine QL.r (mvB rfl) rfl ?_
          refine QL.gg (gwF rfl rfl) (fun hg => (mvI rfl).does _) rfl ?_
          refine QL.gg (gwF rfl rfl) (fun hg => (eql (gs hg rfl) rfl).does _) rfl ?_
          refine QL.gg (gwF rfl rfl) (fun hg => (mvv (gs hg rfl)).does _) rfl ?_
          refine QL.gg (gwTT rfl rfl) (fun hg => (mvI rfl).does _) rfl ?_
          refine QL.gg (gwTT rfl rfl) (fun hg => (fa_box rfl).does _) rfl ?_
          refine QL.gg (gwTT rfl rfl) (fun hg => ld_box (gs hg rfl) hb8 rfl) rfl ?_
          refine QL.gg (gwTT rfl rfl) (fun hg => (leq (gs hg rfl) (gs hg rfl)).does _) rfl ?_
          refine QL.gg (gwTT rfl rfl) (fun hg => (mvv (gs hg rfl)).does _) rfl ?_
          refine QL.gg (gwTF rfl rfl) (fun hg => (mvB rfl).does _) rfl ?_
          first | refine QL.gg (gwTF rfl rfl) (fun hg => (notD (gs hg rfl)).does _) rfl ?_ | refine QL.gg (gwTF rfl rfl) (fun hg => (not_ (gs hg rfl)).does _) rfl ?_
          refine QL.gg (gwTT rfl rfl) (fun hg => (pickOr (gs hg rfl) (fun hn => gs ⟨hg, hn⟩ rfl)).does _) rfl ?_
          refine QL.gg (gwF rfl rfl) (fun hg => (pickAnd (gs hg rfl) (fun hn => gs ⟨hg, hn⟩ rfl)).does _) rfl ?_
          refine QL.r (pickOr rfl (fun hn => gs hn rfl)) rfl ?_
          refine QL.nil ?_; intro w15 hx; replace H := H.ext hx; replace hb3 := hb3.ext hx; replace hb7 := hb7.ext hx; replace hb8 := hb8.ext hx; replace hT := hT.ext hx
          refine WP.cond rfl (fun hc => ?_) (fun hc => ?_)
          · refine WP.regionS ?_
            refine RL.r (asgB rfl) rfl ?_
            refine RL.nil ?_
            refine WP.ret ?_
            refine fin1_ret rfl ⟨?_, H⟩
            exfalso
            rcases hc with ⟨he, hc⟩ | ⟨he, hc⟩
            · have h1 := hgot.1 he
              rcases hc with hc | hc
              · exact hc (by rw [show (⟨X.group, X.topic, X.n⟩ : MKey) = X.key from rfl, h1]; rfl)
              · exact hc (by rw [show (⟨X.group, X.topic, X.n⟩ : MKey) = X.key from rfl, h1]; simp)
            · have h1 := hgot.2 he
              rcases hc with hc | hc
              · exact absurd h1.1 (Int.not_lt.2 hc)
              · exact hc h1.2
          · refine WP.skip ?_
            refine ⟨(), Head.intro (by repeat (first | with_reducible exact AgreeOff.refl _ _ | with_reducible exact AgreeOff.mix _ _ _ | refine AgreeOff.look rfl ?_ | refine AgreeOff.mixs rfl ?_)) trivial, H, hb3, hb7, hb8, (by have h := hT; unfold stepS; rw [if_pos hc1]; exact h)⟩
        · refine WP.regionS ?_
          refine RL.r (eql rfl rfl) rfl ?_
          refine RL.r (asgB rfl) rfl ?_
          refine RL.nil ?_
          refine WP.cond rfl (fun hc => ?_) (fun hc => ?_)
          · refine WP.region ?_
            refine RL.r (mvP rfl) rfl ?_
            refine RL.r (fa_box rfl) rfl ?_
            refine RL.m (ldS_box rfl hb8 (Nat.le_of_ble_eq_true rfl) rfl) rfl ?_
            refine RL.r (fa_box rfl) rfl ?_
            refine RL.m (ld_box rfl hb8 rfl) rfl ?_
            -- call (*stagecoach/offsets.Table).Raise (tmp 93) (tmp 95) (tmp 97)
            refine RL.call (pRaise _ _ i m S ⟨X.topic, X.n⟩ X.off hT (by omega)) rfl rfl ?_
            rintro _ w16 ⟨⟨rfl, hT2⟩, hx⟩
            replace H := H.mp hx hT.old; replace hb3 := hb3.upd hx (hT.neb hb3); replace hb7 := hb7.upd hx (hT.neb hb7); replace hb8 := hb8.upd hx (hT.neb hb8)
            replace hT := hT2; clear hT2
            refine RL.nil ?_
            refine ⟨(), Head.intro (by repeat (first | with_reducible exact AgreeOff.refl _ _ | with_reducible exact AgreeOff.mix _ _ _ | refine AgreeOff.look rfl ?_ | refine AgreeOff.mixs rfl ?_)) trivial, H, hb3, hb7, hb8, (by unfold stepS; rw [if_neg (by assumption), if_pos (by assumption)]; exact hT)⟩
          · refine WP.regionS ?_
            refine RL.r (eql rfl rfl) rfl ?_
            refine RL.r (asgB rfl) rfl ?_
            refine RL.nil ?_
            refine WP.cond rfl (fun hc => ?_) (fun hc => ?_)
            · refine WP.region ?_
              refine RL.r (mvP rfl) rfl ?_
              refine RL.r (fa_box rfl) rfl ?_
              refine RL.m (ld_box rfl hb8 rfl) rfl ?_
              -- call (*stagecoach/offsets.Table).Drop (tmp 101) (tmp 103)
              refine RL.call (pDrop _ _ i m S X.group hT (by omega)) rfl rfl ?_
              rintro _ w17 ⟨⟨rfl, hT2⟩, hx⟩
              replace H := H.mp hx hT.old; replace hb3 := hb3.upd hx (hT.neb hb3); replace hb7 := hb7.upd hx (hT.neb hb7); replace hb8 := hb8.upd hx (hT.neb hb8)
              replace hT := hT2; clear hT2
              refine RL.nil ?_
              refine ⟨(), Head.intro (by repeat (first | with_reducible exact AgreeOff.refl _ _ | with_reducible exact AgreeOff.mix _ _ _ | refine AgreeOff.look rfl ?_ | refine AgreeOff.mixs rfl ?_)) trivial, H, hb3, hb7, hb8, (by unfold stepS; rw [if_neg (by assumption), if_neg (by assumption), if_pos (by assumption)]; exact hT)⟩
            · refine WP.skip ?_
              refine ⟨(), Head.intro (by repeat (first | with_reducible exact AgreeOff.refl _ _ | with_reducible exact AgreeOff.mix _ _ _ | refine AgreeOff.look rfl ?_ | refine AgreeOff.mixs rfl ?_)) trivial, H, hb3, hb7, hb8, (by unfold stepS; rw [if_neg (by assumption), if_neg (by assumption), if_neg (by assumption)]; exact hT)⟩
      rintro _ jc w18 ⟨H, hb3, hb7, hb8, hT⟩
      refine WP.regionS ?_
      refine RL.r (mvP rfl) rfl ?_
      refine RL.r (fa_box rfl) rfl ?_
      refine RL.m (ld_box rfl hb3 rfl) rfl ?_
      refine RL.r (fa_box rfl) rfl ?_
      refine RL.m (ldS_box rfl hb3 (Nat.le_of_ble_eq_true rfl) rfl) rfl ?_
      -- call (*stagecoach/offsets.Table).Get (tmp 106) (tmp 108) (tmp 110)
      refine RL.call (pGet _ _ i m (stepS S l[j].kind X) M.group ⟨M.topic, M.n⟩ hT) rfl rfl ?_
      rintro _ w19 ⟨rfl, hx⟩
      replace H := H.ext hx; replace hb3 := hb3.ext hx; replace hb7 := hb7.ext hx; replace hb8 := hb8.ext hx; replace hT := hT.ext hx
      refine RL.r (mvU rfl) rfl ?_
      refine RL.r (ex0 rfl) rfl ?_
      refine RL.r (ex1 rfl) rfl ?_
      refine RL.r (asgI rfl) rfl ?_
      refine RL.r (asgB rfl) rfl ?_
      refine RL.nil ?_
      refine WP.seq (WP.quiet ?_)
      refine QL.r (fa_box rfl) rfl ?_
      refine QL.m (ld_box rfl hb7 rfl) rfl ?_
      refine QL.r (eql rfl rfl) rfl ?_
      refine QL.r (mvB rfl) rfl ?_
      refine QL.gg (gwT rfl rfl) (fun hg => (fa_box rfl).does _) rfl ?_
      refine QL.gg (gwT rfl rfl) (fun hg => ld_box (gs hg rfl) hb8 rfl) rfl ?_
      refine QL.gg (gwT rfl rfl) (fun hg => (fa_box rfl).does _) rfl ?_
      refine QL.gg (gwT rfl rfl) (fun hg => ld_box (gs hg rfl) hb3 rfl) rfl ?_
      refine QL.gg (gwT rfl rfl) (fun hg => (seql (gs hg rfl) (gs hg rfl)).does _) rfl ?_
      refine QL.r (pickAnd rfl (fun hn => gs hn rfl)) rfl ?_
      refine QL.r (asgB rfl) rfl ?_
      refine QL.nil ?_; intro w20 hx; replace H := H.ext hx; replace hb3 := hb3.ext hx; replace hb7 := hb7.ext hx; replace hb8 := hb8.ext hx; replace hT := hT.ext hx
      refine WP.seq (WP.quiet ?_)
      refine QL.r (fa_box rfl) rfl ?_
      refine QL.m (ldS_box rfl hb8 (Nat.le_of_ble_eq_true rfl) rfl) rfl ?_
      refine QL.r (fa_box rfl) rfl ?_
      refine QL.m (ldS_box rfl hb3 (Nat.le_of_ble_eq_true rfl) rfl) rfl ?_
      refine QL.r (aneq (α := Part) (p := (⟨X.topic, X.n⟩ : Part)) (q := (⟨M.topic, M.n⟩ : Part)) rfl rfl) rfl ?_
      refine QL.r (mvB rfl) rfl ?_
      refine QL.gg (gwF rfl rfl) (fun hg => (fa_box rfl).does _) rfl ?_
      refine QL.gg (gwF rfl rfl) (fun hg => ld_box (gs hg rfl) hb7 rfl) rfl ?_
      refine QL.gg (gwF rfl rfl) (fun hg => (eql (gs hg rfl) rfl).does _) rfl ?_
      refine QL.gg (gwF rfl rfl) (fun hg => (mvv (gs hg rfl)).does _) rfl ?_
      refine QL.gg (gwTT rfl rfl) (fun hg => (fa_box rfl).does _) rfl ?_
      refine QL.gg (gwTT rfl rfl) (fun hg => ld_box (gs hg rfl) hb8 rfl) rfl ?_
      refine QL.gg (gwTT rfl rfl) (fun hg => (fa_box rfl).does _) rfl ?_
      refine QL.gg (gwTT rfl rfl) (fun hg => ld_box (gs hg rfl) hb3 rfl) rfl ?_
      refine QL.gg (gwTT rfl rfl) (fun hg => (sneq (gs hg rfl) (gs hg rfl)).does _) rfl ?_
      refine QL.gg (gwF rfl rfl) (fun hg => (pickAnd (gs hg rfl) (fun hn => gs ⟨hg, hn⟩ rfl)).does _) rfl ?_
      refine QL.r (pickOr rfl (fun hn => gs hn rfl)) rfl ?_
      refine QL.r (asgB rfl) rfl ?_
      refine QL.nil ?_; intro w21 hx; replace H := H.ext hx; replace hb3 := hb3.ext hx; replace hb7 := hb7.ext hx; replace hb8 := hb8.ext hx; replace hT := hT.ext hx
      refine WP.seq (WP.quiet ?_)
      refine QL.r (mvB rfl) rfl ?_
      refine QL.r (mvB rfl) rfl ?_
      refine QL.gg (gwT rfl rfl) (fun hg => (mvB rfl).does _) rfl ?_
      refine QL.gg (gwT rfl rfl) (fun hg => (mvv (gs hg rfl)).does _) rfl ?_
      refine QL.gg (gwTF rfl rfl) (fun hg => (mvI rfl).does _) rfl ?_
      refine QL.gg (gwTF rfl rfl) (fun hg => (neq (gs hg rfl) rfl).does _) rfl ?_
      refine QL.gg (gwT rfl rfl) (fun hg => (pickOr (gs hg rfl) (fun hn => gs ⟨hg, hn⟩ rfl)).does _) rfl ?_
      refine QL.r (pickAnd rfl (fun hn => gs hn rfl)) rfl ?_
      refine QL.r (mvB rfl) rfl ?_
      refine QL.gg (gwF rfl rfl) (fun hg => (mvB rfl).does _) rfl ?_
      first | refine QL.gg (gwF rfl rfl) (fun hg => (notD (gs hg rfl)).does _) rfl ?_ | refine QL.gg (gwF rfl rfl) (fun hg => (not_ (gs hg rfl)).does _) rfl ?_
      refine QL.gg (gwF rfl rfl) (fun hg => (mvv (gs hg rfl)).does _) rfl ?_
      refine QL.gg (gwTT rfl rfl) (fun hg => (mvB rfl).does _) rfl ?_
      refine QL.gg (gwTT rfl rfl) (fun hg => (mvv (gs hg rfl)).does _) rfl ?_
      refine QL.gg (gwTT rfl rfl) (fun hg => (mvB rfl).does _) rfl ?_
      first | refine QL.gg (gwTT rfl rfl) (fun hg => (notD (gs hg rfl)).does _) rfl ?_ | refine QL.gg (gwTT rfl rfl) (fun hg => (not_ (gs hg rfl)).does _) rfl ?_
      refine QL.gg (gwTT rfl rfl) (fun hg => (pickAnd (gs hg rfl) (fun hn => gs ⟨hg, hn⟩ rfl)).does _) rfl ?_
      refine QL.gg (gwTT rfl rfl) (fun hg => (mvv (gs hg rfl)).does _) rfl ?_
      refine QL.gg (gwTF rfl rfl) (fun hg => (mvI rfl).does _) rfl ?_
      refine QL.gg (gwTF rfl rfl) (fun hg => (mvI rfl).does _) rfl ?_
      refine QL.gg (gwTF rfl rfl) (fun hg => (lss (gs hg rfl) (gs hg rfl)).does _) rfl ?_
      refine QL.gg (gwTT rfl rfl) (fun hg => (pickOr (gs hg rfl) (fun hn => gs ⟨hg, hn⟩ rfl)).does _) rfl ?_
      refine QL.gg (gwF rfl rfl) (fun hg => (pickAnd (gs hg rfl) (fun hn => gs ⟨hg, hn⟩ rfl)).does _) rfl ?_
      refine QL.r (pickOr rfl (fun hn => gs hn rfl)) rfl ?_
      refine QL.r (mvB rfl) rfl ?_
      refine QL.gg (gwF rfl rfl) (fun hg => (mvB rfl).does _) rfl ?_
      refine QL.gg (gwF rfl rfl) (fun hg => (mvv (gs hg rfl)).does _) rfl ?_
      refine QL.gg (gwTT rfl rfl) (fun hg => (mvB rfl).does _) rfl ?_
      first | refine QL.gg (gwTT rfl rfl) (fun hg => (notD (gs hg rfl)).does _) rfl ?_ | refine QL.gg (gwTT rfl rfl) (fun hg => (not_ (gs hg rfl)).does _) rfl ?_
      refine QL.gg (gwF rfl rfl) (fun hg => (pickAnd (gs hg rfl) (fun hn => gs ⟨hg, hn⟩ rfl)).does _) rfl ?_
      refine QL.gg (gwF rfl rfl) (fun hg => (mvv (gs hg rfl)).does _) rfl ?_
      refine QL.gg (gwTT rfl rfl) (fun hg => (fa_box rfl).does _) rfl ?_
      refine QL.gg (gwTT rfl rfl) (fun hg => ld_box (gs hg rfl) hb7 rfl) rfl ?_
      refine QL.gg (gwTT rfl rfl) (fun hg => (neq (gs hg rfl) rfl).does _) rfl ?_
      refine QL.gg (gwF rfl rfl) (fun hg => (pickAnd (gs hg rfl) (fun hn => gs ⟨hg, hn⟩ rfl)).does _) rfl ?_
      refine QL.gg (gwF rfl rfl) (fun hg => (mvv (gs hg rfl)).does _) rfl ?_
      refine QL.gg (gwTT rfl rfl) (fun hg => (mvI rfl).does _) rfl ?_
      refine QL.gg (gwTT rfl rfl) (fun hg => (mvI rfl).does _) rfl ?_
      refine QL.gg (gwTT rfl rfl) (fun hg => (neq (gs hg rfl) (gs hg rfl)).does _) rfl ?_
      refine QL.gg (gwF rfl rfl) (fun hg => (pickAnd (gs hg rfl) (fun hn => gs ⟨hg, hn⟩ rfl)).does _) rfl ?_
      refine QL.r (pickOr rfl (fun hn => gs hn rfl)) rfl ?_
      refine QL.nil ?_; intro w22 hx; replace H := H.ext hx; replace hb3 := hb3.ext hx; replace hb7 := hb7.ext hx; replace hb8 := hb8.ext hx; replace hT := hT.ext hx
      refine WP.cond rfl (fun hc => ?_) (fun hc => ?_)
      · refine WP.regionS ?_
        refine RL.r (asgB rfl) rfl ?_
        refine RL.nil ?_
        refine WP.ret ?_
        refine fin1_ret rfl ⟨?_, H⟩
        exfalso
        exact rise_fin hsrt _ X M hc
      · refine WP.skip ?_
        refine WP.region ?_
        refine RL.r (mvI rfl) rfl ?_
        refine RL.r (add rfl rfl (by omega)) rfl ?_
        refine RL.r (asgI rfl) rfl ?_
        refine RL.nil ?_
        refine ⟨k - 1, by omega, j + 1, stepS S l[j].kind X, by omega, Head.intro (by repeat (first | with_reducible exact AgreeOff.mix _ _ _ | refine AgreeOff.look rfl ?_ | refine AgreeOff.mixs rfl ?_)) ⟨rfl, trivial⟩, H, hb3, hT, (by have := stepS_len S l[j].kind X; omega)⟩
    · refine WP.exit ?_
      refine WP.regionS ?_
      -- call stagecoach/stagecoachlaw12.fixed 
      refine RL.call (lFixed _) rfl rfl ?_
      rintro _ w23 ⟨rfl, hx⟩
      replace H := H.ext hx; replace hb3 := hb3.ext hx; replace hT := hT.ext hx
      refine RL.r (asgB rfl) rfl ?_
      refine RL.nil ?_
      refine WP.ret ?_
      refine fin1_ret rfl ⟨rfl, H⟩
end Go.Proofs.Ytmjamhgihbapjaa
