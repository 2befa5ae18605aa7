/-
  The document's table of producers: the walk of Ask.
-/
import Derived.Test.YtbggmjnhfacjpaaRef08
set_option linter.unusedVariables false
namespace Go.Proofs.Ytbggmjnhfacjpaa
open Go Go.Eng Go.RowKit
set_option maxRecDepth 20000 in
set_option maxHeartbeats 1600000 in
theorem rAsk (w0 : World) (B i : Nat) (Y : Nat → Prop) (D : Ds) (hR : Tr B w0 i Y D) (K : Int) (M : Nat) (hok : okD K M D) (hK : 0 ≤ K ∧ K ≤ 4611686018427387904) (hM : M ≤ 100000) (p : Part) (b : Bat) :
    Ct Try.prog 25 #[.pointer (some ⟨i, 0, none⟩), .agg (Lies.enc p).toArray, .agg (Lies.enc b).toArray] w0 fun v w' => v = .tuple #[.int .i64 (askA D p b).1, .bool (decide ((askA D p b).2.1 = true)), .int .i64 (askA D p b).2.2] ∧ Ext w0 w' := by
  refine Ct.intro3 Try.func25 Try.ntmps25 rfl rfl (by decide) rfl ?_
  have H : Ext w0 w0 := Ext.refl w0
  obtain ⟨a, c, b2, d, L, hQ, hLm, hY⟩ := hR.at_
  have hbt := hQ.box
  have hE := hQ.eps
  have hl32 := hok.len
  refine WP.regionS ?_
  refine RL.boxS w0.heap.size H.size rfl rfl ?_
  intro w1 i4 hi4 hx hb4
  have net_4 := hbt.ne hi4
  replace H := H.ext hx; replace hbt := hbt.ext hx; replace hE := hE.ext hx; replace hR := hR.ext hx; clear hx
  refine RL.boxS w0.heap.size H.size rfl rfl ?_
  intro w2 i5 hi5 hx hb5
  have net_5 := hbt.ne hi5
  have ne4_5 := hb4.ne hi5
  replace H := H.ext hx; replace hbt := hbt.ext hx; replace hb4 := hb4.ext hx; replace hE := hE.ext hx; replace hR := hR.ext hx; clear hx
  refine RL.r (asgI rfl) rfl ?_
  refine RL.r (asgB rfl) rfl ?_
  refine RL.r (asgI rfl) rfl ?_
  refine RL.nil ?_
  refine WP.seq ?_
  refine WP.regionS ?_
  refine RL.r (fa_box rfl) rfl ?_
  refine RL.m (ld_box rfl hb5 rfl) rfl ?_
  refine RL.r (eql rfl rfl) rfl ?_
  refine RL.nil ?_
  refine WP.cond rfl (fun hc => ?_) (fun hc => ?_)
  · refine WP.regionS ?_
    refine RL.r (asgI rfl) rfl ?_
    refine RL.r (asgB rfl) rfl ?_
    refine RL.r (asgI rfl) rfl ?_
    refine RL.nil ?_
    refine WP.ret ?_
    refine fin3_ret rfl rfl rfl ⟨askV (by unfold askA; rw [if_pos hc]), H⟩
  · refine WP.skip ?_
    refine WP.seq ?_
    refine WP.seq ?_
    refine WP.draw (by kernel_rfl) ?_
    refine QL.r (mvP rfl) rfl ?_
    refine QL.r (fa_box rfl) rfl ?_
    refine QL.m (ld_box rfl hb5 rfl) rfl ?_
    -- call (*stagecoach/stagecoachref08.Table).is (tmp 15) (tmp 17)
    refine QL.call (fun w' hw' => rIs w' B i a b2 c d D.E L (hbt.ext hw') b.prod) rfl rfl ?_
    first | refine QL.r (notD rfl) rfl ?_ | refine QL.r (not_ rfl) rfl ?_
    refine QL.r (mvB rfl) rfl ?_
    refine QL.gg (gwF rfl rfl) (fun hg => (mvP rfl).does _) rfl ?_
    refine QL.gg (gwF rfl rfl) (fun hg => (nilck (gs hg rfl)).does _) rfl ?_
    refine QL.gg (gwF rfl rfl) (fun hg => (fa_box (gs hg rfl)).does _) rfl ?_
    refine QL.gg (gwF rfl rfl) (fun hg => ld_box (gs hg rfl) hbt rfl) rfl ?_
    refine QL.gg (gwF rfl rfl) (fun hg => (fa_box rfl).does _) rfl ?_
    refine QL.gg (gwF rfl rfl) (fun hg => ld_box (gs hg rfl) hb5 rfl) rfl ?_
    refine QL.gg (gwF rfl rfl) (fun hg => (sub (gs hg rfl) rfl (by have h8 : isD D.E b.prod := Classical.byContradiction fun h9 => hg h9; unfold isD at h8; omega)).does _) rfl ?_
    refine QL.gg (gwF rfl rfl) (fun hg => (ix_o (gs hg rfl) (gs hg rfl) (show b.prod - 1 = (((b.prod - 1).toNat : Nat) : Int) by have h8 : isD D.E b.prod := Classical.byContradiction fun h9 => hg h9; unfold isD at h8; omega) (show (b.prod - 1).toNat < D.E.length by have h8 : isD D.E b.prod := Classical.byContradiction fun h9 => hg h9; unfold isD at h8; omega) (hE.sl.someA (i := (b.prod - 1).toNat) (by decide) (show (b.prod - 1).toNat < D.E.length by have h8 : isD D.E b.prod := Classical.byContradiction fun h9 => hg h9; unfold isD at h8; omega))).does _) rfl ?_
    refine QL.gg (gwF rfl rfl) (fun hg => ld_o0 (gs hg rfl) hE.sl (Ext.refl _) rfl (show (b.prod - 1).toNat < D.E.length by have h8 : isD D.E b.prod := Classical.byContradiction fun h9 => hg h9; unfold isD at h8; omega) (ep_cell _) (by decide)) rfl ?_
    refine QL.gg (gwF rfl rfl) (fun hg => (fa_box rfl).does _) rfl ?_
    refine QL.gg (gwF rfl rfl) (fun hg => ld_box (gs hg rfl) hb5 rfl) rfl ?_
    refine QL.gg (gwF rfl rfl) (fun hg => (lss (gs hg rfl) (gs hg rfl)).does _) rfl ?_
    refine QL.r (pickOr rfl (fun hn => gs hn rfl)) rfl ?_
    refine QL.nil ?_; intro w4 hx; replace H := H.ext hx; replace hbt := hbt.ext hx; replace hb4 := hb4.ext hx; replace hb5 := hb5.ext hx; replace hE := hE.ext hx; replace hR := hR.ext hx
    refine WP.cond rfl (fun hc => ?_) (fun hc => ?_)
    · refine WP.regionS ?_
      refine RL.r (asgI rfl) rfl ?_
      refine RL.r (asgB rfl) rfl ?_
      refine RL.r (asgI rfl) rfl ?_
      refine RL.nil ?_
      refine WP.ret ?_
      have hne0 : ¬ b.prod = 0 := by assumption
      refine fin3_ret rfl rfl rfl ⟨askV (by
        unfold askA
        rw [if_neg hne0]
        by_cases hid : isD D.E b.prod
        · have hlt : ep D.E b.prod < b.epoch := hc.resolve_left (fun h => h hid)
          rw [if_neg (not_not_intro hid), if_neg (by omega), if_pos hlt]
        · rw [if_pos hid]), H⟩
    · refine WP.skip ?_
      refine WP.seq ?_
      refine WP.seq ?_
      refine WP.draw (by kernel_rfl) ?_
      refine QL.r (mvP rfl) rfl ?_
      refine QL.r (nilck rfl) rfl ?_
      refine QL.r (fa_box rfl) rfl ?_
      refine QL.m (ld_box rfl hbt rfl) rfl ?_
      refine QL.r (fa_box rfl) rfl ?_
      refine QL.m (ld_box rfl hb5 rfl) rfl ?_
      refine QL.r (sub rfl rfl (by first | omega | (have hid : isD D.E b.prod := Classical.byContradiction fun h => hc (.inl h); unfold isD at hid; omega))) rfl ?_
      have hid : isD D.E b.prod := Classical.byContradiction fun h => hc (.inl h)
      have hge : ¬ ep D.E b.prod < b.epoch := fun h => hc (.inr h)
      obtain ⟨j0, hj0, hje, hep⟩ := isD_at hid
      have hid2 := hid
      unfold isD at hid2
      refine QL.r (ix_o rfl rfl hje hj0 (hE.sl.someA (by decide) hj0)) rfl ?_
      refine QL.m (ld_o0 rfl hE.sl (Ext.refl _) rfl hj0 rfl (by decide)) rfl ?_
      refine QL.r (fa_box rfl) rfl ?_
      refine QL.m (ld_box rfl hb5 rfl) rfl ?_
      refine QL.r (gtr rfl rfl) rfl ?_
      refine QL.nil ?_; intro w5 hx; replace H := H.ext hx; replace hbt := hbt.ext hx; replace hb4 := hb4.ext hx; replace hb5 := hb5.ext hx; replace hE := hE.ext hx; replace hR := hR.ext hx
      refine WP.cond rfl (fun hc => ?_) (fun hc => ?_)
      · refine WP.regionS ?_
        refine RL.r (asgI rfl) rfl ?_
        refine RL.r (asgB rfl) rfl ?_
        refine RL.r (asgI rfl) rfl ?_
        refine RL.nil ?_
        refine WP.ret ?_
        refine fin3_ret rfl rfl rfl ⟨askV (by unfold askA; rw [if_neg (by assumption), if_neg (not_not_intro hid), hep, if_pos hc]), H⟩
      · refine WP.skip ?_
        refine WP.regionS ?_
        refine RL.r (mvP rfl) rfl ?_
        refine RL.r (fa_box rfl) rfl ?_
        refine RL.m (ld_box rfl hb5 rfl) rfl ?_
        refine RL.m (ldS_box rfl hb4 (Nat.le_of_ble_eq_true rfl) rfl) rfl ?_
        -- call (*stagecoach/stagecoachref08.Table).last (tmp 46) (tmp 48) (tmp 49)
        have hepq : ep D.E b.prod = b.epoch := by rw [hep] at hge ⊢; omega
        have hbd := lastD_due hok hK.1 ⟨b.prod, p⟩
        have hl5 := lastD_len hok ⟨b.prod, p⟩
        refine RL.call (rLast _ B i Y D hR K M hok hM b.prod p) rfl rfl ?_
        rintro v w6 ⟨⟨la, lc, rfl, hl⟩, hx⟩
        replace H := H.ext hx; replace hbt := hbt.ext hx; replace hb4 := hb4.ext hx; replace hb5 := hb5.ext hx; replace hE := hE.ext hx; replace hR := hR.ext hx
        refine RL.r (asgL rfl) rfl ?_
        refine RL.r (asgI rfl) rfl ?_
        refine RL.nil ?_
        refine WP.seq ?_
        refine WP.regionS ?_
        refine RL.r (mvL rfl) rfl ?_
        refine RL.r (len_sl rfl) rfl ?_
        refine RL.r (gtr rfl rfl) rfl ?_
        refine RL.nil ?_
        refine WP.cut (α := Int) [10, 54, 55, 56, 57, 58, 59, 60, 61, 62, 63, 64, 65, 66, 67, 68] (fun x => [(10, .int .i64 x)]) (fun x w' => Ext w0 w' ∧ Box B w' i 65 [.slice a D.E.length c, .slice b2 L.length d] ∧ Box w0.heap.size w' i4 25 (Lies.enc p) ∧ Box w0.heap.size w' i5 28 (Lies.enc b) ∧ x = dueL (lastD D.S ⟨b.prod, p⟩) ∧ Sl w' la (lastD D.S ⟨b.prod, p⟩)) ?_ ?_
        · refine WP.cond rfl (fun hc => ?_) (fun hc => ?_)
          · refine WP.draw (by kernel_rfl) ?_
            refine QL.r (mvL rfl) rfl ?_
            refine QL.r (mvL rfl) rfl ?_
            refine QL.r (len_sl rfl) rfl ?_
            refine QL.r (sub rfl rfl (by first | omega | (have hid : isD D.E b.prod := Classical.byContradiction fun h => hc (.inl h); unfold isD at hid; omega))) rfl ?_
            obtain ⟨j, hj⟩ : ∃ j, j + 1 = (lastD D.S ⟨b.prod, p⟩).length := ⟨(lastD D.S ⟨b.prod, p⟩).length - 1, by omega⟩
            have hjl : j < (lastD D.S ⟨b.prod, p⟩).length := by omega
            rw [dueL_last hj] at hbd
            obtain ⟨q, hq⟩ := hl.isAddr (by decide) hjl
            subst hq
            refine QL.r (ix_o rfl rfl (show (((lastD D.S ⟨b.prod, p⟩).length : Int) - 1) = ((j : Nat) : Int) by omega) hjl (Option.some_ne_none _)) rfl ?_
            refine QL.r (fa_el hl.1 rfl) rfl ?_
            refine QL.m (ld_el rfl hl (Ext.refl _) rfl hjl rfl) rfl ?_
            refine QL.r (mvL rfl) rfl ?_
            refine QL.r (mvL rfl) rfl ?_
            refine QL.r (len_sl rfl) rfl ?_
            refine QL.r (sub rfl rfl (by first | omega | (have hid : isD D.E b.prod := Classical.byContradiction fun h => hc (.inl h); unfold isD at hid; omega))) rfl ?_
            refine QL.r (ix_o rfl rfl (show (((lastD D.S ⟨b.prod, p⟩).length : Int) - 1) = ((j : Nat) : Int) by omega) hjl (Option.some_ne_none _)) rfl ?_
            refine QL.r (fa_el hl.1 rfl) rfl ?_
            refine QL.m (ld_el rfl hl (Ext.refl _) rfl hjl rfl) rfl ?_
            refine QL.r (add rfl rfl (by omega)) rfl ?_
            refine QL.r (asgI rfl) rfl ?_
            refine QL.nil ?_; intro w7 hx; replace H := H.ext hx; replace hbt := hbt.ext hx; replace hb4 := hb4.ext hx; replace hb5 := hb5.ext hx; replace hE := hE.ext hx; replace hR := hR.ext hx; replace hl := hl.ext hx
            refine ⟨(lastD D.S ⟨b.prod, p⟩)[j].seq + (lastD D.S ⟨b.prod, p⟩)[j].n, Head.intro (by repeat (first | with_reducible exact AgreeOff.refl _ _ | with_reducible exact AgreeOff.mix _ _ _ | refine AgreeOff.look rfl ?_ | refine AgreeOff.mixs rfl ?_)) ⟨rfl, trivial⟩, H, hbt, hb4, hb5, (dueL_last hj).symm, hl⟩
          · refine WP.skip ?_
            refine ⟨0, Head.intro (by repeat (first | with_reducible exact AgreeOff.refl _ _ | with_reducible exact AgreeOff.mix _ _ _ | refine AgreeOff.look rfl ?_ | refine AgreeOff.mixs rfl ?_)) ⟨rfl, trivial⟩, H, hbt, hb4, hb5, (by rw [List.length_eq_zero_iff.1 (show (lastD D.S ⟨b.prod, p⟩).length = 0 by omega)]; rfl), hl⟩
        rintro due jc w8 ⟨H, hbt, hb4, hb5, hdue, hl⟩
        refine WP.seq ?_
        refine WP.regionS ?_
        refine RL.r (fa_box rfl) rfl ?_
        refine RL.m (ld_box rfl hb5 rfl) rfl ?_
        refine RL.r (mvI rfl) rfl ?_
        refine RL.r (eql rfl rfl) rfl ?_
        refine RL.nil ?_
        refine WP.cond rfl (fun hc => ?_) (fun hc => ?_)
        · refine WP.regionS ?_
          refine RL.r (asgI rfl) rfl ?_
          refine RL.r (asgB rfl) rfl ?_
          refine RL.r (asgI rfl) rfl ?_
          refine RL.nil ?_
          refine WP.ret ?_
          refine fin3_ret rfl rfl rfl ⟨askV (by unfold askA; rw [if_neg (by assumption), if_neg (not_not_intro hid), hepq, if_neg (by omega), if_neg (by omega), if_pos (hdue ▸ hc)]), H⟩
        · refine WP.skip ?_
          refine WP.seq ?_
          refine WP.regionS ?_
          refine RL.r (asgI rfl) rfl ?_
          refine RL.nil ?_
          refine WP.block ?_
          refine WP.loop (fun k e' w' => ∃ j : Nat,  j + k = (lastD D.S ⟨b.prod, p⟩).length ∧ Head [6, 7, 8, 11, 73, 74, 75, 76, 77, 78, 79, 80, 81, 82, 83, 84, 85, 86, 87, 88, 89, 90, 91, 92, 93, 94, 95, 96, 97, 98, 99, 100, 101, 102] _ [(11, .int .i64 (j : Int))] e' ∧ Ext w0 w' ∧ Box B w' i 65 [.slice a D.E.length c, .slice b2 L.length d] ∧ Box w0.heap.size w' i4 25 (Lies.enc p) ∧ Box w0.heap.size w' i5 28 (Lies.enc b) ∧ Sl w' la (lastD D.S ⟨b.prod, p⟩) ∧ ∀ (n : Nat) (h : n < (lastD D.S ⟨b.prod, p⟩).length), n < j → ¬ isB b (lastD D.S ⟨b.prod, p⟩)[n]) ((lastD D.S ⟨b.prod, p⟩).length)
            ⟨0, by omega, Head.intro (AgreeOff.refl _ _) ⟨rfl, trivial⟩, H, hbt, hb4, hb5, hl, fun n h hn => by omega⟩ ?_
          clear H hbt hb4 hb5 hE hR hl
          rintro k e w9 ⟨j, hjk, ⟨jk, rfl⟩, H, hbt, hb4, hb5, hl, hok2⟩
          refine WP.seq ?_
          refine WP.regionS ?_
          refine RL.r (mvI rfl) rfl ?_
          refine RL.r (mvL rfl) rfl ?_
          refine RL.r (len_sl rfl) rfl ?_
          refine RL.r (lss rfl rfl) rfl ?_
          refine RL.nil ?_
          refine WP.cond rfl (fun hc => ?_) (fun hc => ?_)
          · refine WP.skip ?_
            refine WP.seq ?_
            refine WP.block ?_
            refine WP.seq ?_
            refine WP.draw (by kernel_rfl) ?_
            refine QL.r (mvL rfl) rfl ?_
            refine QL.r (mvI rfl) rfl ?_
            have hj : j < (lastD D.S ⟨b.prod, p⟩).length := by omega
            obtain ⟨q, hq⟩ := hl.isAddr (by decide) hj
            subst hq
            refine QL.r (ix_o rfl rfl rfl hj (Option.some_ne_none _)) rfl ?_
            refine QL.r (fa_el hl.1 rfl) rfl ?_
            refine QL.m (ld_el rfl hl (Ext.refl _) rfl hj rfl) rfl ?_
            refine QL.r (fa_box rfl) rfl ?_
            refine QL.m (ld_box rfl hb5 rfl) rfl ?_
            refine QL.r (eql rfl rfl) rfl ?_
            refine QL.r (mvB rfl) rfl ?_
            refine QL.gg (gwT rfl rfl) (fun hg => (mvL rfl).does _) rfl ?_
            refine QL.gg (gwT rfl rfl) (fun hg => (mvI rfl).does _) rfl ?_
            refine QL.gg (gwT rfl rfl) (fun hg => (ix_o (gs hg rfl) (gs hg rfl) rfl hj (Option.some_ne_none _)).does _) rfl ?_
            refine QL.gg (gwT rfl rfl) (fun hg => (fa_el hl.1 (gs hg rfl)).does _) rfl ?_
            refine QL.gg (gwT rfl rfl) (fun hg => ld_el (gs hg rfl) hl (Ext.refl _) rfl hj rfl) rfl ?_
            refine QL.gg (gwT rfl rfl) (fun hg => (fa_box rfl).does _) rfl ?_
            refine QL.gg (gwT rfl rfl) (fun hg => ld_box (gs hg rfl) hb5 rfl) rfl ?_
            refine QL.gg (gwT rfl rfl) (fun hg => (len_sl (gs hg rfl)).does _) rfl ?_
            refine QL.gg (gwT rfl rfl) (fun hg => (eql (gs hg rfl) (gs hg rfl)).does _) rfl ?_
            refine QL.r (pickAnd rfl (fun hn => gs hn rfl)) rfl ?_
            refine QL.nil ?_; intro w10 hx; replace H := H.ext hx; replace hbt := hbt.ext hx; replace hb4 := hb4.ext hx; replace hb5 := hb5.ext hx; replace hl := hl.ext hx
            refine WP.cond rfl (fun hc => ?_) (fun hc => ?_)
            · refine WP.regionS ?_
              refine RL.r (mvL rfl) rfl ?_
              refine RL.r (mvI rfl) rfl ?_
              refine RL.r (ix_o rfl rfl rfl hj (Option.some_ne_none _)) rfl ?_
              refine RL.r (fa_el hl.1 rfl) rfl ?_
              refine RL.m (ld_el rfl hl (Ext.refl _) rfl hj rfl) rfl ?_
              refine RL.r (asgI rfl) rfl ?_
              refine RL.r (asgB rfl) rfl ?_
              refine RL.r (asgI rfl) rfl ?_
              refine RL.nil ?_
              refine WP.ret ?_
              have hix : idxB (lastD D.S ⟨b.prod, p⟩) b = some j := by
                unfold idxB
                rw [List.findIdx?_eq_some_iff_getElem]
                exact ⟨hj, by simpa using (show isB b (lastD D.S ⟨b.prod, p⟩)[j] from hc), fun n hn => by simpa using hok2 n (by omega) hn⟩
              refine fin3_ret rfl rfl rfl ⟨askV (by unfold askA; rw [if_neg (by assumption), if_neg (not_not_intro hid), hepq, if_neg (by omega), if_neg (by omega), if_neg (fun h => (by assumption : ¬ b.seq = due) (h.trans hdue.symm)), hix]; show ((((lastD D.S ⟨b.prod, p⟩)[j]?).map Did.off).getD 0, true, (0 : Int)) = _; rw [List.getElem?_eq_getElem hj]; rfl), H⟩
            · refine WP.skip ?_
              refine WP.region ?_
              refine RL.r (mvI rfl) rfl ?_
              refine RL.r (add rfl rfl (by omega)) rfl ?_
              refine RL.r (asgI rfl) rfl ?_
              refine RL.nil ?_
              refine ⟨k - 1, by omega, j + 1, by omega, Head.intro (by repeat (first | with_reducible exact AgreeOff.mix _ _ _ | refine AgreeOff.look rfl ?_ | refine AgreeOff.mixs rfl ?_)) ⟨rfl, trivial⟩, H, hbt, hb4, hb5, hl, fun n h hn => ?_⟩
              by_cases hij : n < j
              · exact hok2 n h hij
              · obtain rfl : n = j := by omega
                exact hc
          · refine WP.exit ?_
            refine WP.regionS ?_
            refine RL.r (asgI rfl) rfl ?_
            refine RL.r (asgB rfl) rfl ?_
            refine RL.r (asgI rfl) rfl ?_
            refine RL.nil ?_
            refine WP.ret ?_
            have hix : idxB (lastD D.S ⟨b.prod, p⟩) b = none := by
              unfold idxB
              rw [List.findIdx?_eq_none_iff]
              intro x hx9
              obtain ⟨n, hn, rfl⟩ := List.getElem_of_mem hx9
              simpa using hok2 n hn (by omega)
            refine fin3_ret rfl rfl rfl ⟨askV (by unfold askA; rw [if_neg (by assumption), if_neg (not_not_intro hid), hepq, if_neg (by omega), if_neg (by omega), if_neg (fun h => (by assumption : ¬ b.seq = due) (h.trans hdue.symm)), hix]), H⟩
end Go.Proofs.Ytbggmjnhfacjpaa
