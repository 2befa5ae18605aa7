/-
  The document's table of producers: the walk of Load.
-/
import Derived.Test.YtbggmjnhfacjpaaRefD08
set_option linter.unusedVariables false
namespace Go.Proofs.Ytbggmjnhfacjpaa
open Go Go.Eng Go.RowKit
theorem DRs.snoc {B : Nat} {w : World} {L : List Maker} {x : Maker} (h : DRs B w L) (hx : DR B w x) : DRs B w (L ++ [x]) := by
  intro y hy
  rcases List.mem_append.1 hy with h1 | h1
  · exact h y h1
  · rw [List.mem_singleton.1 h1]; exact hx
theorem ldE_mk {E : List Int} {l : List Maker} (h : ∀ (i : Nat) (h : i < l.length), mkAt E l i h) : l.map Maker.mk' = (l.map Maker.pl).map (mkP E) := by
  rw [List.map_map]
  apply List.map_congr_left
  intro x hx
  obtain ⟨i, hi, rfl⟩ := List.getElem_of_mem hx
  have h3 := (h i hi).2.2.1
  show (⟨l[i].id, l[i].epoch, l[i].part, l[i].last⟩ : Mk) = ⟨l[i].id, ep E l[i].id, l[i].part, l[i].last⟩
  rw [h3]
set_option maxRecDepth 20000 in
set_option maxHeartbeats 3200000 in
theorem rLoad (w0 : World) (aE : Option Addr) (cE : Nat) (E0 : List Int) (hE0 : Sl w0 aE E0) (hE0l : E0.length ≤ 1000000) (aL : Option Addr) (cL : Nat) (l : List Maker) (hl : Sl w0 aL l) (hll : l.length ≤ 100000) (hrows : ∀ x ∈ l, Sl w0 x.la x.last ∧ x.last.length ≤ x.lc) (hlt : ∀ x ∈ l, x.part.topic.size ≤ 9223372036854775807) :
    Ct Try.prog 10 #[.slice aE E0.length cE, .slice aL l.length cL] w0 fun v w' => (∃ p : Option Addr, v = .tuple #[.pointer p, .int .i64 (ldE E0 l)] ∧ (ldE E0 l = 0 → ∃ i Y, p = some ⟨i, 0, none⟩ ∧ Tr w0.heap.size w' i Y ⟨E0, l.map Maker.pl⟩) ∧ (ldE E0 l ≠ 0 → p = none)) ∧ Ext w0 w' := by
  refine Ct.intro2 Try.func10 Try.ntmps10 rfl rfl (by decide) rfl ?_
  have H : Ext w0 w0 := Ext.refl w0
  refine WP.regionS ?_
  refine RL.r (asgP rfl) rfl ?_
  refine RL.r (asgI rfl) rfl ?_
  refine RL.nil ?_
  refine WP.seq ?_
  refine WP.regionS ?_
  refine RL.r (mvL rfl) rfl ?_
  refine RL.r (len_sl rfl) rfl ?_
  refine RL.r (gtr rfl rfl) rfl ?_
  refine RL.nil ?_
  refine WP.cond rfl (fun hc => ?_) (fun hc => ?_)
  · refine WP.regionS ?_
    refine RL.r (asgP rfl) rfl ?_
    refine RL.r (asgI rfl) rfl ?_
    refine RL.nil ?_
    refine WP.ret ?_
    have hE1 : ldE E0 l = 2 := by
      unfold ldE
      rw [if_pos (by omega)]
    refine fin2_ret rfl rfl ⟨⟨none, tupP hE1.symm, fun h => absurd (hE1.symm.trans h) (by decide), fun _ => rfl⟩, H⟩
  · refine WP.skip ?_
    refine WP.seq ?_
    refine WP.regionS ?_
    refine RL.r (asgI rfl) rfl ?_
    refine RL.nil ?_
    refine WP.block ?_
    refine WP.loop (fun k e' w' => ∃ j : Nat,  j + k = E0.length ∧ Head [4, 5, 6, 12, 13, 14, 15, 16, 17, 18, 19, 20, 21, 22, 23] _ [(6, .int .i64 (j : Int))] e' ∧ Ext w0 w' ∧ ∀ (i : Nat) (h : i < E0.length), i < j → numB E0[i]) (E0.length)
      ⟨0, by omega, Head.intro (AgreeOff.refl _ _) ⟨rfl, trivial⟩, H, fun i h hi => by omega⟩ ?_
    clear H
    rintro k e w1 ⟨j, hjk, ⟨jk, rfl⟩, H, hok1⟩
    refine WP.seq ?_
    refine WP.regionS ?_
    refine RL.r (mvI rfl) rfl ?_
    refine RL.r (mvL rfl) rfl ?_
    refine RL.r (len_sl rfl) rfl ?_
    refine RL.r (lss rfl rfl) rfl ?_
    refine RL.nil ?_
    refine WP.cond rfl (fun hc => ?_) (fun hc => ?_)
    · refine WP.skip ?_
      refine WP.seq ?_
      refine WP.block ?_
      refine WP.regionS ?_
      refine RL.r (mvL rfl) rfl ?_
      refine RL.r (mvI rfl) rfl ?_
      have hj : j < E0.length := by omega
      refine RL.r (ix_o rfl rfl rfl hj (hE0.someA (by decide) hj)) rfl ?_
      refine RL.m (ld_o0 rfl hE0 H rfl hj rfl (by decide)) rfl ?_
      -- call stagecoach/stagecoachref03.Num (tmp 21)
      refine RL.call (rNum _ E0[j]) rfl rfl ?_
      rintro _ w2 ⟨rfl, hx⟩
      replace H := H.ext hx
      first | refine RL.r (notD rfl) rfl ?_ | refine RL.r (not_ rfl) rfl ?_
      refine RL.nil ?_
      refine WP.cond rfl (fun hc => ?_) (fun hc => ?_)
      · refine WP.regionS ?_
        refine RL.r (asgP rfl) rfl ?_
        refine RL.r (asgI rfl) rfl ?_
        refine RL.nil ?_
        refine WP.ret ?_
        have hE1 : ldE E0 l = 1 := by
          unfold ldE
          rw [if_neg (by omega), if_pos (fun h => hc (h _ (List.getElem_mem hj)))]
        refine fin2_ret rfl rfl ⟨⟨none, tupP hE1.symm, fun h => absurd (hE1.symm.trans h) (by decide), fun _ => rfl⟩, H⟩
      · refine WP.skip ?_
        refine WP.region ?_
        refine RL.r (mvI rfl) rfl ?_
        refine RL.r (add rfl rfl (by omega)) rfl ?_
        refine RL.r (asgI rfl) rfl ?_
        refine RL.nil ?_
        refine ⟨k - 1, by omega, j + 1, by omega, Head.intro (by repeat (first | with_reducible exact AgreeOff.mix _ _ _ | refine AgreeOff.look rfl ?_ | refine AgreeOff.mixs rfl ?_)) ⟨rfl, trivial⟩, H, fun i h hi => ?_⟩
        by_cases hij : i < j
        · exact hok1 i h hij
        · obtain rfl : i = j := by omega
          exact Classical.not_not.1 hc
    · refine WP.exit ?_
      refine WP.regionS ?_
      refine RL.build0 (α := Int) w0.heap.size H.size rfl ?_
      intro w3 i24 hi24 hx hb24
      replace H := H.ext hx; clear hx
      refine RL.r (mvL rfl) rfl ?_
      have hnum : ∀ e ∈ E0, numB e := fun e he => by
        obtain ⟨i, hi, rfl⟩ := List.getElem_of_mem he
        exact hok1 i hi (by omega)
      refine RL.appendS rfl hb24 H.size rfl (hE0.ext H) rfl rfl (by decide) rfl cell1 (by simp only [List.length_nil]; omega) (by simp only [List.length_nil, maxLen]; omega) rfl ?_
      intro w4 a26 c26 hu hb26 hfr26
      replace H := Ext.own H hb24 hu; clear hu
      rw [List.nil_append] at hb26 ⊢
      refine RL.r (bld rfl rfl) rfl ?_
      refine RL.boxS w0.heap.size H.size rfl rfl ?_
      intro w5 i28 hi28 hx hb28
      replace H := H.ext hx; replace hb26 := hb26.ext hx; clear hx
      refine RL.r (asgP rfl) rfl ?_
      refine RL.nil ?_
      refine WP.seq ?_
      refine WP.regionS ?_
      refine RL.r (asgI rfl) rfl ?_
      refine RL.nil ?_
      refine WP.block ?_
      refine WP.loop (fun k1 e' w' => ∃ j1 : Nat, ∃ (b2 : Option Addr) (d2 : Nat) (L2 : List Maker),  j1 + k1 = l.length ∧ Head [4, 5, 8, 29, 30, 31, 32, 33, 34, 35, 36, 37, 38, 39, 40, 41, 42, 43, 44, 45, 46, 47, 48, 49, 50, 51, 52, 53, 54, 55, 56, 57, 58, 59, 60, 61, 62, 63, 64, 65, 66, 67, 68, 69, 70, 71, 72, 73, 74, 75, 76, 77, 78, 79, 80, 81, 82, 83, 84, 85, 86, 87, 88, 89, 90, 91, 92, 93, 94, 95, 96, 97, 98, 99, 100] _ [(8, .int .i64 (j1 : Int))] e' ∧ Ext w0 w' ∧ Box w0.heap.size w' i28 65 [.slice a26 E0.length c26, .slice b2 L2.length d2] ∧ Own w0.heap.size w' 3 a26 c26 E0 ∧ Own w0.heap.size w' 33 b2 d2 L2 ∧ DRs w0.heap.size w' L2 ∧ L2.map Maker.mk' = (l.take j1).map Maker.mk' ∧ ∀ (i : Nat) (h : i < l.length), i < j1 → mkAt E0 l i h) (l.length)
        ⟨0, none, 0, [], by omega, Head.intro (AgreeOff.refl _ _) ⟨rfl, trivial⟩, H, hb28, hb26, Own.nil _ _ _, (fun x hx => by cases hx), rfl, fun i h hi => by omega⟩ ?_
      clear H hb28 hb26
      rintro k1 e w6 ⟨j1, b2, d2, L2, hjk1, ⟨jk1, rfl⟩, H, hb28, hE, hL2, hDr, hLm, hok2⟩
      have hL2l : L2.length = min j1 l.length := by have h9 := congrArg List.length hLm; simpa using h9
      refine WP.seq ?_
      refine WP.regionS ?_
      refine RL.r (mvI rfl) rfl ?_
      refine RL.r (mvL rfl) rfl ?_
      refine RL.r (len_sl rfl) rfl ?_
      refine RL.r (lss rfl rfl) rfl ?_
      refine RL.nil ?_
      refine WP.cond rfl (fun hc => ?_) (fun hc => ?_)
      · refine WP.skip ?_
        refine WP.seq ?_
        refine WP.block ?_
        refine WP.seq ?_
        refine WP.seq ?_
        refine WP.draw (by kernel_rfl) ?_
        refine QL.r (mvI rfl) rfl ?_
        refine QL.r (gtr rfl rfl) rfl ?_
        refine QL.r (mvB rfl) rfl ?_
        refine QL.gg (gwT rfl rfl) (fun hg => (mvL rfl).does _) rfl ?_
        refine QL.gg (gwT rfl rfl) (fun hg => (mvI rfl).does _) rfl ?_
        refine QL.gg (gwT rfl rfl) (fun hg => (sub (gs hg rfl) rfl (by omega)).does _) rfl ?_
        have hj : j1 < l.length := by omega
        have hj0 : j1 - 1 < l.length := by omega
        obtain ⟨q, hq⟩ := hl.isAddr (by decide) hj
        subst hq
        refine QL.gg (gwT rfl rfl) (fun hg => (ix_o (gs hg rfl) (gs hg rfl) (show ((j1 : Int) - 1) = ((j1 - 1 : Nat) : Int) by omega) hj0 (hl.someA (by decide) hj0)).does _) rfl ?_
        refine QL.gg (gwT rfl rfl) (fun hg => ldS_o0 (gs hg rfl) hl H rfl rfl hj0 (by decide)) rfl ?_
        refine QL.gg (gwT rfl rfl) (fun hg => (mvL rfl).does _) rfl ?_
        refine QL.gg (gwT rfl rfl) (fun hg => (mvI rfl).does _) rfl ?_
        refine QL.gg (gwT rfl rfl) (fun hg => (ix_o (gs hg rfl) (gs hg rfl) rfl hj (hl.someA (by decide) hj)).does _) rfl ?_
        refine QL.gg (gwT rfl rfl) (fun hg => ldS_o0 (gs hg rfl) hl H rfl rfl hj (by decide)) rfl ?_
        -- call stagecoach/stagecoachref08.Before (tmp 42) (tmp 46)
        have hB1 : ∀ w', Ext w6 w' → Ct Try.prog 22 #[.agg (Lies.enc l[j1 - 1]).toArray, .agg (Lies.enc l[j1]).toArray] w' fun v w'' => v = .bool (decide (bfr l[j1 - 1] l[j1])) ∧ Ext w' w'' := fun w' _ => rBfr w' _ _ (hlt _ (List.getElem_mem hj0))
        refine QL.gcall (gwT rfl rfl) (fun hg w' hw' => hB1 w' hw') (fun hg => EvL.cons (gs hg rfl) (EvL.cons (gs hg rfl) EvL.nil)) rfl ?_
        first | refine QL.gg (gwT rfl rfl) (fun hg => (notD (gs hg rfl)).does _) rfl ?_ | refine QL.gg (gwT rfl rfl) (fun hg => (not_ (gs hg rfl)).does _) rfl ?_
        refine QL.r (pickAnd rfl (fun hn => gs hn rfl)) rfl ?_
        refine QL.r (mvB rfl) rfl ?_
        refine QL.gg (gwF rfl rfl) (fun hg => (mvP rfl).does _) rfl ?_
        refine QL.gg (gwF rfl rfl) (fun hg => (mvL rfl).does _) rfl ?_
        refine QL.gg (gwF rfl rfl) (fun hg => (mvI rfl).does _) rfl ?_
        refine QL.gg (gwF rfl rfl) (fun hg => (ix_o (gs hg rfl) (gs hg rfl) rfl hj (hl.someA (by decide) hj)).does _) rfl ?_
        refine QL.gg (gwF rfl rfl) (fun hg => (fa_el hl.1 (gs hg rfl)).does _) rfl ?_
        refine QL.gg (gwF rfl rfl) (fun hg => ld_el (gs hg rfl) hl H rfl hj rfl) rfl ?_
        -- call (*stagecoach/stagecoachref08.Table).is (tmp 51) (tmp 56)
        have hB2 : ∀ w', Ext w6 w' → Ct Try.prog 36 #[.pointer (some ⟨i28, 0, none⟩), .int .i64 l[j1].id] w' fun v w'' => v = .bool (decide (isD E0 l[j1].id)) ∧ Ext w' w'' := fun w' hw' => rIs w' _ i28 a26 b2 c26 d2 E0 L2 (hb28.ext hw') l[j1].id
        refine QL.gcall (gwF rfl rfl) (fun hg w' hw' => hB2 w' hw') (fun hg => EvL.cons (gs hg rfl) (EvL.cons (gs hg rfl) EvL.nil)) rfl ?_
        first | refine QL.gg (gwF rfl rfl) (fun hg => (notD (gs hg rfl)).does _) rfl ?_ | refine QL.gg (gwF rfl rfl) (fun hg => (not_ (gs hg rfl)).does _) rfl ?_
        refine QL.r (pickOr rfl (fun hn => gs hn rfl)) rfl ?_
        refine QL.r (mvB rfl) rfl ?_
        refine QL.gg (gwF rfl rfl) (fun hg => (mvL rfl).does _) rfl ?_
        refine QL.gg (gwF rfl rfl) (fun hg => (mvI rfl).does _) rfl ?_
        refine QL.gg (gwF rfl rfl) (fun hg => (ix_o (gs hg rfl) (gs hg rfl) rfl hj (hl.someA (by decide) hj)).does _) rfl ?_
        refine QL.gg (gwF rfl rfl) (fun hg => (fa_el hl.1 (gs hg rfl)).does _) rfl ?_
        refine QL.gg (gwF rfl rfl) (fun hg => ld_el (gs hg rfl) hl H rfl hj rfl) rfl ?_
        -- call stagecoach/stagecoachref08.row (tmp 65)
        have hB3 : ∀ w', Ext w6 w' → Ct Try.prog 37 #[.slice l[j1].la l[j1].last.length l[j1].lc] w' fun v w'' => v = .bool (decide (rowB l[j1].last)) ∧ Ext w' w'' := fun w' hw' => rRow w' _ _ _ ((hrows _ (List.getElem_mem hj)).1.ext (H.ext hw'))
        refine QL.gcall (gwF rfl rfl) (fun hg w' hw' => hB3 w' hw') (fun hg => EvL.cons (gs hg rfl) EvL.nil) rfl ?_
        first | refine QL.gg (gwF rfl rfl) (fun hg => (notD (gs hg rfl)).does _) rfl ?_ | refine QL.gg (gwF rfl rfl) (fun hg => (not_ (gs hg rfl)).does _) rfl ?_
        refine QL.r (pickOr rfl (fun hn => gs hn rfl)) rfl ?_
        refine QL.nil ?_; intro w10 hx; replace H := H.ext hx; replace hb28 := hb28.ext hx; replace hE := hE.ext hx; replace hL2 := hL2.ext hx; replace hDr := hDr.ext hx
        refine WP.cond rfl (fun hc => ?_) (fun hc => ?_)
        · refine WP.regionS ?_
          refine RL.r (asgP rfl) rfl ?_
          refine RL.r (asgI rfl) rfl ?_
          refine RL.nil ?_
          refine WP.ret ?_
          have hE1 : ldE E0 l = 1 := by
            unfold ldE
            rw [if_neg (by omega), if_neg (not_not_intro hnum), if_neg]
            intro hall
            obtain ⟨q1, q2, q3, q4⟩ := hall j1 hj
            rcases hc with (⟨h0, h1⟩ | h1) | h1
            · exact h1 (q1 (by omega))
            · exact h1 q2
            · exact h1 q4
          refine fin2_ret rfl rfl ⟨⟨none, tupP hE1.symm, fun h => absurd (hE1.symm.trans h) (by decide), fun _ => rfl⟩, H⟩
        · refine WP.skip ?_
          refine WP.seq ?_
          refine WP.seq ?_
          refine WP.draw (by kernel_rfl) ?_
          refine QL.r (mvL rfl) rfl ?_
          refine QL.r (mvI rfl) rfl ?_
          have hid : isD E0 l[j1].id := Classical.byContradiction fun h => hc (.inl (.inr h))
          obtain ⟨ji, hji, hje, hep⟩ := isD_at hid
          have hid2 := hid
          unfold isD at hid2
          refine QL.r (ix_o rfl rfl rfl hj (hl.someA (by decide) hj)) rfl ?_
          refine QL.r (fa_el hl.1 rfl) rfl ?_
          refine QL.m (ld_el rfl hl H rfl hj rfl) rfl ?_
          refine QL.r (mvP rfl) rfl ?_
          refine QL.r (nilck rfl) rfl ?_
          refine QL.r (fa_box rfl) rfl ?_
          refine QL.m (ld_box rfl hb28 rfl) rfl ?_
          refine QL.r (mvL rfl) rfl ?_
          refine QL.r (mvI rfl) rfl ?_
          refine QL.r (ix_o rfl rfl rfl hj (hl.someA (by decide) hj)) rfl ?_
          refine QL.r (fa_el hl.1 rfl) rfl ?_
          refine QL.m (ld_el rfl hl H rfl hj rfl) rfl ?_
          refine QL.r (sub rfl rfl (by omega)) rfl ?_
          refine QL.r (ix_o rfl rfl hje hji (hE.sl.someA (by decide) hji)) rfl ?_
          refine QL.m (ld_o0 rfl hE.sl (Ext.refl _) rfl hji rfl (by decide)) rfl ?_
          refine QL.r (neq rfl rfl) rfl ?_
          refine QL.nil ?_; intro w11 hx; replace H := H.ext hx; replace hb28 := hb28.ext hx; replace hE := hE.ext hx; replace hL2 := hL2.ext hx; replace hDr := hDr.ext hx
          refine WP.cond rfl (fun hc => ?_) (fun hc => ?_)
          · refine WP.regionS ?_
            refine RL.r (asgP rfl) rfl ?_
            refine RL.r (asgI rfl) rfl ?_
            refine RL.nil ?_
            refine WP.ret ?_
            have hE1 : ldE E0 l = 1 := by
              unfold ldE
              rw [if_neg (by omega), if_neg (not_not_intro hnum), if_neg]
              intro hall
              obtain ⟨q1, q2, q3, q4⟩ := hall j1 hj
              exact hc (by rw [q3, hep])
            refine fin2_ret rfl rfl ⟨⟨none, tupP hE1.symm, fun h => absurd (hE1.symm.trans h) (by decide), fun _ => rfl⟩, H⟩
          · refine WP.skip ?_
            refine WP.any ?_
            intro w12 hx; replace H := H.ext hx; replace hb28 := hb28.ext hx; replace hE := hE.ext hx; replace hL2 := hL2.ext hx; replace hDr := hDr.ext hx
            refine AL.p 0 (by kernel_rfl) rfl (mvP rfl) rfl ?_
            refine AL.p 1 (by kernel_rfl) rfl (mvP rfl) rfl ?_
            refine AL.p 2 (by kernel_rfl) rfl (nilck rfl) rfl ?_
            refine AL.p 3 (by kernel_rfl) rfl (fa_box rfl) rfl ?_
            refine AL.p 5 (by kernel_rfl) rfl (mvL rfl) rfl ?_
            refine AL.p 6 (by kernel_rfl) rfl (mvI rfl) rfl ?_
            refine AL.p 7 (by kernel_rfl) rfl (ix_o rfl rfl rfl hj (hl.someA (by decide) hj)) rfl ?_
            refine AL.m 8 (by kernel_rfl) rfl (ldS_o0 rfl hl H rfl rfl hj (by decide)) rfl ?_
            -- call stagecoach/stagecoachref08.maker (tmp 95)
            have hgood : mkAt E0 l j1 hj := by
              have hco := (by assumption : ¬ (((0 < (j1 : Int) ∧ ¬ bfr l[j1 - 1] l[j1]) ∨ ¬ isD E0 l[j1].id) ∨ ¬ rowB l[j1].last))
              exact ⟨fun h0 => Classical.byContradiction fun h => hco (.inl (.inl ⟨by omega, h⟩)), hid, by rw [hep]; exact Classical.not_not.1 hc, Classical.byContradiction fun h => hco (.inr h)⟩
            have hrl : l[j1].last.length ≤ 5 := hgood.2.2.2.2.1
            have hsC := H.size
            have hMkr : ∀ w', Ext w12 w' → Ct Try.prog 38 #[.agg (Lies.enc l[j1]).toArray] w' fun v w'' => (∃ m' : Maker, v = .agg (Lies.enc m').toArray ∧ m'.mk' = l[j1].mk' ∧ Own w'.heap.size w'' 53 m'.la m'.lc m'.last) ∧ Ext w' w'' := fun w' hw' => rMaker w' l[j1] ((hrows _ (List.getElem_mem hj)).1.ext (H.ext hw')) (by omega)
            refine AL.x 9 (by kernel_rfl) rfl rfl (fun w' hw' => hMkr w' hw') ?_
            refine AX.m 4 (by kernel_rfl) rfl rfl (ld_box rfl hb28 rfl) rfl ?_
            refine AX.o (by kernel_rfl) rfl ?_
            rintro v w13 ⟨⟨m2, rfl, hm2, hmo⟩, hx⟩
            replace H := H.ext hx; replace hb28 := hb28.ext hx; replace hE := hE.ext hx; replace hL2 := hL2.ext hx; replace hDr := hDr.ext hx
            refine AL.o 10 (by kernel_rfl) rfl ?_
            refine RL.buildSlice w0.heap.size H.size rfl rfl rfl rfl rfl ?_
            intro w14 i97 hi97 hx hb97
            replace H := H.ext hx; replace hb28 := hb28.ext hx; replace hE := hE.ext hx; replace hL2 := hL2.ext hx; replace hDr := hDr.ext hx; replace hmo := hmo.ext hx; clear hx
            refine RL.nil ?_
            refine AL.o 11 (by kernel_rfl) rfl ?_
            refine RL.appendS rfl hL2 H.size rfl (show Sl _ _ [m2] from Box.sl1 hb97) rfl rfl (by decide) rfl cell1 (by omega) (by simp only [maxLen]; omega) rfl ?_
            intro w15 a98 c98 hu hb98 hfr98
            replace hb28 := hb28.upd hu (fun h => hL2.box_apart hb28 (by decide) h)
            replace hE := hE.upd hu (fun j hj e => hE.apart hL2 (by decide) hj e)
            replace hDr := hDr.ow hL2 (by decide) hu
            replace hmo := hmo.upd hu (fun j hj e => hmo.apart hL2 (by decide) hj e)
            replace H := Ext.own H hL2 hu; clear hu
            refine RL.nil ?_
            refine AL.p 12 (by kernel_rfl) rfl (nilck rfl) rfl ?_
            refine AL.p 13 (by kernel_rfl) rfl (fa_box rfl) rfl ?_
            refine AL.o 14 (by kernel_rfl) rfl ?_
            have hb28_0 := hb28
            refine RL.store1 rfl hb28 rfl rfl rfl rfl ?_
            intro w16 hu hb28
            replace hE := hE.upd hu (fun j hj e => hE.box_apart hb28_0 (by decide) (e ▸ hj))
            replace hDr := hDr.bx hb28_0 (by decide) hu
            replace hmo := hmo.upd hu (fun j hj e => hmo.box_apart hb28_0 (by decide) (e ▸ hj))
            replace hb98 := hb98.upd hu (fun j hj e => hb98.box_apart hb28_0 (by decide) (e ▸ hj))
            replace H := H.box hu hb28.old
            refine RL.nil ?_
            refine AL.nil (by kernel_rfl) ?_
            refine WP.region ?_
            refine RL.r (mvI rfl) rfl ?_
            refine RL.r (add rfl rfl (by omega)) rfl ?_
            refine RL.r (asgI rfl) rfl ?_
            refine RL.nil ?_
            refine ⟨k1 - 1, by omega, j1 + 1, _, _, L2 ++ [m2], by omega, Head.intro (by repeat (first | with_reducible exact AgreeOff.mix _ _ _ | refine AgreeOff.look rfl ?_ | refine AgreeOff.mixs rfl ?_)) ⟨rfl, trivial⟩, H, hb28, hE, hb98, hDr.snoc (DR.of (hmo.mono hsC)), (by rw [List.map_append, hLm, List.take_succ_eq_append_getElem hj, List.map_append]; simp only [List.map_cons, List.map_nil, hm2]), fun i h hi => ?_⟩
            by_cases hij : i < j1
            · exact hok2 i h hij
            · obtain rfl : i = j1 := by omega
              exact hgood
      · refine WP.exit ?_
        refine WP.regionS ?_
        refine RL.r (mvP rfl) rfl ?_
        refine RL.r (asgP rfl) rfl ?_
        refine RL.r (asgI rfl) rfl ?_
        refine RL.nil ?_
        refine WP.ret ?_
        have hall : l.take j1 = l := List.take_of_length_le (by omega)
        have hokA : ∀ (i : Nat) (h : i < l.length), mkAt E0 l i h := fun i h => hok2 i h (by omega)
        have hE1 : ldE E0 l = 0 := ldE_0 (by omega) hnum hokA
        rw [hall] at hLm
        refine fin2_ret rfl rfl ⟨⟨_, tupP hE1.symm, fun _ => ⟨i28, _, rfl, a26, c26, b2, d2, L2, ⟨hb28, hE, hL2, hDr⟩, hLm.trans (ldE_mk hokA), rfl⟩, fun h => absurd hE1 h⟩, H⟩
end Go.Proofs.Ytbggmjnhfacjpaa
