/-
  OffsetsRaised: the walk.
-/
import Derived.Test.YtmjamhgihbapjaaStep12
set_option linter.unusedVariables false
namespace Go.Proofs.Ytmjamhgihbapjaa
open Go Go.Eng Go.RowKit
theorem raise_val {S : List Mrk} {p : Part} {K : Int} (h : K ≤ 1099511627776) : raiseV S p K = (raiseN S p K : Int) ∧ raiseT S p K = raiseS S p K := by
  unfold raiseV raiseT
  rw [if_neg (by omega), if_neg (by omega)]
  exact ⟨rfl, rfl⟩
theorem raise_again (S : List Mrk) (p : Part) (K : Int) : raiseN (raiseS S p K) p K = 0 := by
  unfold raiseN raiseS
  rw [List.countP_map, List.countP_eq_zero]
  intro x _
  simp only [Function.comp, decide_eq_true_eq]
  rintro ⟨h1, h2⟩
  unfold raise1 at h1 h2
  split at h2
  · simp only at h2; omega
  · rename_i h3
    rw [if_neg h3] at h1
    exact h3 ⟨h1, h2⟩
def lowN (S : List Mrk) (p : Part) (K : Int) (j : Nat) : Nat := raiseN (S.take j) p K
theorem lowN_succ {S : List Mrk} {p : Part} {K : Int} {j : Nat} (hj : j < S.length) : lowN S p K (j + 1) = lowN S p K j + if (S[j].topic = p.topic ∧ S[j].n = p.n) ∧ S[j].off < K then 1 else 0 := by
  unfold lowN raiseN
  rw [List.take_succ_eq_append_getElem hj, List.countP_append]
  by_cases h : (S[j].topic = p.topic ∧ S[j].n = p.n) ∧ S[j].off < K
  · rw [if_pos h]; simp [h]
  · rw [if_neg h]; simp [h]
theorem lowN_le (S : List Mrk) (p : Part) (K : Int) (j : Nat) : lowN S p K j ≤ j := by
  unfold lowN raiseN
  refine Nat.le_trans List.countP_le_length ?_
  rw [List.length_take]; omega
theorem lowN_all (S : List Mrk) (p : Part) (K : Int) : lowN S p K S.length = raiseN S p K := by
  unfold lowN
  rw [List.take_length]
theorem raiseS_len (S : List Mrk) (p : Part) (K : Int) : (raiseS S p K).length = S.length := by simp [raiseS]
theorem raiseS_get {S : List Mrk} {p : Part} {K : Int} {j : Nat} (hj : j < S.length) (hj' : j < (raiseS S p K).length) : (raiseS S p K)[j] = raise1 p K S[j] := by simp [raiseS]
theorem part_iff {X : Mrk} {p : Part} : (⟨X.topic, X.n⟩ : Part) = p ↔ X.topic = p.topic ∧ X.n = p.n := by cases p; simp
set_option maxRecDepth 20000 in
set_option maxHeartbeats 1600000 in
theorem lRaised (w0 : World) (a : Option Addr) (c : Nat) (l : List MOp) (p0 : Part) (least : Int) (hl : SlI w0 a l) :
    Ct Try.prog 5 #[.slice a l.length c, .agg (Lies.enc p0).toArray, .int .i64 least] w0 fun v w' => v = .bool true ∧ Ext w0 w' := by
  refine Ct.intro1 Try.func5 Try.ntmps5 rfl rfl (by decide) rfl ?_
  have H : Ext w0 w0 := Ext.refl w0
  obtain ⟨P, hPe⟩ : ∃ P : Part, P = ⟨cutS p0.topic, p0.n⟩ := ⟨_, rfl⟩
  have hK1 := and16v_le least
  have hK : (0 : Int) ≤ ((and16v least : Nat) : Int) ∧ ((and16v least : Nat) : Int) ≤ 65535 := by omega
  refine WP.regionS ?_
  refine RL.boxS w0.heap.size H.size rfl rfl ?_
  intro w1 i4 hi4 hx hb4
  replace H := H.ext hx; clear hx
  refine RL.r (asgB rfl) rfl ?_
  refine RL.nil ?_
  refine WP.regionS ?_
  -- call stagecoach/offsets.New 
  refine RL.call (pNewB _ _ H.size) rfl rfl ?_
  rintro v w2 ⟨⟨i, m, rfl, hT⟩, hx⟩
  replace H := H.ext hx; replace hb4 := hb4.ext hx
  refine RL.r (asgP rfl) rfl ?_
  refine RL.nil ?_
  refine WP.seq ?_
  refine WP.regionS ?_
  refine RL.r (mvP rfl) rfl ?_
  refine RL.r (peqn rfl rfl) rfl ?_
  refine RL.nil ?_
  refine WP.cond rfl (fun hc => ?_) (fun hc => ?_)
  · refine WP.regionS ?_
    refine RL.r (asgB rfl) rfl ?_
    refine RL.nil ?_
    refine WP.ret ?_
    refine fin1_ret rfl ⟨absurd hc (by simp), H⟩
  · refine WP.skip ?_
    refine WP.seq ?_
    refine WP.regionS ?_
    refine RL.r (asgI rfl) rfl ?_
    refine RL.nil ?_
    refine WP.block ?_
    refine WP.loop (fun k e' w' => ∃ j : Nat, ∃ S : List Mrk,  j + k = min l.length 80 ∧ Head [8, 19, 20, 21, 22, 23, 24, 25, 26, 27, 28, 29, 30, 31, 32, 33, 34, 35, 36] _ [(8, .int .i64 (j : Int))] e' ∧ Ext w0 w' ∧ Box w0.heap.size w' i4 24 (Lies.enc p0) ∧ Tb w0.heap.size w' i m S ∧ S.length ≤ j) (min l.length 80)
      ⟨0, [], by omega, Head.intro (AgreeOff.refl _ _) ⟨rfl, trivial⟩, H, hb4, hT, Nat.le_refl _⟩ ?_
    clear H hb4 hT
    rintro k e w3 ⟨j, S, hjk, ⟨jk, rfl⟩, H, hb4, hT, hSl⟩
    refine WP.seq ?_
    refine WP.seq (WP.quiet ?_)
    refine QL.r (mvI rfl) rfl ?_
    refine QL.r (mvL rfl) rfl ?_
    refine QL.r (len_sl rfl) rfl ?_
    refine QL.r (lss rfl rfl) rfl ?_
    refine QL.r (mvB rfl) rfl ?_
    refine QL.gg (gwT rfl rfl) (fun hg => (mvI rfl).does _) rfl ?_
    refine QL.gg (gwT rfl rfl) (fun hg => (lss (gs hg rfl) rfl).does _) rfl ?_
    refine QL.r (pickAnd rfl (fun hn => gs hn rfl)) rfl ?_
    refine QL.nil ?_; intro w4 hx; replace H := H.ext hx; replace hb4 := hb4.ext hx; replace hT := hT.ext hx
    refine WP.cond rfl (fun hc => ?_) (fun hc => ?_)
    · refine WP.skip ?_
      refine WP.seq ?_
      refine WP.block ?_
      refine WP.region ?_
      refine RL.r (mvP rfl) rfl ?_
      refine RL.r (mvL rfl) rfl ?_
      refine RL.r (mvI rfl) rfl ?_
      have hj : j < l.length := by omega
      have hl := hl (List.ne_nil_of_length_pos (by omega))
      obtain ⟨p, rfl⟩ := hl.isAddr (by decide) hj
      refine RL.r (ix rfl rfl rfl (by omega)) rfl ?_
      refine RL.r (fa_el hl.1 rfl) rfl ?_
      refine RL.m (ldS_ef rfl hl H (by omega) rfl (Nat.le_of_ble_eq_true rfl)) rfl ?_
      -- call stagecoach/stagecoachlaw12.cut (tmp 34)
      refine RL.call (lCut _ l[j].m) rfl rfl ?_
      rintro _ w5 ⟨rfl, hx⟩
      replace H := H.ext hx; replace hb4 := hb4.ext hx; replace hT := hT.ext hx
      -- call (*stagecoach/offsets.Table).Put (tmp 29) (tmp 35)
      refine RL.call (pPut _ _ i m S (cutM l[j].m) hT) rfl rfl ?_
      rintro _ w6 ⟨⟨rfl, hT2⟩, hx⟩
      replace H := H.mp hx hT.old; replace hb4 := hb4.upd hx (hT.neb hb4)
      replace hT := hT2; clear hT2
      refine RL.nil ?_
      refine WP.region ?_
      refine RL.r (mvI rfl) rfl ?_
      refine RL.r (add rfl rfl (by omega)) rfl ?_
      refine RL.r (asgI rfl) rfl ?_
      refine RL.nil ?_
      refine ⟨k - 1, by omega, j + 1, putR S (cutM l[j].m), by omega, Head.intro (by repeat (first | with_reducible exact AgreeOff.mix _ _ _ | refine AgreeOff.look rfl ?_ | refine AgreeOff.mixs rfl ?_)) ⟨rfl, trivial⟩, H, hb4, hT, (by have := stepS_len S 0 (cutM l[j].m); unfold stepS at this; rw [if_pos rfl] at this; omega)⟩
    · refine WP.exit ?_
      refine WP.regionS ?_
      refine RL.r (fa_box rfl) rfl ?_
      refine RL.m (ld_box rfl hb4 rfl) rfl ?_
      refine RL.r (fa_box rfl) rfl ?_
      refine RL.m (ld_box rfl hb4 rfl) rfl ?_
      refine RL.r (len_str rfl) rfl ?_
      refine RL.r (min_i rfl rfl) rfl ?_
      refine RL.r (slcS (n := min p0.topic.size 40) rfl rfl (by omega) (by omega)) rfl ?_
      refine RL.r (fa_box rfl) rfl ?_
      have hb4_0 := hb4
      refine RL.store1 rfl hb4 rfl rfl rfl rfl ?_
      intro w7 hu hb4
      replace hT := hT.bx hb4_0 (by decide) hu
      replace H := H.box hu hb4.old
      refine RL.nil ?_
      refine WP.regionS ?_
      refine RL.r (mvI rfl) rfl ?_
      refine RL.r (and16 rfl rfl) rfl ?_
      refine RL.r (asgI rfl) rfl ?_
      refine RL.r (asgI rfl) rfl ?_
      refine RL.nil ?_
      refine WP.regionS ?_
      refine RL.r (mvP rfl) rfl ?_
      -- call (*stagecoach/offsets.Table).List (tmp 47)
      have hP : Box w0.heap.size w7 i4 24 (Lies.enc P) := by rw [hPe]; exact hb4
      replace hb4 := hP
      have hs7 := H.size
      refine RL.call (pList _ _ i m S hT (by omega)) rfl rfl ?_
      rintro _ w8 ⟨⟨a11, c11, rfl, hO⟩, hx⟩
      replace H := H.ext hx; replace hb4 := hb4.ext hx; replace hT := hT.ext hx
      replace hO := hO.mono hs7
      refine RL.r (asgL rfl) rfl ?_
      refine RL.nil ?_
      refine WP.regionS ?_
      refine RL.r (mvP rfl) rfl ?_
      refine RL.m (ldS_box rfl hb4 (Nat.le_of_ble_eq_true rfl) rfl) rfl ?_
      refine RL.r (mvI rfl) rfl ?_
      -- call (*stagecoach/offsets.Table).Raise (tmp 49) (tmp 50) (tmp 51)
      refine RL.call (by have h := pRaise _ _ i m S P ((and16v least : Nat) : Int) hT (by omega); rw [(raise_val (by omega)).1, (raise_val (by omega)).2] at h; exact h) rfl rfl ?_
      rintro _ w9 ⟨⟨rfl, hT2⟩, hx⟩
      replace H := H.mp hx hT.old; replace hb4 := hb4.upd hx (hT.neb hb4); replace hO := hO.upd hx (hT.nea hO)
      replace hT := hT2; clear hT2
      refine RL.r (asgI rfl) rfl ?_
      refine RL.nil ?_
      refine WP.regionS ?_
      refine RL.r (mvP rfl) rfl ?_
      -- call (*stagecoach/offsets.Table).List (tmp 53)
      have hs9 := H.size
      refine RL.call (pList _ _ i m (raiseS S P ((and16v least : Nat) : Int)) hT (by rw [raiseS_len]; omega)) rfl rfl ?_
      rintro _ w10 ⟨⟨a13, c13, rfl, hO2⟩, hx⟩
      replace H := H.ext hx; replace hb4 := hb4.ext hx; replace hT := hT.ext hx; replace hO := hO.ext hx
      replace hO2 := hO2.mono hs9
      refine RL.r (asgL rfl) rfl ?_
      refine RL.nil ?_
      refine WP.seq ?_
      refine WP.regionS ?_
      refine RL.r (mvL rfl) rfl ?_
      refine RL.r (len_sl rfl) rfl ?_
      refine RL.r (mvL rfl) rfl ?_
      refine RL.r (len_sl rfl) rfl ?_
      refine RL.r (neq rfl rfl) rfl ?_
      refine RL.nil ?_
      refine WP.cond rfl (fun hc => ?_) (fun hc => ?_)
      · refine WP.regionS ?_
        refine RL.r (asgB rfl) rfl ?_
        refine RL.nil ?_
        refine WP.ret ?_
        refine fin1_ret rfl ⟨?_, H⟩
        exfalso
        rw [raiseS_len] at hc
        exact hc rfl
      · refine WP.skip ?_
        refine WP.seq ?_
        refine WP.regionS ?_
        refine RL.r (asgI rfl) rfl ?_
        refine RL.nil ?_
        refine WP.block ?_
        have hSL : S.length ≤ 80 := by omega
        have hRL := raiseS_len S P ((and16v least : Nat) : Int)
        refine WP.loop (fun k1 e' w' => ∃ j1 : Nat,  j1 + k1 = S.length ∧ Head [6, 10, 14, 15, 60, 61, 62, 63, 64, 65, 66, 67, 68, 69, 70, 71, 72, 73, 74, 75, 76, 77, 78, 79, 80, 81, 82, 83, 84, 85, 86, 87, 88, 89] _ [(10, .int .i64 ((lowN S P ((and16v least : Nat) : Int) j1 : Nat) : Int)), (14, .int .i64 (j1 : Int))] e' ∧ Ext w0 w' ∧ Box w0.heap.size w' i4 24 (Lies.enc P) ∧ Tb w0.heap.size w' i m (raiseS S P ((and16v least : Nat) : Int)) ∧ Own w0.heap.size w' 26 a11 c11 S ∧ Own w0.heap.size w' 26 a13 c13 (raiseS S P ((and16v least : Nat) : Int))) (S.length)
          ⟨0, by omega, Head.intro (AgreeOff.refl _ _) ⟨rfl, rfl, trivial⟩, H, hb4, hT, hO, hO2⟩ ?_
        clear H hb4 hT hO hO2
        rintro k1 e w11 ⟨j1, hjk1, ⟨jk1, rfl⟩, H, hb4, hT, hO, hO2⟩
        have H11 := Ext.refl w11
        have hlo := lowN_le S P ((and16v least : Nat) : Int) j1
        refine WP.seq ?_
        refine WP.regionS ?_
        refine RL.r (mvI rfl) rfl ?_
        refine RL.r (mvL rfl) rfl ?_
        refine RL.r (len_sl rfl) rfl ?_
        refine RL.r (lss rfl rfl) rfl ?_
        refine RL.nil ?_
        refine WP.cond rfl (fun hc => ?_) (fun hc => ?_)
        · refine WP.skip ?_
          refine WP.seq ?_
          refine WP.block ?_
          refine WP.regionS ?_
          refine RL.r (mvL rfl) rfl ?_
          refine RL.r (mvI rfl) rfl ?_
          have hj1 : j1 < S.length := by omega
          have hj2 : j1 < (raiseS S P ((and16v least : Nat) : Int)).length := by omega
          have hge := raiseS_get hj1 hj2
          have hlS := lowN_succ (p := P) (K := ((and16v least : Nat) : Int)) hj1
          obtain ⟨q1, rfl⟩ := hO.sl.isAddr (by decide) hj1
          obtain ⟨q2, rfl⟩ := hO2.sl.isAddr (by decide) hj2
          refine RL.r (ix rfl rfl rfl (by omega)) rfl ?_
          refine RL.m (ldS_el rfl hO.sl H11 rfl rfl hj1) rfl ?_
          refine RL.alloc w0.heap.size H.size rfl rfl ?_
          intro w12 i15 hi15 hx hb15
          have ne4_15 := hb4.ne hi15
          refine RL.storeS rfl hb15 rfl rfl rfl rfl ?_
          intro w13 hu hb15
          replace hx := hx.box hu (Nat.le_of_eq hi15.symm)
          replace H := H.ext hx; replace hb4 := hb4.ext hx; replace H11 := H11.ext hx; clear hx hu
          refine RL.nil ?_
          refine WP.seq ?_
          refine WP.seq (WP.quiet ?_)
          refine QL.r (fa_box rfl) rfl ?_
          refine QL.m (ldS_box rfl hb15 (Nat.le_of_ble_eq_true rfl) rfl) rfl ?_
          refine QL.m (ldS_box rfl hb4 (Nat.le_of_ble_eq_true rfl) rfl) rfl ?_
          refine QL.r (aeql (α := Part) (p := (⟨S[j1].topic, S[j1].n⟩ : Part)) (q := P) rfl rfl) rfl ?_
          refine QL.r (mvB rfl) rfl ?_
          refine QL.gg (gwT rfl rfl) (fun hg => (fa_box rfl).does _) rfl ?_
          refine QL.gg (gwT rfl rfl) (fun hg => ld_box (gs hg rfl) hb15 rfl) rfl ?_
          refine QL.gg (gwT rfl rfl) (fun hg => (mvI rfl).does _) rfl ?_
          refine QL.gg (gwT rfl rfl) (fun hg => (lss (gs hg rfl) (gs hg rfl)).does _) rfl ?_
          refine QL.r (pickAnd rfl (fun hn => gs hn rfl)) rfl ?_
          refine QL.nil ?_; intro w14 hx; replace H := H.ext hx; replace hb4 := hb4.ext hx; replace hb15 := hb15.ext hx; replace H11 := H11.ext hx
          refine WP.cond rfl (fun hc => ?_) (fun hc => ?_)
          · refine WP.regionS ?_
            refine RL.r (mvI rfl) rfl ?_
            refine RL.r (add rfl rfl (by omega)) rfl ?_
            refine RL.r (asgI rfl) rfl ?_
            refine RL.nil ?_
            refine WP.region ?_
            refine RL.r (mvI rfl) rfl ?_
            refine RL.r (fa_box rfl) rfl ?_
            have hb15_0 := hb15
            refine RL.store1 rfl hb15 rfl rfl rfl rfl ?_
            intro w15 hu hb15
            replace H11 := H11.box hu (by omega)
            replace H := H.box hu hb15.old; replace hb4 := hb4.upd hu ne4_15
            refine RL.nil ?_
            refine WP.seq ?_
            refine WP.draw (by kernel_rfl) ?_
            refine QL.r (mvL rfl) rfl ?_
            refine QL.r (mvI rfl) rfl ?_
            have hc2 := hc
            refine QL.r (ix rfl rfl rfl hj2) rfl ?_
            refine QL.m (ldS_el rfl hO2.sl H11 rfl rfl hj2) rfl ?_
            refine QL.m (ldS_box rfl hb15 (Nat.le_of_ble_eq_true rfl) rfl) rfl ?_
            refine QL.r (aneq (α := Mrk) (p := (raiseS S P ((and16v least : Nat) : Int))[j1]) (q := (⟨S[j1].group, S[j1].topic, S[j1].n, ((and16v least : Nat) : Int)⟩ : Mrk)) rfl rfl) rfl ?_
            refine QL.nil ?_; intro w16 hx; replace H := H.ext hx; replace hb4 := hb4.ext hx; replace hb15 := hb15.ext hx; replace H11 := H11.ext hx
            refine WP.cond rfl (fun hc => ?_) (fun hc => ?_)
            · refine WP.regionS ?_
              refine RL.r (asgB rfl) rfl ?_
              refine RL.nil ?_
              refine WP.ret ?_
              refine fin1_ret rfl ⟨?_, H⟩
              exfalso
              have h2 := And.imp_left part_iff.1 hc2
              apply hc
              rw [hge]
              unfold raise1
              rw [if_pos h2]
            · refine WP.skip ?_
              refine WP.region ?_
              refine RL.r (mvI rfl) rfl ?_
              refine RL.r (add rfl rfl (by omega)) rfl ?_
              refine RL.r (asgI rfl) rfl ?_
              refine RL.nil ?_
              refine ⟨k1 - 1, by omega, j1 + 1, by omega, Head.intro (by repeat (first | with_reducible exact AgreeOff.mix _ _ _ | refine AgreeOff.look rfl ?_ | refine AgreeOff.mixs rfl ?_)) ⟨intE (by rw [hlS, if_pos (And.imp_left part_iff.1 (by assumption))]; omega), rfl, trivial⟩, H, hb4, hT.ext H11, hO.ext H11, hO2.ext H11⟩
          · refine WP.skip ?_
            refine WP.seq ?_
            refine WP.draw (by kernel_rfl) ?_
            refine QL.r (mvL rfl) rfl ?_
            refine QL.r (mvI rfl) rfl ?_
            have hc2 := hc
            refine QL.r (ix rfl rfl rfl hj2) rfl ?_
            refine QL.m (ldS_el rfl hO2.sl H11 rfl rfl hj2) rfl ?_
            refine QL.m (ldS_box rfl hb15 (Nat.le_of_ble_eq_true rfl) rfl) rfl ?_
            refine QL.r (aneq (α := Mrk) rfl rfl) rfl ?_
            refine QL.nil ?_; intro w17 hx; replace H := H.ext hx; replace hb4 := hb4.ext hx; replace hb15 := hb15.ext hx; replace H11 := H11.ext hx
            refine WP.cond rfl (fun hc => ?_) (fun hc => ?_)
            · refine WP.regionS ?_
              refine RL.r (asgB rfl) rfl ?_
              refine RL.nil ?_
              refine WP.ret ?_
              refine fin1_ret rfl ⟨?_, H⟩
              exfalso
              apply hc
              rw [hge]
              unfold raise1
              rw [if_neg (fun h => hc2 (And.imp_left part_iff.2 h))]
            · refine WP.skip ?_
              refine WP.region ?_
              refine RL.r (mvI rfl) rfl ?_
              refine RL.r (add rfl rfl (by omega)) rfl ?_
              refine RL.r (asgI rfl) rfl ?_
              refine RL.nil ?_
              refine ⟨k1 - 1, by omega, j1 + 1, by omega, Head.intro (by repeat (first | with_reducible exact AgreeOff.mix _ _ _ | refine AgreeOff.look rfl ?_ | refine AgreeOff.mixs rfl ?_)) ⟨intE (by rw [hlS, if_neg (fun h => absurd (And.imp_left part_iff.2 h) (by assumption))]; omega), rfl, trivial⟩, H, hb4, hT.ext H11, hO.ext H11, hO2.ext H11⟩
        · refine WP.exit ?_
          refine WP.regionS ?_
          refine RL.r (mvI rfl) rfl ?_
          refine RL.r (mvI rfl) rfl ?_
          refine RL.r (eql rfl rfl) rfl ?_
          refine RL.part rfl rfl (fun hg => ?_) (fun hg => ?_)
          · refine RL.yes rfl rfl rfl ?_
            refine RL.r (mvP rfl) rfl ?_
            refine RL.yes rfl rfl rfl ?_
            refine RL.m (ldS_box rfl hb4 (Nat.le_of_ble_eq_true rfl) rfl) rfl ?_
            refine RL.yes rfl rfl rfl ?_
            refine RL.r (mvI rfl) rfl ?_
            refine RL.yes rfl rfl rfl ?_
            -- call (*stagecoach/offsets.Table).Raise (tmp 94) (tmp 95) (tmp 96)
            refine RL.call (by have h := pRaise _ _ i m (raiseS S P ((and16v least : Nat) : Int)) P ((and16v least : Nat) : Int) hT (by omega); rw [(raise_val (by omega)).1, raise_again] at h; exact h) rfl rfl ?_
            rintro _ w18 ⟨⟨rfl, hT2⟩, hx⟩
            replace H := H.mp hx hT.old; replace hb4 := hb4.upd hx (hT.neb hb4)
            refine RL.yes rfl rfl rfl ?_
            refine RL.r (eql rfl rfl) rfl ?_
            refine RL.r (pickT rfl) rfl ?_
            refine RL.part rfl rfl (fun hg => ?_) (fun hg => ?_)
            · refine RL.yes rfl rfl rfl ?_
              -- call stagecoach/stagecoachlaw12.fixed 
              refine RL.call (lFixed _) rfl rfl ?_
              rintro _ w19 ⟨rfl, hx⟩
              replace H := H.ext hx; replace hb4 := hb4.ext hx
              refine RL.r (pickT rfl) rfl ?_
              refine RL.r (asgB rfl) rfl ?_
              refine RL.nil ?_
              refine WP.ret ?_
              refine fin1_ret rfl ⟨rfl, H⟩
            · refine RL.no rfl rfl rfl rfl ?_
              refine RL.r (pickF rfl) rfl ?_
              refine RL.r (asgB rfl) rfl ?_
              refine RL.nil ?_
              refine WP.ret ?_
              refine fin1_ret rfl ⟨absurd rfl hg, H⟩
          · refine RL.no rfl rfl rfl rfl ?_
            refine RL.no rfl rfl rfl rfl ?_
            refine RL.no rfl rfl rfl rfl ?_
            refine RL.no rfl rfl rfl rfl ?_
            refine RL.no rfl rfl rfl rfl ?_
            refine RL.r (pickF rfl) rfl ?_
            refine RL.r (mvB rfl) rfl ?_
            refine RL.no rfl rfl rfl rfl ?_
            refine RL.r (pickF rfl) rfl ?_
            refine RL.r (asgB rfl) rfl ?_
            refine RL.nil ?_
            refine WP.ret ?_
            refine fin1_ret rfl ⟨?_, H⟩
            exfalso
            apply hg
            obtain rfl : j1 = S.length := by omega
            rw [lowN_all]
end Go.Proofs.Ytmjamhgihbapjaa
