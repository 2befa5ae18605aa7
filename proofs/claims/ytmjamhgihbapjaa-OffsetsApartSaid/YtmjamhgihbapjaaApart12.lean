/-
  OffsetsApart: the walk.
-/
import Derived.Test.YtmjamhgihbapjaaStep12
set_option linter.unusedVariables false
namespace Go.Proofs.Ytmjamhgihbapjaa
open Go Go.Eng Go.RowKit
def keptN (S : List Mrk) (g : ByteArray) (j : Nat) : Nat := (dropS (S.take j) g).length
theorem keptN_zero (S : List Mrk) (g : ByteArray) : keptN S g 0 = 0 := rfl
theorem keptN_gone {S : List Mrk} {g : ByteArray} {j : Nat} (hj : j < S.length) (h : S[j].group = g) : keptN S g (j + 1) = keptN S g j := by
  unfold keptN dropS
  rw [List.take_succ_eq_append_getElem hj, List.filter_append]
  simp [h]
theorem keptN_stays {S : List Mrk} {g : ByteArray} {j : Nat} (hj : j < S.length) (h : ¬ S[j].group = g) : keptN S g (j + 1) = keptN S g j + 1 := by
  unfold keptN dropS
  rw [List.take_succ_eq_append_getElem hj, List.filter_append]
  simp [h]
theorem keptN_at {S : List Mrk} {g : ByteArray} {j : Nat} (hj : j < S.length) (h : ¬ S[j].group = g) : ∃ hk : keptN S g j < (dropS S g).length, (dropS S g)[keptN S g j] = S[j] := by
  have e : dropS S g = dropS (S.take j) g ++ S[j] :: dropS (S.drop (j + 1)) g := by
    unfold dropS
    conv => lhs; rw [← List.take_append_drop j S, List.filter_append, List.drop_eq_getElem_cons hj]
    rw [List.filter_cons_of_pos (by simpa using h)]
  have hk : keptN S g j < (dropS S g).length := by
    rw [e, List.length_append, List.length_cons]
    unfold keptN
    omega
  refine ⟨hk, ?_⟩
  have h1 : (dropS S g)[keptN S g j]? = some S[j] := by
    rw [e]
    unfold keptN
    rw [List.getElem?_append_right (Nat.le_refl _), Nat.sub_self]
    rfl
  exact (List.getElem?_eq_some_iff.1 h1).2
theorem keptN_all (S : List Mrk) (g : ByteArray) : keptN S g S.length = (dropS S g).length := by
  unfold keptN
  rw [List.take_length]
theorem drop_count (S : List Mrk) (g : ByteArray) : dropN S g + (dropS S g).length = S.length := by
  unfold dropN dropS
  have h := List.length_eq_countP_add_countP (p := fun x : Mrk => decide (x.group = g)) (l := S)
  rw [h]
  congr 1
  rw [List.countP_eq_length_filter]
  congr 1
  apply List.filter_congr
  intro x _
  by_cases h : x.group = g <;> simp [h]
theorem keptN_le (S : List Mrk) (g : ByteArray) (j : Nat) : keptN S g j ≤ j := by
  unfold keptN dropS
  refine Nat.le_trans (List.length_filter_le _ _) ?_
  rw [List.length_take]; omega
set_option maxRecDepth 20000 in
set_option maxHeartbeats 1600000 in
theorem lApart (w0 : World) (a : Option Addr) (c : Nat) (l : List MOp) (name : ByteArray) (hl : SlI w0 a l) :
    Ct Try.prog 6 #[.slice a l.length c, .string name] w0 fun v w' => v = .bool true ∧ Ext w0 w' := by
  refine Ct.intro1 Try.func6 Try.ntmps6 rfl rfl (by decide) rfl ?_
  have H : Ext w0 w0 := Ext.refl w0
  refine WP.regionS ?_
  refine RL.r (asgB rfl) rfl ?_
  refine RL.nil ?_
  refine WP.regionS ?_
  -- call stagecoach/offsets.New 
  refine RL.call (pNewB _ _ H.size) rfl rfl ?_
  rintro v w1 ⟨⟨i, m, rfl, hT⟩, hx⟩
  replace H := H.ext hx
  refine RL.r (asgP rfl) rfl ?_
  refine RL.nil ?_
  refine WP.seq ?_
  refine WP.regionS ?_
  refine RL.r (mvP rfl) rfl ?_
  refine RL.r (peqn rfl rfl) rfl ?_
  refine RL.nil ?_
  refine WP.cond rfl (fun hc => ?_) (fun hc => ?_)
  · refine WP.regionS ?_
    refine RL.r (asgB rfl) rfl ?_
    refine RL.nil ?_
    refine WP.ret ?_
    refine fin1_ret rfl ⟨absurd hc (by simp), H⟩
  · refine WP.skip ?_
    refine WP.seq ?_
    refine WP.regionS ?_
    refine RL.r (asgI rfl) rfl ?_
    refine RL.nil ?_
    refine WP.block ?_
    refine WP.loop (fun k e' w' => ∃ j : Nat, ∃ S : List Mrk,  j + k = min l.length 60 ∧ Head [6, 16, 17, 18, 19, 20, 21, 22, 23, 24, 25, 26, 27, 28, 29, 30, 31, 32, 33] _ [(6, .int .i64 (j : Int))] e' ∧ Ext w0 w' ∧ Tb w0.heap.size w' i m S ∧ S.length ≤ j) (min l.length 60)
      ⟨0, [], by omega, Head.intro (AgreeOff.refl _ _) ⟨rfl, trivial⟩, H, hT, Nat.le_refl _⟩ ?_
    clear H hT
    rintro k e w2 ⟨j, S, hjk, ⟨jk, rfl⟩, H, hT, hSl⟩
    refine WP.seq ?_
    refine WP.seq (WP.quiet ?_)
    refine QL.r (mvI rfl) rfl ?_
    refine QL.r (mvL rfl) rfl ?_
    refine QL.r (len_sl rfl) rfl ?_
    refine QL.r (lss rfl rfl) rfl ?_
    refine QL.r (mvB rfl) rfl ?_
    refine QL.gg (gwT rfl rfl) (fun hg => (mvI rfl).does _) rfl ?_
    refine QL.gg (gwT rfl rfl) (fun hg => (lss (gs hg rfl) rfl).does _) rfl ?_
    refine QL.r (pickAnd rfl (fun hn => gs hn rfl)) rfl ?_
    refine QL.nil ?_; intro w3 hx; replace H := H.ext hx; replace hT := hT.ext hx
    refine WP.cond rfl (fun hc => ?_) (fun hc => ?_)
    · refine WP.skip ?_
      refine WP.seq ?_
      refine WP.block ?_
      refine WP.region ?_
      refine RL.r (mvP rfl) rfl ?_
      refine RL.r (mvL rfl) rfl ?_
      refine RL.r (mvI rfl) rfl ?_
      have hj : j < l.length := by omega
      have hl := hl (List.ne_nil_of_length_pos (by omega))
      obtain ⟨p, rfl⟩ := hl.isAddr (by decide) hj
      refine RL.r (ix rfl rfl rfl (by omega)) rfl ?_
      refine RL.r (fa_el hl.1 rfl) rfl ?_
      refine RL.m (ldS_ef rfl hl H (by omega) rfl (Nat.le_of_ble_eq_true rfl)) rfl ?_
      -- call stagecoach/stagecoachlaw12.cut (tmp 31)
      refine RL.call (lCut _ l[j].m) rfl rfl ?_
      rintro _ w4 ⟨rfl, hx⟩
      replace H := H.ext hx; replace hT := hT.ext hx
      -- call (*stagecoach/offsets.Table).Put (tmp 26) (tmp 32)
      refine RL.call (pPut _ _ i m S (cutM l[j].m) hT) rfl rfl ?_
      rintro _ w5 ⟨⟨rfl, hT2⟩, hx⟩
      replace H := H.mp hx hT.old
      replace hT := hT2; clear hT2
      refine RL.nil ?_
      refine WP.region ?_
      refine RL.r (mvI rfl) rfl ?_
      refine RL.r (add rfl rfl (by omega)) rfl ?_
      refine RL.r (asgI rfl) rfl ?_
      refine RL.nil ?_
      refine ⟨k - 1, by omega, j + 1, putR S (cutM l[j].m), by omega, Head.intro (by repeat (first | with_reducible exact AgreeOff.mix _ _ _ | refine AgreeOff.look rfl ?_ | refine AgreeOff.mixs rfl ?_)) ⟨rfl, trivial⟩, H, hT, (by have := stepS_len S 0 (cutM l[j].m); unfold stepS at this; rw [if_pos rfl] at this; omega)⟩
    · refine WP.exit ?_
      refine WP.regionS ?_
      refine RL.r (mvS rfl) rfl ?_
      refine RL.r (mvS rfl) rfl ?_
      refine RL.r (len_str rfl) rfl ?_
      refine RL.r (min_i rfl rfl) rfl ?_
      refine RL.r (slcS (n := min name.size 40) rfl rfl (by omega) (by omega)) rfl ?_
      refine RL.r (asgS rfl) rfl ?_
      refine RL.nil ?_
      refine WP.regionS ?_
      refine RL.r (mvP rfl) rfl ?_
      -- call (*stagecoach/offsets.Table).List (tmp 39)
      have hs7 := H.size
      refine RL.call (pList _ _ i m S hT (by omega)) rfl rfl ?_
      rintro _ w6 ⟨⟨a11, c11, rfl, hO⟩, hx⟩
      replace H := H.ext hx; replace hT := hT.ext hx
      replace hO := hO.mono hs7
      refine RL.r (asgL rfl) rfl ?_
      refine RL.nil ?_
      refine WP.regionS ?_
      refine RL.r (mvP rfl) rfl ?_
      refine RL.r (mvS rfl) rfl ?_
      -- call (*stagecoach/offsets.Table).Drop (tmp 41) (tmp 42)
      refine RL.call (pDrop _ _ i m S (cutS name) hT (by omega)) rfl rfl ?_
      rintro _ w7 ⟨⟨rfl, hT2⟩, hx⟩
      replace H := H.mp hx hT.old; replace hO := hO.upd hx (hT.nea hO)
      replace hT := hT2; clear hT2
      refine RL.r (asgI rfl) rfl ?_
      refine RL.nil ?_
      refine WP.regionS ?_
      refine RL.r (mvP rfl) rfl ?_
      -- call (*stagecoach/offsets.Table).List (tmp 44)
      have hs9 := H.size
      have hdl := drop_count S (cutS name)
      refine RL.call (pList _ _ i m (dropS S (cutS name)) hT (by omega)) rfl rfl ?_
      rintro _ w8 ⟨⟨a13, c13, rfl, hO2⟩, hx⟩
      replace H := H.ext hx; replace hT := hT.ext hx; replace hO := hO.ext hx
      replace hO2 := hO2.mono hs9
      refine RL.r (asgL rfl) rfl ?_
      refine RL.r (asgI rfl) rfl ?_
      refine RL.nil ?_
      refine WP.seq ?_
      refine WP.regionS ?_
      refine RL.r (asgI rfl) rfl ?_
      refine RL.nil ?_
      refine WP.block ?_
      have hSL : S.length ≤ 60 := by omega
      refine WP.loop (fun k1 e' w' => ∃ j1 : Nat,  j1 + k1 = S.length ∧ Head [4, 11, 12, 46, 47, 48, 49, 50, 51, 52, 53, 54, 55, 56, 57, 58, 59, 60, 61, 62, 63, 64, 65, 66, 67, 68, 69, 70, 71, 72, 73, 74, 75] _ [(11, .int .i64 ((keptN S (cutS name) j1 : Nat) : Int)), (12, .int .i64 (j1 : Int))] e' ∧ Ext w0 w' ∧ Tb w0.heap.size w' i m (dropS S (cutS name)) ∧ Own w0.heap.size w' 26 a11 c11 S ∧ Own w0.heap.size w' 26 a13 c13 (dropS S (cutS name))) (S.length)
        ⟨0, by omega, Head.intro (AgreeOff.refl _ _) ⟨rfl, rfl, trivial⟩, H, hT, hO, hO2⟩ ?_
      clear H hT hO hO2
      rintro k1 e w9 ⟨j1, hjk1, ⟨jk1, rfl⟩, H, hT, hO, hO2⟩
      have H11 := Ext.refl w9
      have hke := keptN_le S (cutS name) j1
      refine WP.seq ?_
      refine WP.regionS ?_
      refine RL.r (mvI rfl) rfl ?_
      refine RL.r (mvL rfl) rfl ?_
      refine RL.r (len_sl rfl) rfl ?_
      refine RL.r (lss rfl rfl) rfl ?_
      refine RL.nil ?_
      refine WP.cond rfl (fun hc => ?_) (fun hc => ?_)
      · refine WP.skip ?_
        refine WP.seq ?_
        refine WP.block ?_
        refine WP.seq ?_
        refine WP.regionS ?_
        refine RL.r (mvL rfl) rfl ?_
        refine RL.r (mvI rfl) rfl ?_
        have hj1 : j1 < S.length := by omega
        obtain ⟨q1, rfl⟩ := hO.sl.isAddr (by decide) hj1
        refine RL.r (ix rfl rfl rfl (by omega)) rfl ?_
        refine RL.r (fa_el hO.sl.1 rfl) rfl ?_
        refine RL.m (ld_el rfl hO.sl H11 rfl hj1 rfl) rfl ?_
        refine RL.r (mvS rfl) rfl ?_
        refine RL.r (seql rfl rfl) rfl ?_
        refine RL.nil ?_
        refine WP.cond rfl (fun hc => ?_) (fun hc => ?_)
        · refine WP.exit ?_
          refine WP.region ?_
          refine RL.r (mvI rfl) rfl ?_
          refine RL.r (add rfl rfl (by omega)) rfl ?_
          refine RL.r (asgI rfl) rfl ?_
          refine RL.nil ?_
          refine ⟨k1 - 1, by omega, j1 + 1, by omega, Head.intro (by repeat (first | with_reducible exact AgreeOff.mix _ _ _ | refine AgreeOff.look rfl ?_ | refine AgreeOff.mixs rfl ?_)) ⟨intE (by rw [keptN_gone (g := cutS name) hj1 hc]), rfl, trivial⟩, H, hT.ext H11, hO.ext H11, hO2.ext H11⟩
        · refine WP.skip ?_
          refine WP.seq ?_
          refine WP.seq ?_
          refine WP.draw (by kernel_rfl) ?_
          refine QL.r (mvI rfl) rfl ?_
          refine QL.r (mvL rfl) rfl ?_
          refine QL.r (len_sl rfl) rfl ?_
          refine QL.r (geq rfl rfl) rfl ?_
          refine QL.r (mvB rfl) rfl ?_
          refine QL.gg (gwF rfl rfl) (fun hg => (mvL rfl).does _) rfl ?_
          refine QL.gg (gwF rfl rfl) (fun hg => (mvI rfl).does _) rfl ?_
          have hgr := hc
          obtain ⟨hk, hke2⟩ := keptN_at (g := cutS name) hj1 hgr
          obtain ⟨q2, rfl⟩ := hO2.sl.isAddr (by decide) hk
          refine QL.gg (gwF rfl rfl) (fun hg => (ix (gs hg rfl) (gs hg rfl) rfl hk).does _) rfl ?_
          refine QL.gg (gwF rfl rfl) (fun hg => ldS_el (gs hg rfl) hO2.sl H11 rfl rfl hk) rfl ?_
          refine QL.gg (gwF rfl rfl) (fun hg => (mvL rfl).does _) rfl ?_
          refine QL.gg (gwF rfl rfl) (fun hg => (mvI rfl).does _) rfl ?_
          refine QL.gg (gwF rfl rfl) (fun hg => (ix (gs hg rfl) (gs hg rfl) rfl hj1).does _) rfl ?_
          refine QL.gg (gwF rfl rfl) (fun hg => ldS_el (gs hg rfl) hO.sl H11 rfl rfl hj1) rfl ?_
          refine QL.gg (gwF rfl rfl) (fun hg => (aneq (α := Mrk) (gs hg rfl) (gs hg rfl)).does _) rfl ?_
          refine QL.r (pickOr rfl (fun hn => gs hn rfl)) rfl ?_
          refine QL.nil ?_; intro w10 hx; replace H := H.ext hx; replace H11 := H11.ext hx
          refine WP.cond rfl (fun hc => ?_) (fun hc => ?_)
          · refine WP.regionS ?_
            refine RL.r (asgB rfl) rfl ?_
            refine RL.nil ?_
            refine WP.ret ?_
            refine fin1_ret rfl ⟨?_, H⟩
            exfalso
            rcases hc with hc | hc
            · omega
            · exact hc hke2
          · refine WP.skip ?_
            refine WP.region ?_
            refine RL.r (mvI rfl) rfl ?_
            refine RL.r (add rfl rfl (by omega)) rfl ?_
            refine RL.r (asgI rfl) rfl ?_
            refine RL.nil ?_
            refine WP.region ?_
            refine RL.r (mvI rfl) rfl ?_
            refine RL.r (add rfl rfl (by omega)) rfl ?_
            refine RL.r (asgI rfl) rfl ?_
            refine RL.nil ?_
            refine ⟨k1 - 1, by omega, j1 + 1, by omega, Head.intro (by repeat (first | with_reducible exact AgreeOff.mix _ _ _ | refine AgreeOff.look rfl ?_ | refine AgreeOff.mixs rfl ?_)) ⟨intE (by rw [keptN_stays (g := cutS name) hj1 hgr]; omega), rfl, trivial⟩, H, hT.ext H11, hO.ext H11, hO2.ext H11⟩
      · refine WP.exit ?_
        refine WP.seq (WP.quiet ?_)
        refine QL.r (mvI rfl) rfl ?_
        refine QL.r (mvL rfl) rfl ?_
        refine QL.r (len_sl rfl) rfl ?_
        refine QL.r (eql rfl rfl) rfl ?_
        refine QL.r (mvB rfl) rfl ?_
        refine QL.gg (gwT rfl rfl) (fun hg => (mvI rfl).does _) rfl ?_
        refine QL.gg (gwT rfl rfl) (fun hg => (mvL rfl).does _) rfl ?_
        refine QL.gg (gwT rfl rfl) (fun hg => (len_sl (gs hg rfl)).does _) rfl ?_
        refine QL.gg (gwT rfl rfl) (fun hg => (mvI rfl).does _) rfl ?_
        refine QL.gg (gwT rfl rfl) (fun hg => (sub (gs hg rfl) (gs hg rfl) (by omega)).does _) rfl ?_
        refine QL.gg (gwT rfl rfl) (fun hg => (eql (gs hg rfl) (gs hg rfl)).does _) rfl ?_
        refine QL.r (pickAnd rfl (fun hn => gs hn rfl)) rfl ?_
        refine QL.r (mvB rfl) rfl ?_
        -- call stagecoach/stagecoachlaw12.fixed 
        refine QL.gcall (gwT rfl rfl) (fun hg w' hw' => lFixedD w') (fun hg => EvL.nil) rfl ?_
        refine QL.r (pickAnd rfl (fun hn => gs hn rfl)) rfl ?_
        refine QL.r (asgB rfl) rfl ?_
        refine QL.nil ?_; intro w12 hx; replace H := H.ext hx; replace H11 := H11.ext hx
        refine WP.ret ?_
        refine fin1_ret rfl ⟨congrArg Value.bool (bT ?_).symm, H⟩
        obtain rfl : j1 = S.length := by omega
        rw [keptN_all]
        exact ⟨⟨by omega, by omega⟩, rfl⟩
end Go.Proofs.Ytmjamhgihbapjaa
