/-
  OffsetsLoads: the walks of what it asks, and of itself.
-/
import Derived.Test.YtmjamhgihbapjaaFix12
import Derived.Test.YtmjamhgihbapjaaSlc
import Derived.Test.YtmjamhgihbapjaaRow
set_option linter.unusedVariables false
namespace Go.Proofs.Ytmjamhgihbapjaa
open Go Go.Eng Go.RowKit
def cutS (s : ByteArray) : ByteArray := s.extract 0 (min s.size 40)
def cutM (m : Mrk) : Mrk := ⟨cutS m.group, cutS m.topic, m.n, m.off⟩
theorem cutS_size (s : ByteArray) : (cutS s).size ≤ 40 := by unfold cutS; rw [ByteArray.size_extract]; omega
def Short (m : Mrk) : Prop := m.group.size ≤ 40 ∧ m.topic.size ≤ 40
theorem cutM_short (m : Mrk) : Short (cutM m) := ⟨cutS_size _, cutS_size _⟩
/-- the document's table -/
def Tr (B : Nat) (w : World) (i : Nat) (a : Option Addr) (c : Nat) (S : List Mrk) : Prop := Box B w i 54 [.slice a S.length c] ∧ Own B w 26 a c S
theorem pLoad2 (w0 : World) (a : Option Addr) (c0 : Nat) (l : List Mrk) (hl : Sl w0 a l) (hlen : l.length ≤ 100000) :
    Ct Try.prog 10 #[.slice a l.length c0] w0 fun v w' => (∃ p, v = .tuple #[.pointer p, .int .i64 (loadE l)] ∧ (loadE l = 0 → ∃ i m, p = some ⟨i, 0, none⟩ ∧ Tb w0.heap.size w' i m l) ∧ (¬ loadE l = 0 → p = none)) ∧ Ext w0 w' :=
  (pLoad w0 a c0 l hl hlen).mono fun v w' ⟨h, hx⟩ => ⟨by
    rcases h with ⟨h0, i, m, rfl, hT⟩ | ⟨h0, rfl⟩
    · exact ⟨some ⟨i, 0, none⟩, by rw [h0], fun _ => ⟨i, m, rfl, hT⟩, fun h => absurd h0 h⟩
    · exact ⟨none, by rw [h0], fun h => by rw [h0] at h; exact absurd h (by decide), fun _ => rfl⟩, hx⟩
theorem loadE_not {l : List Mrk} {j : Nat} (hj : j < l.length) (h : ¬ mayM l[j] ∨ (0 < j ∧ ¬ bef (l[j - 1]'(by omega)) l[j])) : loadE l = 1 := by
  unfold loadE
  rw [if_neg]
  intro hk
  obtain ⟨h1, h2⟩ := hk j hj
  rcases h with h | ⟨h3, h4⟩
  · exact h h1
  · exact h4 (h2 h3)
theorem loadE_is {l : List Mrk} (h : ∀ (i : Nat) (h : i < l.length), mayM l[i] ∧ (0 < i → bef l[i - 1] l[i])) : loadE l = 0 := by
  unfold loadE
  rw [if_pos h]
theorem lCut (w0 : World) (m : Mrk) :
    Ct Try.prog 9 #[.agg (Lies.enc m).toArray] w0 fun v w' => v = .agg (Lies.enc (cutM m)).toArray ∧ Ext w0 w' := by
  refine Ct.introC Try.func9 Try.ntmps9 rfl rfl (by decide) rfl ?_
  have H : Ext w0 w0 := Ext.refl w0
  refine WP.regionS ?_
  refine RL.boxS w0.heap.size H.size rfl rfl ?_
  intro w1 i1 hi1 hx hb1
  replace H := H.ext hx; clear hx
  refine RL.alloc w0.heap.size H.size rfl rfl ?_
  intro w2 i2 hi2 hx hb2
  have ne1_2 := hb1.ne hi2
  replace H := H.ext hx; replace hb1 := hb1.ext hx; clear hx
  refine RL.nil ?_
  refine WP.regionS ?_
  refine RL.r (fa_box rfl) rfl ?_
  refine RL.m (ld_box rfl hb1 rfl) rfl ?_
  refine RL.r (fa_box rfl) rfl ?_
  refine RL.m (ld_box rfl hb1 rfl) rfl ?_
  refine RL.r (len_str rfl) rfl ?_
  refine RL.r (min_i rfl rfl) rfl ?_
  refine RL.r (slcS (n := min m.group.size 40) rfl rfl (by omega) (by omega)) rfl ?_
  refine RL.r (fa_box rfl) rfl ?_
  refine RL.store1 rfl hb1 rfl rfl rfl rfl ?_
  intro w3 hu hb1
  replace H := H.box hu hb1.old; replace hb2 := hb2.upd hu (Ne.symm ne1_2)
  refine RL.nil ?_
  refine WP.regionS ?_
  refine RL.r (fa_box rfl) rfl ?_
  refine RL.r (fa_box rfl) rfl ?_
  refine RL.m (ld_box rfl hb1 rfl) rfl ?_
  refine RL.r (fa_box rfl) rfl ?_
  refine RL.r (fa_box rfl) rfl ?_
  refine RL.m (ld_box rfl hb1 rfl) rfl ?_
  refine RL.r (len_str rfl) rfl ?_
  refine RL.r (min_i rfl rfl) rfl ?_
  refine RL.r (slcS (n := min m.topic.size 40) rfl rfl (by omega) (by omega)) rfl ?_
  refine RL.r (fa_box rfl) rfl ?_
  refine RL.r (fa_box rfl) rfl ?_
  refine RL.store1 rfl hb1 rfl rfl rfl rfl ?_
  intro w4 hu hb1
  replace H := H.box hu hb1.old; replace hb2 := hb2.upd hu (Ne.symm ne1_2)
  refine RL.nil ?_
  refine WP.regionS ?_
  refine RL.m (ldS_box rfl hb1 (Nat.le_of_ble_eq_true rfl) rfl) rfl ?_
  refine RL.storeS rfl hb2 rfl rfl rfl rfl ?_
  intro w5 hu hb2
  replace H := H.box hu hb2.old; replace hb1 := hb1.upd hu ne1_2
  refine RL.nil ?_
  refine WP.ret ?_
  refine finC_ret rfl hb2 ⟨⟨_, rfl, rfl⟩, rfl, H⟩
theorem rLoad (w0 : World) (a : Option Addr) (c0 : Nat) (l : List Mrk) (hl : Sl w0 a l) (hlen : l.length ≤ 100000) :
    Ct Try.prog 11 #[.slice a l.length c0] w0 fun v w' => (∃ p, v = .tuple #[.pointer p, .int .i64 (loadE l)] ∧ (loadE l = 0 → ∃ i a c, p = some ⟨i, 0, none⟩ ∧ Tr w0.heap.size w' i a c l) ∧ (¬ loadE l = 0 → p = none)) ∧ Ext w0 w' := by
  refine Ct.intro2 Try.func11 Try.ntmps11 rfl rfl (by decide) rfl ?_
  have H : Ext w0 w0 := Ext.refl w0
  refine WP.regionS ?_
  refine RL.r (asgP rfl) rfl ?_
  refine RL.r (asgI rfl) rfl ?_
  refine RL.nil ?_
  refine WP.seq ?_
  refine WP.regionS ?_
  refine RL.r (asgI rfl) rfl ?_
  refine RL.nil ?_
  refine WP.block ?_
  refine WP.loop (fun k e' w' => ∃ j : Nat,  j + k = l.length ∧ Head [2, 3, 4, 5, 6, 7, 8, 9, 10, 11, 12, 13, 14, 15, 16, 17, 18, 19, 20, 21, 22, 23, 24, 25, 26, 27, 28, 29, 30, 31, 32, 33] _ [(4, .int .i64 (j : Int))] e' ∧ Ext w0 w' ∧ ∀ (i : Nat) (h : i < l.length), i < j → mayM l[i] ∧ (0 < i → bef l[i - 1] l[i])) (l.length)
    ⟨0, by omega, Head.intro (AgreeOff.refl _ _) ⟨rfl, trivial⟩, H, fun i h hi => by omega⟩ ?_
  clear H
  rintro k e w1 ⟨j, hjk, ⟨jk, rfl⟩, H, hok⟩
  refine WP.seq ?_
  refine WP.regionS ?_
  refine RL.r (mvI rfl) rfl ?_
  refine RL.r (mvL rfl) rfl ?_
  refine RL.r (len_sl rfl) rfl ?_
  refine RL.r (lss rfl rfl) rfl ?_
  refine RL.nil ?_
  refine WP.cond rfl (fun hc => ?_) (fun hc => ?_)
  · refine WP.skip ?_
    refine WP.seq ?_
    refine WP.block ?_
    refine WP.seq ?_
    refine WP.draw (by kernel_rfl) ?_
    refine QL.r (mvL rfl) rfl ?_
    refine QL.r (mvI rfl) rfl ?_
    have hj : j < l.length := by omega
    have hj1 : j - 1 < l.length := by omega
    obtain ⟨p, rfl⟩ := hl.isAddr (by decide) hj
    refine QL.r (ix rfl rfl rfl (by omega)) rfl ?_
    refine QL.m (ldS_el rfl hl H rfl rfl (by omega)) rfl ?_
    -- call stagecoach/stagecoachref12.may (tmp 14)
    refine QL.call (fun w' hw' => rMayM w' _) rfl rfl ?_
    first | refine QL.r (notD rfl) rfl ?_ | refine QL.r (not_ rfl) rfl ?_
    refine QL.r (mvB rfl) rfl ?_
    refine QL.gg (gwF rfl rfl) (fun hg => (mvI rfl).does _) rfl ?_
    refine QL.gg (gwF rfl rfl) (fun hg => (gtr (gs hg rfl) rfl).does _) rfl ?_
    refine QL.gg (gwF rfl rfl) (fun hg => (mvv (gs hg rfl)).does _) rfl ?_
    refine QL.gg (gwTT rfl rfl) (fun hg => (mvL rfl).does _) rfl ?_
    refine QL.gg (gwTT rfl rfl) (fun hg => (mvI rfl).does _) rfl ?_
    refine QL.gg (gwTT rfl rfl) (fun hg => (sub (gs hg rfl) rfl (by omega)).does _) rfl ?_
    refine QL.gg (gwTT rfl rfl) (fun hg => (ix (gs hg rfl) (gs hg rfl) (show ((j : Int) - 1) = ((j - 1 : Nat) : Int) by omega) (by omega)).does _) rfl ?_
    refine QL.gg (gwTT rfl rfl) (fun hg => ldS_el (gs hg rfl) hl H rfl rfl hj1) rfl ?_
    refine QL.gg (gwTT rfl rfl) (fun hg => (mvL rfl).does _) rfl ?_
    refine QL.gg (gwTT rfl rfl) (fun hg => (mvI rfl).does _) rfl ?_
    refine QL.gg (gwTT rfl rfl) (fun hg => (ix (gs hg rfl) (gs hg rfl) rfl (by omega)).does _) rfl ?_
    refine QL.gg (gwTT rfl rfl) (fun hg => ldS_el (gs hg rfl) hl H rfl rfl hj) rfl ?_
    -- call stagecoach/stagecoachref12.Before (tmp 25) (tmp 29)
    refine QL.gcall (gwTT rfl rfl) (fun hg w' hw' => rBefore w' _ _ (by have := (hok (j - 1) hj1 (by omega)).1.1.2.1; omega) (by have := (hok (j - 1) hj1 (by omega)).1.2.1.2.1; omega)) (fun hg => EvL.cons (gs hg rfl) (EvL.cons (gs hg rfl) (EvL.nil))) rfl ?_
    first | refine QL.gg (gwTT rfl rfl) (fun hg => (notD (gs hg rfl)).does _) rfl ?_ | refine QL.gg (gwTT rfl rfl) (fun hg => (not_ (gs hg rfl)).does _) rfl ?_
    refine QL.gg (gwF rfl rfl) (fun hg => (pickAnd (gs hg rfl) (fun hn => gs ⟨hg, hn⟩ rfl)).does _) rfl ?_
    refine QL.r (pickOr rfl (fun hn => gs hn rfl)) rfl ?_
    refine QL.nil ?_; intro w4 hx; replace H := H.ext hx
    refine WP.cond rfl (fun hc => ?_) (fun hc => ?_)
    · refine WP.regionS ?_
      refine RL.r (asgP rfl) rfl ?_
      refine RL.r (asgI rfl) rfl ?_
      refine RL.nil ?_
      refine WP.ret ?_
      have hE := loadE_not hj (hc.imp id fun h => ⟨by omega, h.2⟩)
      refine fin2_ret rfl rfl ⟨⟨none, tupE hE.symm, fun h => by rw [hE] at h; exact absurd h (by decide), fun _ => rfl⟩, H⟩
    · refine WP.skip ?_
      refine WP.region ?_
      refine RL.r (mvI rfl) rfl ?_
      refine RL.r (add rfl rfl (by omega)) rfl ?_
      refine RL.r (asgI rfl) rfl ?_
      refine RL.nil ?_
      refine ⟨k - 1, by omega, j + 1, by omega, Head.intro (by repeat (first | with_reducible exact AgreeOff.mix _ _ _ | refine AgreeOff.look rfl ?_ | refine AgreeOff.mixs rfl ?_)) ⟨rfl, trivial⟩, H, fun i h hi => ?_⟩
      by_cases hij : i < j
      · exact hok i h hij
      · obtain rfl : i = j := by omega
        exact ⟨Classical.byContradiction fun h => hc (.inl h), fun h0 => Classical.byContradiction fun h => hc (.inr ⟨by omega, h⟩)⟩
  · refine WP.exit ?_
    refine WP.regionS ?_
    refine RL.build0 (α := Mrk) w0.heap.size H.size rfl ?_
    intro w5 i34 hi34 hx hb34
    replace H := H.ext hx; clear hx
    refine RL.r (mvL rfl) rfl ?_
    refine RL.appendS rfl hb34 H.size rfl (hl.ext H) rfl rfl (by decide) rfl cell1 (by simp only [List.length_nil]; omega) (by simp only [List.length_nil, maxLen]; omega) rfl ?_
    intro w6 a36 c36 hu hb36 hfr36
    replace H := Ext.own H hb34 hu; clear hu
    refine RL.r (bld rfl rfl) rfl ?_
    refine RL.boxS w0.heap.size H.size rfl rfl ?_
    intro w7 i38 hi38 hx hb38
    replace H := H.ext hx; replace hb36 := hb36.ext hx; clear hx
    refine RL.r (asgP rfl) rfl ?_
    refine RL.r (asgI rfl) rfl ?_
    refine RL.nil ?_
    refine WP.ret ?_
    have hE := loadE_is (fun i h => hok i h (by omega))
    refine fin2_ret rfl rfl ⟨⟨_, tupE hE.symm, fun _ => ⟨_, _, _, rfl, hb38, hb36⟩, fun h => absurd hE h⟩, H⟩
theorem rSame (w0 : World) (a b : Option Addr) (c d : Nat) (l l2 : List Mrk) (hl : Sl w0 a l) (hl2 : Sl w0 b l2) (hlen : l.length ≤ 100000) :
    Ct Try.prog 12 #[.slice a l.length c, .slice b l2.length d] w0 fun v w' => v = .bool (decide (l = l2)) ∧ Ext w0 w' := by
  refine Ct.intro1 Try.func12 Try.ntmps12 rfl rfl (by decide) rfl ?_
  have H : Ext w0 w0 := Ext.refl w0
  refine WP.regionS ?_
  refine RL.r (asgB rfl) rfl ?_
  refine RL.nil ?_
  refine WP.seq ?_
  refine WP.regionS ?_
  refine RL.r (mvL rfl) rfl ?_
  refine RL.r (len_sl rfl) rfl ?_
  refine RL.r (mvL rfl) rfl ?_
  refine RL.r (len_sl rfl) rfl ?_
  refine RL.r (neq rfl rfl) rfl ?_
  refine RL.nil ?_
  refine WP.cond rfl (fun hc => ?_) (fun hc => ?_)
  · refine WP.regionS ?_
    refine RL.r (asgB rfl) rfl ?_
    refine RL.nil ?_
    refine WP.ret ?_
    refine fin1_ret rfl ⟨congrArg Value.bool (bF fun h => by rw [h] at hc; exact hc rfl), H⟩
  · refine WP.skip ?_
    refine WP.seq ?_
    refine WP.regionS ?_
    refine RL.r (asgI rfl) rfl ?_
    refine RL.nil ?_
    refine WP.block ?_
    refine WP.loop (fun k e' w' => ∃ j : Nat,  j + k = l.length ∧ Head [4, 5, 11, 12, 13, 14, 15, 16, 17, 18, 19, 20, 21, 22, 23, 24, 25] _ [(5, .int .i64 (j : Int))] e' ∧ Ext w0 w' ∧ ∀ (i : Nat) (h : i < l.length) (h2 : i < l2.length), i < j → l[i] = l2[i]) (l.length)
      ⟨0, by omega, Head.intro (AgreeOff.refl _ _) ⟨rfl, trivial⟩, H, fun i h h2 hi => by omega⟩ ?_
    clear H
    rintro k e w1 ⟨j, hjk, ⟨jk, rfl⟩, H, hok⟩
    refine WP.seq ?_
    refine WP.regionS ?_
    refine RL.r (mvI rfl) rfl ?_
    refine RL.r (mvL rfl) rfl ?_
    refine RL.r (len_sl rfl) rfl ?_
    refine RL.r (lss rfl rfl) rfl ?_
    refine RL.nil ?_
    refine WP.cond rfl (fun hc => ?_) (fun hc => ?_)
    · refine WP.skip ?_
      refine WP.seq ?_
      refine WP.block ?_
      refine WP.seq ?_
      refine WP.draw (by kernel_rfl) ?_
      refine QL.r (mvL rfl) rfl ?_
      refine QL.r (mvI rfl) rfl ?_
      have hj : j < l.length := by omega
      have hj2 : j < l2.length := by omega
      obtain ⟨p, rfl⟩ := hl.isAddr (by decide) hj
      obtain ⟨p2, rfl⟩ := hl2.isAddr (by decide) hj2
      refine QL.r (ix rfl rfl rfl (by omega)) rfl ?_
      refine QL.m (ldS_el rfl hl H rfl rfl (by omega)) rfl ?_
      refine QL.r (mvL rfl) rfl ?_
      refine QL.r (mvI rfl) rfl ?_
      refine QL.r (ix rfl rfl rfl (by omega)) rfl ?_
      refine QL.m (ldS_el rfl hl2 H rfl rfl hj2) rfl ?_
      refine QL.r (aneq (α := Mrk) rfl rfl) rfl ?_
      refine QL.nil ?_; intro w2 hx; replace H := H.ext hx
      refine WP.cond rfl (fun hc => ?_) (fun hc => ?_)
      · refine WP.regionS ?_
        refine RL.r (asgB rfl) rfl ?_
        refine RL.nil ?_
        refine WP.ret ?_
        refine fin1_ret rfl ⟨congrArg Value.bool (bF fun h => by subst h; exact hc rfl), H⟩
      · refine WP.skip ?_
        refine WP.region ?_
        refine RL.r (mvI rfl) rfl ?_
        refine RL.r (add rfl rfl (by omega)) rfl ?_
        refine RL.r (asgI rfl) rfl ?_
        refine RL.nil ?_
        refine ⟨k - 1, by omega, j + 1, by omega, Head.intro (by repeat (first | with_reducible exact AgreeOff.mix _ _ _ | refine AgreeOff.look rfl ?_ | refine AgreeOff.mixs rfl ?_)) ⟨rfl, trivial⟩, H, fun i h h2 hi => ?_⟩
        by_cases hij : i < j
        · exact hok i h h2 hij
        · obtain rfl : i = j := by omega
          exact Classical.not_not.1 hc
    · refine WP.exit ?_
      refine WP.regionS ?_
      refine RL.r (asgB rfl) rfl ?_
      refine RL.nil ?_
      refine WP.ret ?_
      refine fin1_ret rfl ⟨congrArg Value.bool (bT (List.ext_getElem (by omega) fun i h h2 => hok i h h2 (by omega))), H⟩
theorem lLoads (w0 : World) (a : Option Addr) (c : Nat) (l : List Mrk) (hl : SlI w0 a l) :
    Ct Try.prog 3 #[.slice a l.length c] w0 fun v w' => v = .bool true ∧ Ext w0 w' := by
  refine Ct.intro1 Try.func3 Try.ntmps3 rfl rfl (by decide) rfl ?_
  have H : Ext w0 w0 := Ext.refl w0
  refine WP.regionS ?_
  refine RL.r (asgB rfl) rfl ?_
  refine RL.nil ?_
  refine WP.regionS ?_
  refine RL.build0 (α := Mrk) w0.heap.size H.size rfl ?_
  intro w1 i9 hi9 hx hb9
  replace H := H.ext hx; clear hx
  refine RL.r (asgL rfl) rfl ?_
  refine RL.nil ?_
  refine WP.seq ?_
  refine WP.regionS ?_
  refine RL.r (asgI rfl) rfl ?_
  refine RL.nil ?_
  refine WP.block ?_
  refine WP.loop (fun k e' w' => ∃ j : Nat, ∃ (a3 : Option Addr) (c3 : Nat) (M : List Mrk),  j + k = min l.length 60 ∧ Head [3, 4, 10, 11, 12, 13, 14, 15, 16, 17, 18, 19, 20, 21, 22, 23, 24, 25, 26, 27] _ [(3, .slice a3 M.length c3), (4, .int .i64 (j : Int))] e' ∧ Ext w0 w' ∧ Own w0.heap.size w' 26 a3 c3 M ∧ M.length = j ∧ ∀ x ∈ M, Short x) (min l.length 60)
    ⟨0, _, _, [], by omega, Head.intro (AgreeOff.refl _ _) ⟨rfl, rfl, trivial⟩, H, hb9, rfl, fun x hx => by simp at hx⟩ ?_
  clear H
  rintro k e w2 ⟨j, a3, c3, M, hjk, ⟨jk, rfl⟩, H, hO, hMl, hMs⟩
  refine WP.seq ?_
  refine WP.seq (WP.quiet ?_)
  refine QL.r (mvI rfl) rfl ?_
  refine QL.r (mvL rfl) rfl ?_
  refine QL.r (len_sl rfl) rfl ?_
  refine QL.r (lss rfl rfl) rfl ?_
  refine QL.r (mvB rfl) rfl ?_
  refine QL.gg (gwT rfl rfl) (fun hg => (mvI rfl).does _) rfl ?_
  refine QL.gg (gwT rfl rfl) (fun hg => (lss (gs hg rfl) rfl).does _) rfl ?_
  refine QL.r (pickAnd rfl (fun hn => gs hn rfl)) rfl ?_
  refine QL.nil ?_; intro w3 hx; replace H := H.ext hx; replace hO := hO.ext hx
  refine WP.cond rfl (fun hc => ?_) (fun hc => ?_)
  · refine WP.skip ?_
    refine WP.seq ?_
    refine WP.block ?_
    refine WP.region ?_
    refine RL.r (mvL rfl) rfl ?_
    refine RL.r (mvL rfl) rfl ?_
    refine RL.r (mvI rfl) rfl ?_
    have hj : j < l.length := by omega
    have hl := hl (List.ne_nil_of_length_pos (by omega))
    obtain ⟨p, rfl⟩ := hl.isAddr (by decide) hj
    refine RL.r (ix rfl rfl rfl (by omega)) rfl ?_
    refine RL.m (ldS_el rfl hl H rfl rfl (by omega)) rfl ?_
    -- call stagecoach/stagecoachlaw12.cut (tmp 24)
    refine RL.call (lCut _ l[j]) rfl rfl ?_
    rintro _ w4 ⟨rfl, hx⟩
    replace H := H.ext hx; replace hO := hO.ext hx
    refine RL.buildSlice w0.heap.size H.size rfl rfl rfl rfl rfl ?_
    intro w5 i26 hi26 hx hb26
    replace H := H.ext hx; replace hO := hO.ext hx; clear hx
    refine RL.appendS rfl hO H.size rfl (show Sl _ _ [cutM l[j]] from Box.sl1 hb26) rfl rfl (by decide) rfl cell1 (by omega) (by simp only [maxLen]; omega) rfl ?_
    intro w6 a27 c27 hu hb27 hfr27
    replace H := Ext.own H hO hu; clear hu
    refine RL.r (asgL rfl) rfl ?_
    refine RL.nil ?_
    refine WP.region ?_
    refine RL.r (mvI rfl) rfl ?_
    refine RL.r (add rfl rfl (by omega)) rfl ?_
    refine RL.r (asgI rfl) rfl ?_
    refine RL.nil ?_
    refine ⟨k - 1, by omega, j + 1, _, _, _, by omega, Head.intro (by repeat (first | with_reducible exact AgreeOff.mix _ _ _ | refine AgreeOff.look rfl ?_ | refine AgreeOff.mixs rfl ?_)) ⟨rfl, rfl, trivial⟩, H, hb27, by rw [List.length_append, hMl]; rfl, fun x hx => ?_⟩
    rcases List.mem_append.1 hx with hx | hx
    · exact hMs x hx
    · rw [List.mem_singleton.1 hx]; exact cutM_short _
  · refine WP.exit ?_
    refine WP.regionS ?_
    refine RL.r (mvL rfl) rfl ?_
    -- call stagecoach/offsets.Load (tmp 29)
    have hM : M.length ≤ 60 := by omega
    refine RL.call (pLoad2 _ a3 c3 M hO.sl (by omega)) rfl rfl ?_
    rintro v w7 ⟨⟨p, rfl, hp0, hp1⟩, hx⟩
    replace H := H.ext hx; replace hO := hO.ext hx
    have HT := Ext.refl w7
    refine RL.r (mvU rfl) rfl ?_
    refine RL.r (ex0 rfl) rfl ?_
    refine RL.r (ex1 rfl) rfl ?_
    refine RL.r (asgP rfl) rfl ?_
    refine RL.r (asgI rfl) rfl ?_
    refine RL.nil ?_
    refine WP.regionS ?_
    refine RL.r (mvL rfl) rfl ?_
    -- call stagecoach/stagecoachref12.Load (tmp 34)
    refine RL.call (rLoad _ a3 c3 M hO.sl (by omega)) rfl rfl ?_
    rintro v w8 ⟨⟨q, rfl, hq0, hq1⟩, hx⟩
    replace H := H.ext hx; replace hO := hO.ext hx; replace HT := HT.ext hx
    refine RL.r (mvU rfl) rfl ?_
    refine RL.r (ex0 rfl) rfl ?_
    refine RL.r (ex1 rfl) rfl ?_
    refine RL.r (asgP rfl) rfl ?_
    refine RL.r (asgI rfl) rfl ?_
    refine RL.nil ?_
    refine WP.seq ?_
    refine WP.seq (WP.quiet ?_)
    refine QL.r (mvI rfl) rfl ?_
    refine QL.r (mvI rfl) rfl ?_
    refine QL.r (neq rfl rfl) rfl ?_
    refine QL.r (mvB rfl) rfl ?_
    refine QL.gg (gwF rfl rfl) (fun hg => (mvP rfl).does _) rfl ?_
    refine QL.gg (gwF rfl rfl) (fun hg => (peqn (gs hg rfl) rfl).does _) rfl ?_
    refine QL.gg (gwF rfl rfl) (fun hg => (mvP rfl).does _) rfl ?_
    refine QL.gg (gwF rfl rfl) (fun hg => (peqn (gs hg rfl) rfl).does _) rfl ?_
    refine QL.gg (gwF rfl rfl) (fun hg => (bneq (gs hg rfl) (gs hg rfl)).does _) rfl ?_
    refine QL.r (pickOr rfl (fun hn => gs hn rfl)) rfl ?_
    refine QL.nil ?_; intro w9 hx; replace H := H.ext hx; replace hO := hO.ext hx; replace HT := HT.ext hx
    refine WP.cond rfl (fun hc => ?_) (fun hc => ?_)
    · refine WP.regionS ?_
      refine RL.r (asgB rfl) rfl ?_
      refine RL.nil ?_
      refine WP.ret ?_
      refine fin1_ret rfl ⟨?_, H⟩
      exfalso
      rcases hc with hc | hc
      · exact hc rfl
      · by_cases h : loadE M = 0
        · obtain ⟨i, m, rfl, _⟩ := hp0 h
          obtain ⟨i2, a2, c2, rfl, _⟩ := hq0 h
          exact hc rfl
        · rw [hp1 h, hq1 h] at hc
          exact hc rfl
    · refine WP.skip ?_
      refine WP.regionS ?_
      refine RL.r (mvP rfl) rfl ?_
      refine RL.r (peqn rfl rfl) rfl ?_
      refine RL.part rfl rfl (fun hg => ?_) (fun hg => ?_)
      · refine RL.no rfl rfl rfl rfl ?_
        refine RL.no rfl rfl rfl rfl ?_
        refine RL.no rfl rfl rfl rfl ?_
        refine RL.no rfl rfl rfl rfl ?_
        refine RL.r (pickT rfl) rfl ?_
        refine RL.r (mvB rfl) rfl ?_
        refine RL.yes rfl rfl rfl ?_
        -- call stagecoach/stagecoachlaw12.fixed 
        refine RL.call (lFixed _) rfl rfl ?_
        rintro _ w10 ⟨rfl, hx⟩
        replace H := H.ext hx; replace hO := hO.ext hx; replace HT := HT.ext hx
        refine RL.r (pickT rfl) rfl ?_
        refine RL.r (asgB rfl) rfl ?_
        refine RL.nil ?_
        refine WP.ret ?_
        refine fin1_ret rfl ⟨rfl, H⟩
      · refine RL.yes rfl rfl rfl ?_
        refine RL.r (mvP rfl) rfl ?_
        refine RL.yes rfl rfl rfl ?_
        -- call (*stagecoach/offsets.Table).List (tmp 51)
        have hE : loadE M = 0 := Classical.byContradiction fun h => hg (hp1 h)
        obtain ⟨i, m, rfl, hT⟩ := hp0 hE
        refine RL.call (pList _ _ i m M (hT.ext HT) (by omega)) rfl rfl ?_
        rintro _ w11 ⟨⟨a5, c5, rfl, hL⟩, hx⟩
        replace H := H.ext hx; replace hO := hO.ext hx; replace HT := HT.ext hx
        refine RL.yes rfl rfl rfl ?_
        refine RL.r (mvL rfl) rfl ?_
        refine RL.yes rfl rfl rfl ?_
        -- call stagecoach/stagecoachref12.Same (tmp 52) (tmp 53)
        refine RL.call (rSame _ _ _ _ _ M M hL.sl hO.sl (by omega)) rfl rfl ?_
        rintro _ w12 ⟨rfl, hx⟩
        replace H := H.ext hx; replace hO := hO.ext hx; replace HT := HT.ext hx
        refine RL.r (pickF rfl) rfl ?_
        refine RL.part rfl rfl (fun hg => ?_) (fun hg => ?_)
        · refine RL.yes rfl rfl rfl ?_
          -- call stagecoach/stagecoachlaw12.fixed 
          refine RL.call (lFixed _) rfl rfl ?_
          rintro _ w13 ⟨rfl, hx⟩
          replace H := H.ext hx; replace hO := hO.ext hx; replace HT := HT.ext hx
          refine RL.r (pickT rfl) rfl ?_
          refine RL.r (asgB rfl) rfl ?_
          refine RL.nil ?_
          refine WP.ret ?_
          refine fin1_ret rfl ⟨rfl, H⟩
        · refine RL.no rfl rfl rfl rfl ?_
          refine RL.r (pickF rfl) rfl ?_
          refine RL.r (asgB rfl) rfl ?_
          refine RL.nil ?_
          refine WP.ret ?_
          refine fin1_ret rfl ⟨absurd rfl hg, H⟩
end Go.Proofs.Ytmjamhgihbapjaa
