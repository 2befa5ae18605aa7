/-
  The walks of what the tables' functions call: New, is, row, slices.Clone, slices.IndexFunc.
-/
import Derived.Test.YtbggmjnhfacjpaaDed0
set_option linter.unusedVariables false
namespace Go.Proofs.Ytbggmjnhfacjpaa
open Go Go.Eng Go.RowKit
theorem slE {a : Option Addr} {n n' c : Nat} (h : n = n') : Value.slice a n c = Value.slice a n' c := by rw [h]
theorem tg_new {B i m : Nat} {w : World} (hb : Box B w i 71 [.slice none 0 0, .map (some m)]) (hm : MpD B w m [] 0) : Tg B w i (terr i m none []) d0 :=
  ⟨m, none, 0, [], ⟨hb, Own.nil _ _ _, ⟨[], 0, hm, List.Perm.refl _⟩, OwnsD.nil _ _⟩, rfl, rfl⟩
theorem pNew (w0 : World) :
    Ct Try.prog 18 #[] w0 fun v w' => (∃ i m, v = .pointer (some ⟨i, 0, none⟩) ∧ Box w0.heap.size w' i 71 [.slice none 0 0, .map (some m)] ∧ MpD w0.heap.size w' m [] 0) ∧ Ext w0 w' := by
  refine Ct.intro1 Try.func18 Try.ntmps18 rfl rfl (by decide) rfl ?_
  have H : Ext w0 w0 := Ext.refl w0
  refine WP.regionS ?_
  refine RL.r (asgP rfl) rfl ?_
  refine RL.nil ?_
  refine WP.regionS ?_
  refine RL.makeM w0.heap.size H.size rfl 76 DKey ?_
  intro w1 i1 hi1 hx hm
  replace H := H.ext hx; clear hx
  refine RL.r (bld rfl rfl) rfl ?_
  refine RL.boxS w0.heap.size H.size rfl rfl ?_
  intro w2 i3 hi3 hx hb3
  replace H := H.ext hx; replace hm := hm.ext hx; clear hx
  refine RL.r (asgP rfl) rfl ?_
  refine RL.nil ?_
  refine WP.ret ?_
  refine fin1_ret rfl ⟨⟨_, _, rfl, by assumption, hm⟩, H⟩
theorem pIs (w0 : World) (B i : Nat) (a : Option Addr) (c m : Nat) (E : List Int) (hb : Box B w0 i 71 [.slice a E.length c, .map (some m)]) (id : Int) :
    Ct Try.prog 32 #[.pointer (some ⟨i, 0, none⟩), .int .i64 id] w0 fun v w' => v = .bool (decide (isD E id)) ∧ Ext w0 w' := by
  refine Ct.intro1 Try.func32 Try.ntmps32 rfl rfl (by decide) rfl ?_
  have H : Ext w0 w0 := Ext.refl w0
  have hbt := hb
  refine WP.regionS ?_
  refine RL.r (asgB rfl) rfl ?_
  refine RL.nil ?_
  refine WP.seq (WP.quiet ?_)
  refine QL.r (mvI rfl) rfl ?_
  refine QL.r (geq rfl rfl) rfl ?_
  refine QL.r (mvB rfl) rfl ?_
  refine QL.gg (gwT rfl rfl) (fun hg => (mvI rfl).does _) rfl ?_
  refine QL.gg (gwT rfl rfl) (fun hg => (mvP rfl).does _) rfl ?_
  refine QL.gg (gwT rfl rfl) (fun hg => (nilck (gs hg rfl)).does _) rfl ?_
  refine QL.gg (gwT rfl rfl) (fun hg => (fa_box (gs hg rfl)).does _) rfl ?_
  refine QL.gg (gwT rfl rfl) (fun hg => ld_box (gs hg rfl) hbt rfl) rfl ?_
  refine QL.gg (gwT rfl rfl) (fun hg => (len_sl (gs hg rfl)).does _) rfl ?_
  refine QL.gg (gwT rfl rfl) (fun hg => (leq (gs hg rfl) (gs hg rfl)).does _) rfl ?_
  refine QL.r (pickAnd rfl (fun hn => gs hn rfl)) rfl ?_
  refine QL.r (asgB rfl) rfl ?_
  refine QL.nil ?_; intro w1 hx; replace H := H.ext hx; replace hbt := hbt.ext hx
  refine WP.ret ?_
  refine fin1_ret rfl ⟨rfl, H⟩
set_option maxRecDepth 20000 in
theorem pRow (w0 : World) (a : Option Addr) (c : Nat) (l : List Did) (hl : Sl w0 a l) (hcap : l.length ≤ c) :
    Ct Try.prog 33 #[.slice a l.length c] w0 fun v w' => v = .bool (decide (rowB l)) ∧ Ext w0 w' := by
  refine Ct.intro1 Try.func33 Try.ntmps33 rfl rfl (by decide) rfl ?_
  have H : Ext w0 w0 := Ext.refl w0
  refine WP.regionS ?_
  refine RL.r (asgB rfl) rfl ?_
  refine RL.nil ?_
  refine WP.seq ?_
  refine WP.seq (WP.quiet ?_)
  refine QL.r (mvL rfl) rfl ?_
  refine QL.r (len_sl rfl) rfl ?_
  refine QL.r (eql rfl rfl) rfl ?_
  refine QL.r (mvB rfl) rfl ?_
  refine QL.gg (gwF rfl rfl) (fun hg => (mvL rfl).does _) rfl ?_
  refine QL.gg (gwF rfl rfl) (fun hg => (len_sl (gs hg rfl)).does _) rfl ?_
  refine QL.gg (gwF rfl rfl) (fun hg => (gtr (gs hg rfl) rfl).does _) rfl ?_
  refine QL.r (pickOr rfl (fun hn => gs hn rfl)) rfl ?_
  refine QL.nil ?_; intro w1 hx; replace H := H.ext hx
  refine WP.cond rfl (fun hc => ?_) (fun hc => ?_)
  · refine WP.regionS ?_
    refine RL.r (asgB rfl) rfl ?_
    refine RL.nil ?_
    refine WP.ret ?_
    refine fin1_ret rfl ⟨congrArg Value.bool (bF fun h => by have h1 := h.1; have h2 := h.2.1; omega), H⟩
  · refine WP.skip ?_
    refine WP.seq ?_
    refine WP.regionS ?_
    refine RL.r (mvL rfl) rfl ?_
    refine RL.r (len_sl rfl) rfl ?_
    refine RL.r (mvI rfl) rfl ?_
    refine RL.nil ?_
    refine WP.block ?_
    refine WP.loop (fun k e' w' => ∃ j : Nat,  j + k = l.length ∧ Head [2, 3, 4, 15, 16, 17, 18, 19, 20, 21, 22, 23, 24, 25, 26, 27, 28, 29, 30, 31, 32, 33, 34, 35, 36, 37, 38, 39, 40, 41, 42, 43, 44, 45, 46, 47, 48, 49, 50, 51, 52, 53, 54] _ [(15, .int .i64 (j : Int))] e' ∧ Ext w0 w' ∧ ∀ (i : Nat) (h : i < l.length), i < j → didAt l i h) (l.length)
      ⟨0, by omega, Head.intro (AgreeOff.refl _ _) ⟨rfl, trivial⟩, H, fun i h hi => by omega⟩ ?_
    clear H
    rintro k e w2 ⟨j, hjk, ⟨jk, rfl⟩, H, hok⟩
    refine WP.regionS ?_
    refine RL.r (lss rfl rfl) rfl ?_
    refine RL.nil ?_
    refine WP.seq ?_
    refine WP.cond rfl (fun hc => ?_) (fun hc => ?_)
    · refine WP.skip ?_
      refine WP.seq ?_
      refine WP.block ?_
      refine WP.regionS ?_
      refine RL.r (mvI rfl) rfl ?_
      have hj : j < l.length := by omega
      obtain ⟨p, rfl⟩ := hl.isAddr (by decide) hj
      have hdb : -9223372036854775808 ≤ dueL (l.take j) ∧ dueL (l.take j) ≤ 9223372036854775807 := by
        rcases Nat.eq_zero_or_pos j with h0 | h0
        · subst h0; rw [List.take_zero, dueL_nil]; omega
        · rw [dueL_take hj h0]
          obtain ⟨⟨q1, q2⟩, _, ⟨q3, q4⟩, _⟩ := hok (j - 1) (by omega) (by omega)
          omega
      have hDue : ∀ w', Ext w0 w' → Ct Try.prog 42 #[.slice (some p) j c] w' fun v w'' => v = .int .i64 (dueL (l.take j)) ∧ Ext w' w'' := by
        intro w' hw'
        have h := pDue w' (some p) c (l.take j) ((hl.pre j).ext hw') (by rw [List.length_take]; omega) hdb
        rw [List.length_take, Nat.min_eq_left (by omega)] at h
        exact h
      refine RL.r (ix rfl rfl rfl hj) rfl ?_
      refine RL.m (ldS_el rfl hl H rfl rfl hj) rfl ?_
      refine RL.alloc w0.heap.size H.size rfl rfl ?_
      intro w3 i4 hi4 hx hb4
      refine RL.r (asgI rfl) rfl ?_
      refine RL.storeS rfl hb4 rfl rfl rfl rfl ?_
      intro w4 hu hb4
      replace hx := hx.box hu (Nat.le_of_eq hi4.symm)
      replace H := H.ext hx; clear hx hu
      refine RL.nil ?_
      refine WP.seq ?_
      refine WP.draw (by kernel_rfl) ?_
      refine QL.r (fa_box rfl) rfl ?_
      refine QL.m (ld_box rfl hb4 rfl) rfl ?_
      -- call stagecoach/dedup.number (tmp 21)
      refine QL.call (fun w' hw' => pNum w' _) rfl rfl ?_
      first | refine QL.r (notD rfl) rfl ?_ | refine QL.r (not_ rfl) rfl ?_
      refine QL.r (mvB rfl) rfl ?_
      refine QL.gg (gwF rfl rfl) (fun hg => (fa_box rfl).does _) rfl ?_
      refine QL.gg (gwF rfl rfl) (fun hg => ld_box (gs hg rfl) hb4 rfl) rfl ?_
      refine QL.gg (gwF rfl rfl) (fun hg => (lss (gs hg rfl) rfl).does _) rfl ?_
      refine QL.r (pickOr rfl (fun hn => gs hn rfl)) rfl ?_
      refine QL.r (mvB rfl) rfl ?_
      refine QL.gg (gwF rfl rfl) (fun hg => (fa_box rfl).does _) rfl ?_
      refine QL.gg (gwF rfl rfl) (fun hg => ld_box (gs hg rfl) hb4 rfl) rfl ?_
      -- call stagecoach/dedup.number (tmp 31)
      refine QL.gcall (gwF rfl rfl) (fun hg w' hw' => pNum w' _) (fun hg => EvL.cons (gs hg rfl) (EvL.nil)) rfl ?_
      first | refine QL.gg (gwF rfl rfl) (fun hg => (notD (gs hg rfl)).does _) rfl ?_ | refine QL.gg (gwF rfl rfl) (fun hg => (not_ (gs hg rfl)).does _) rfl ?_
      refine QL.r (pickOr rfl (fun hn => gs hn rfl)) rfl ?_
      refine QL.r (mvB rfl) rfl ?_
      refine QL.gg (gwF rfl rfl) (fun hg => (fa_box rfl).does _) rfl ?_
      refine QL.gg (gwF rfl rfl) (fun hg => ld_box (gs hg rfl) hb4 rfl) rfl ?_
      -- call stagecoach/dedup.number (tmp 37)
      refine QL.gcall (gwF rfl rfl) (fun hg w' hw' => pNum w' _) (fun hg => EvL.cons (gs hg rfl) (EvL.nil)) rfl ?_
      first | refine QL.gg (gwF rfl rfl) (fun hg => (notD (gs hg rfl)).does _) rfl ?_ | refine QL.gg (gwF rfl rfl) (fun hg => (not_ (gs hg rfl)).does _) rfl ?_
      refine QL.r (pickOr rfl (fun hn => gs hn rfl)) rfl ?_
      refine QL.r (mvB rfl) rfl ?_
      refine QL.gg (gwF rfl rfl) (fun hg => (mvI rfl).does _) rfl ?_
      refine QL.gg (gwF rfl rfl) (fun hg => (gtr (gs hg rfl) rfl).does _) rfl ?_
      refine QL.gg (gwF rfl rfl) (fun hg => (mvv (gs hg rfl)).does _) rfl ?_
      refine QL.gg (gwTT rfl rfl) (fun hg => (fa_box rfl).does _) rfl ?_
      refine QL.gg (gwTT rfl rfl) (fun hg => ld_box (gs hg rfl) hb4 rfl) rfl ?_
      refine QL.gg (gwTT rfl rfl) (fun hg => (mvL rfl).does _) rfl ?_
      refine QL.gg (gwTT rfl rfl) (fun hg => (mvI rfl).does _) rfl ?_
      refine QL.gg (gwTT rfl rfl) (fun hg => (slcT (gs hg rfl) (gs hg rfl) rfl (by omega)).does _) rfl ?_
      -- call stagecoach/dedup.due (tmp 49)
      refine QL.gcall (gwTT rfl rfl) (fun hg w' hw' => hDue w' (H.ext hw')) (fun hg => EvL.cons (gs hg rfl) (EvL.nil)) rfl ?_
      refine QL.gg (gwTT rfl rfl) (fun hg => (neq (gs hg rfl) (gs hg rfl)).does _) rfl ?_
      refine QL.gg (gwF rfl rfl) (fun hg => (pickAnd (gs hg rfl) (fun hn => gs ⟨hg, hn⟩ rfl)).does _) rfl ?_
      refine QL.r (pickOr rfl (fun hn => gs hn rfl)) rfl ?_
      refine QL.nil ?_; intro w9 hx; replace H := H.ext hx; replace hb4 := hb4.ext hx
      refine WP.cond rfl (fun hc => ?_) (fun hc => ?_)
      · refine WP.regionS ?_
        refine RL.r (asgB rfl) rfl ?_
        refine RL.nil ?_
        refine WP.ret ?_
        refine fin1_ret rfl ⟨congrArg Value.bool (bF fun h => ?_), H⟩
        have h1 := h.2.2 j hj
        obtain ⟨q1, q2, q3, q4, q5⟩ := h1
        rcases hc with (((hc | hc) | hc) | hc) | ⟨hc, hc2⟩
        · exact hc q1
        · omega
        · exact hc q3
        · exact hc q4
        · have h0 : 0 < j := by omega
          rw [dueL_take hj h0] at hc2
          exact hc2 (q5 h0)
      · refine WP.skip ?_
        refine WP.region ?_
        refine RL.r (add rfl rfl (by omega)) rfl ?_
        refine RL.r (mvI rfl) rfl ?_
        refine RL.nil ?_
        have hgood : didAt l j hj := by
          refine ⟨Classical.byContradiction fun h => hc (.inl (.inl (.inl (.inl h)))), Classical.byContradiction fun h => hc (.inl (.inl (.inl (.inr (by omega))))), Classical.byContradiction fun h => hc (.inl (.inl (.inr h))), Classical.byContradiction fun h => hc (.inl (.inr h)), fun h0 => ?_⟩
          rw [← dueL_take hj h0]
          exact Classical.byContradiction fun h => hc (.inr ⟨by omega, h⟩)
        refine ⟨k - 1, by omega, j + 1, by omega, Head.intro (by repeat (first | with_reducible exact AgreeOff.mix _ _ _ | refine AgreeOff.look rfl ?_ | refine AgreeOff.mixs rfl ?_)) ⟨rfl, trivial⟩, H, fun i h hi => ?_⟩
        by_cases hij : i < j
        · exact hok i h hij
        · obtain rfl : i = j := by omega
          exact hgood
    · refine WP.exit ?_
      refine WP.regionS ?_
      refine RL.r (asgB rfl) rfl ?_
      refine RL.nil ?_
      refine WP.ret ?_
      refine fin1_ret rfl ⟨congrArg Value.bool (bT ⟨by omega, by omega, fun i h => hok i h (by omega)⟩), H⟩
theorem pCloneI (w0 : World) (a : Option Addr) (c : Nat) (l : List Int) (hl : Sl w0 a l) (hlen : l.length ≤ 1000000) :
    Ct Try.prog 30 #[.slice a l.length c] w0 fun v w' => (∃ a' c', v = .slice a' l.length c' ∧ Own w0.heap.size w' 3 a' c' l) ∧ Ext w0 w' := by
  refine Ct.intro1 Try.func30 Try.ntmps30 rfl rfl (by decide) rfl ?_
  have H : Ext w0 w0 := Ext.refl w0
  refine WP.regionS ?_
  refine RL.r (asgL rfl) rfl ?_
  refine RL.nil ?_
  refine WP.seq ?_
  refine WP.regionS ?_
  refine RL.r (mvL rfl) rfl ?_
  refine RL.r (sleqn rfl rfl) rfl ?_
  refine RL.nil ?_
  refine WP.cond rfl (fun hc => ?_) (fun hc => ?_)
  · refine WP.regionS ?_
    refine RL.r (asgL rfl) rfl ?_
    refine RL.nil ?_
    refine WP.ret ?_
    subst hc
    obtain rfl := sl_none hl (by decide)
    refine fin1_ret rfl ⟨⟨none, 0, rfl, Own.nil _ _ _⟩, H⟩
  · refine WP.skip ?_
    refine WP.regionS ?_
    refine RL.build0 (α := Int) w0.heap.size H.size rfl ?_
    intro w1 i5 hi5 hx hb5
    replace H := H.ext hx; clear hx
    refine RL.r (mvL rfl) rfl ?_
    refine RL.appendS rfl hb5 H.size rfl (hl.ext H) rfl rfl (by decide) rfl cell1 (by simp only [List.length_nil]; omega) (by simp only [List.length_nil, maxLen]; omega) rfl ?_
    intro w2 a7 c7 hu hb7 hfr7
    replace H := Ext.own H hb5 hu; clear hu
    refine RL.r (asgL rfl) rfl ?_
    refine RL.nil ?_
    refine WP.ret ?_
    refine fin1_ret rfl ⟨⟨_, _, rfl, hb7⟩, H⟩
theorem pCloneD (w0 : World) (a : Option Addr) (c : Nat) (l : List Did) (hl : Sl w0 a l) (hlen : l.length ≤ 1000000) :
    Ct Try.prog 34 #[.slice a l.length c] w0 fun v w' => (∃ a' c', v = .slice a' l.length c' ∧ Own w0.heap.size w' 53 a' c' l) ∧ Ext w0 w' := by
  refine Ct.intro1 Try.func34 Try.ntmps34 rfl rfl (by decide) rfl ?_
  have H : Ext w0 w0 := Ext.refl w0
  refine WP.regionS ?_
  refine RL.r (asgL rfl) rfl ?_
  refine RL.nil ?_
  refine WP.seq ?_
  refine WP.regionS ?_
  refine RL.r (mvL rfl) rfl ?_
  refine RL.r (sleqn rfl rfl) rfl ?_
  refine RL.nil ?_
  refine WP.cond rfl (fun hc => ?_) (fun hc => ?_)
  · refine WP.regionS ?_
    refine RL.r (asgL rfl) rfl ?_
    refine RL.nil ?_
    refine WP.ret ?_
    subst hc
    obtain rfl := sl_none hl (by decide)
    refine fin1_ret rfl ⟨⟨none, 0, rfl, Own.nil _ _ _⟩, H⟩
  · refine WP.skip ?_
    refine WP.regionS ?_
    refine RL.build0 (α := Did) w0.heap.size H.size rfl ?_
    intro w1 i5 hi5 hx hb5
    replace H := H.ext hx; clear hx
    refine RL.r (mvL rfl) rfl ?_
    refine RL.appendS rfl hb5 H.size rfl (hl.ext H) rfl rfl (by decide) rfl cell1 (by simp only [List.length_nil]; omega) (by simp only [List.length_nil, maxLen]; omega) rfl ?_
    intro w2 a7 c7 hu hb7 hfr7
    replace H := Ext.own H hb5 hu; clear hu
    refine RL.r (asgL rfl) rfl ?_
    refine RL.nil ?_
    refine WP.ret ?_
    refine fin1_ret rfl ⟨⟨_, _, rfl, hb7⟩, H⟩
theorem pLoad1 (w0 : World) (n : Int) :
    Ct Try.prog 28 #[.int .i64 n] w0 fun v w' => v = .bool (decide (¬ numB n)) ∧ Ext w0 w' := by
  refine Ct.intro1 Try.func28 Try.ntmps28 rfl rfl (by decide) rfl ?_
  have H : Ext w0 w0 := Ext.refl w0
  refine WP.regionS ?_
  refine RL.r (asgB rfl) rfl ?_
  refine RL.nil ?_
  refine WP.regionS ?_
  refine RL.r (mvI rfl) rfl ?_
  -- call stagecoach/dedup.number (tmp 3)
  refine RL.call (pNum _ n) rfl rfl ?_
  rintro _ w1 ⟨rfl, hx⟩
  replace H := H.ext hx
  first | refine RL.r (notD rfl) rfl ?_ | refine RL.r (not_ rfl) rfl ?_
  refine RL.r (asgB rfl) rfl ?_
  refine RL.nil ?_
  refine WP.ret ?_
  refine fin1_ret rfl ⟨rfl, H⟩
theorem pIdxI (w0 : World) (a : Option Addr) (c : Nat) (l : List Int) (hl : Sl w0 a l) (hlen : l.length ≤ 1000000) :
    Ct Try.prog 47 #[.slice a l.length c, .func (.func 28) #[] #[]] w0 fun v w' => (∃ r : Int, v = .int .i64 r ∧ (0 ≤ r ↔ ¬ ∀ e ∈ l, numB e)) ∧ Ext w0 w' := by
  refine Ct.intro1 Try.func47 Try.ntmps47 rfl rfl (by decide) rfl ?_
  have H : Ext w0 w0 := Ext.refl w0
  refine WP.regionS ?_
  refine RL.r (asgI rfl) rfl ?_
  refine RL.nil ?_
  refine WP.seq ?_
  refine WP.regionS ?_
  refine RL.r (mvL rfl) rfl ?_
  refine RL.r (len_sl rfl) rfl ?_
  refine RL.r (mvI rfl) rfl ?_
  refine RL.nil ?_
  refine WP.block ?_
  refine WP.loop (fun k e' w' => ∃ j : Nat,  j + k = l.length ∧ Head [4, 5, 8, 9, 10, 11, 12, 13, 14, 15, 16, 17, 18] _ [(8, .int .i64 (j : Int))] e' ∧ Ext w0 w' ∧ ∀ (i : Nat) (h : i < l.length), i < j → numB l[i]) (l.length)
    ⟨0, by omega, Head.intro (AgreeOff.refl _ _) ⟨rfl, trivial⟩, H, fun i h hi => by omega⟩ ?_
  clear H
  rintro k e w1 ⟨j, hjk, ⟨jk, rfl⟩, H, hok⟩
  refine WP.regionS ?_
  refine RL.r (lss rfl rfl) rfl ?_
  refine RL.nil ?_
  refine WP.seq ?_
  refine WP.cond rfl (fun hc => ?_) (fun hc => ?_)
  · refine WP.skip ?_
    refine WP.seq ?_
    refine WP.block ?_
    refine WP.regionS ?_
    refine RL.r (mvI rfl) rfl ?_
    refine RL.r (asgI rfl) rfl ?_
    refine RL.nil ?_
    refine WP.regionS ?_
    refine RL.r (mvF rfl) rfl ?_
    refine RL.r (mvL rfl) rfl ?_
    refine RL.r (mvI rfl) rfl ?_
    have hj : j < l.length := by omega
    obtain ⟨p, rfl⟩ := hl.isAddr (by decide) hj
    refine RL.r (ix rfl rfl rfl hj) rfl ?_
    refine RL.m (ld_e0 rfl hl H rfl hj rfl) rfl ?_
    -- call VALUE (tmp 11) (tmp 15)
    refine RL.callv0 rfl (pLoad1 _ l[j]) rfl rfl ?_
    rintro _ w2 ⟨rfl, hx⟩
    replace H := H.ext hx
    refine RL.nil ?_
    refine WP.cond rfl (fun hc => ?_) (fun hc => ?_)
    · refine WP.regionS ?_
      refine RL.r (mvI rfl) rfl ?_
      refine RL.r (asgI rfl) rfl ?_
      refine RL.nil ?_
      refine WP.ret ?_
      refine fin1_ret rfl ⟨⟨_, rfl, ⟨fun _ h => hc (h _ (List.getElem_mem hj)), fun _ => by omega⟩⟩, H⟩
    · refine WP.skip ?_
      refine WP.region ?_
      refine RL.r (add rfl rfl (by omega)) rfl ?_
      refine RL.r (mvI rfl) rfl ?_
      refine RL.nil ?_
      refine ⟨k - 1, by omega, j + 1, by omega, Head.intro (by repeat (first | with_reducible exact AgreeOff.mix _ _ _ | refine AgreeOff.look rfl ?_ | refine AgreeOff.mixs rfl ?_)) ⟨rfl, trivial⟩, H, fun i h hi => ?_⟩
      by_cases hij : i < j
      · exact hok i h hij
      · obtain rfl : i = j := by omega
        exact Classical.not_not.1 hc
  · refine WP.exit ?_
    refine WP.regionS ?_
    refine RL.r (asgI rfl) rfl ?_
    refine RL.nil ?_
    refine WP.ret ?_
    refine fin1_ret rfl ⟨⟨_, rfl, ⟨fun h => by omega, fun h => absurd (fun e he => ?_) h⟩⟩, H⟩
    obtain ⟨i, hi, rfl⟩ := List.getElem_of_mem he
    exact hok i hi (by omega)
theorem pContI (w0 : World) (a : Option Addr) (c : Nat) (l : List Int) (hl : Sl w0 a l) (hlen : l.length ≤ 1000000) :
    Ct Try.prog 27 #[.slice a l.length c, .func (.func 28) #[] #[]] w0 fun v w' => v = .bool (decide (¬ ∀ e ∈ l, numB e)) ∧ Ext w0 w' := by
  refine Ct.intro1 Try.func27 Try.ntmps27 rfl rfl (by decide) rfl ?_
  have H : Ext w0 w0 := Ext.refl w0
  refine WP.regionS ?_
  refine RL.r (asgB rfl) rfl ?_
  refine RL.nil ?_
  refine WP.regionS ?_
  refine RL.r (mvL rfl) rfl ?_
  refine RL.r (mvF rfl) rfl ?_
  -- call slices.IndexFunc[[]int,int] (tmp 5) (tmp 6)
  refine RL.call (pIdxI _ a c l hl hlen) rfl rfl ?_
  rintro v w1 ⟨⟨r, rfl, hr⟩, hx⟩
  replace H := H.ext hx
  refine RL.r (geq rfl rfl) rfl ?_
  refine RL.r (asgB rfl) rfl ?_
  refine RL.nil ?_
  refine WP.ret ?_
  refine fin1_ret rfl ⟨congrArg Value.bool (bD hr), H⟩
/-- is this the batch? -/
def isB (b : Bat) (d : Did) : Prop := d.seq = b.seq ∧ d.n = (b.recs.length : Int)
instance (b : Bat) (d : Did) : Decidable (isB b d) := inferInstanceAs (Decidable (_ ∧ _))
def idxB (l : List Did) (b : Bat) : Option Nat := l.findIdx? fun d => decide (isB b d)
def idxV : Option Nat → Int
  | none => -1
  | some i => (i : Int)
theorem pAsk1 (w0 : World) (B ib : Nat) (b : Bat) (hb : Box B w0 ib 28 (Lies.enc b)) (d : Did) :
    Ct Try.prog 44 #[.agg (Lies.enc d).toArray, .pointer (some ⟨ib, 0, none⟩)] w0 fun v w' => v = .bool (decide (isB b d)) ∧ Ext w0 w' := by
  refine Ct.intro1 Try.func44 Try.ntmps44 rfl rfl (by decide) rfl ?_
  have H : Ext w0 w0 := Ext.refl w0
  have hbb := hb
  refine WP.regionS ?_
  refine RL.boxS w0.heap.size H.size rfl rfl ?_
  intro w1 i2 hi2 hx hb2
  have neb_2 := hbb.ne hi2
  replace H := H.ext hx; replace hbb := hbb.ext hx; clear hx
  refine RL.r (asgB rfl) rfl ?_
  refine RL.nil ?_
  refine WP.seq (WP.quiet ?_)
  refine QL.r (fa_box rfl) rfl ?_
  refine QL.m (ld_box rfl hb2 rfl) rfl ?_
  refine QL.r (fa_box rfl) rfl ?_
  refine QL.m (ld_box rfl hbb rfl) rfl ?_
  refine QL.r (eql rfl rfl) rfl ?_
  refine QL.r (mvB rfl) rfl ?_
  refine QL.gg (gwT rfl rfl) (fun hg => (fa_box rfl).does _) rfl ?_
  refine QL.gg (gwT rfl rfl) (fun hg => ld_box (gs hg rfl) hb2 rfl) rfl ?_
  refine QL.gg (gwT rfl rfl) (fun hg => (fa_box rfl).does _) rfl ?_
  refine QL.gg (gwT rfl rfl) (fun hg => ld_box (gs hg rfl) hbb rfl) rfl ?_
  refine QL.gg (gwT rfl rfl) (fun hg => (len_sl (gs hg rfl)).does _) rfl ?_
  refine QL.gg (gwT rfl rfl) (fun hg => (eql (gs hg rfl) (gs hg rfl)).does _) rfl ?_
  refine QL.r (pickAnd rfl (fun hn => gs hn rfl)) rfl ?_
  refine QL.r (asgB rfl) rfl ?_
  refine QL.nil ?_; intro w2 hx; replace H := H.ext hx; replace hbb := hbb.ext hx; replace hb2 := hb2.ext hx
  refine WP.ret ?_
  refine fin1_ret rfl ⟨rfl, H⟩
theorem pIdxD (w0 : World) (B ib : Nat) (b : Bat) (hb : Box B w0 ib 28 (Lies.enc b)) (a : Option Addr) (c : Nat) (l : List Did) (hl : Sl w0 a l) (hlen : l.length ≤ 1000000) :
    Ct Try.prog 43 #[.slice a l.length c, .func (.func 44) #[] #[.pointer (some ⟨ib, 0, none⟩)]] w0 fun v w' => v = .int .i64 (idxV (idxB l b)) ∧ Ext w0 w' := by
  refine Ct.intro1 Try.func43 Try.ntmps43 rfl rfl (by decide) rfl ?_
  have H : Ext w0 w0 := Ext.refl w0
  refine WP.regionS ?_
  refine RL.r (asgI rfl) rfl ?_
  refine RL.nil ?_
  refine WP.seq ?_
  refine WP.regionS ?_
  refine RL.r (mvL rfl) rfl ?_
  refine RL.r (len_sl rfl) rfl ?_
  refine RL.r (mvI rfl) rfl ?_
  refine RL.nil ?_
  refine WP.block ?_
  refine WP.loop (fun k e' w' => ∃ j : Nat,  j + k = l.length ∧ Head [4, 5, 8, 9, 10, 11, 12, 13, 14, 15, 16, 17, 18] _ [(8, .int .i64 (j : Int))] e' ∧ Ext w0 w' ∧ ∀ (i : Nat) (h : i < l.length), i < j → ¬ isB b l[i]) (l.length)
    ⟨0, by omega, Head.intro (AgreeOff.refl _ _) ⟨rfl, trivial⟩, H, fun i h hi => by omega⟩ ?_
  clear H
  rintro k e w1 ⟨j, hjk, ⟨jk, rfl⟩, H, hok⟩
  refine WP.regionS ?_
  refine RL.r (lss rfl rfl) rfl ?_
  refine RL.nil ?_
  refine WP.seq ?_
  refine WP.cond rfl (fun hc => ?_) (fun hc => ?_)
  · refine WP.skip ?_
    refine WP.seq ?_
    refine WP.block ?_
    refine WP.regionS ?_
    refine RL.r (mvI rfl) rfl ?_
    refine RL.r (asgI rfl) rfl ?_
    refine RL.nil ?_
    refine WP.regionS ?_
    refine RL.r (mvF rfl) rfl ?_
    refine RL.r (mvL rfl) rfl ?_
    refine RL.r (mvI rfl) rfl ?_
    have hj : j < l.length := by omega
    obtain ⟨p, rfl⟩ := hl.isAddr (by decide) hj
    refine RL.r (ix rfl rfl rfl hj) rfl ?_
    refine RL.m (ldS_el rfl hl H rfl rfl hj) rfl ?_
    -- call VALUE (tmp 11) (tmp 15)
    refine RL.callv (f := 44) (vs := [.agg (Lies.enc l[j]).toArray]) (cap := [.pointer (some ⟨ib, 0, none⟩)]) rfl (pAsk1 _ B ib b (hb.ext H) l[j]) rfl rfl ?_
    rintro _ w2 ⟨rfl, hx⟩
    replace H := H.ext hx
    refine RL.nil ?_
    refine WP.cond rfl (fun hc => ?_) (fun hc => ?_)
    · refine WP.regionS ?_
      refine RL.r (mvI rfl) rfl ?_
      refine RL.r (asgI rfl) rfl ?_
      refine RL.nil ?_
      refine WP.ret ?_
      have hix : idxB l b = some j := by
        unfold idxB
        rw [List.findIdx?_eq_some_iff_getElem]
        exact ⟨hj, by simpa using hc, fun i hi => by simpa using hok i (by omega) hi⟩
      refine fin1_ret rfl ⟨intE (by rw [hix]; rfl), H⟩
    · refine WP.skip ?_
      refine WP.region ?_
      refine RL.r (add rfl rfl (by omega)) rfl ?_
      refine RL.r (mvI rfl) rfl ?_
      refine RL.nil ?_
      refine ⟨k - 1, by omega, j + 1, by omega, Head.intro (by repeat (first | with_reducible exact AgreeOff.mix _ _ _ | refine AgreeOff.look rfl ?_ | refine AgreeOff.mixs rfl ?_)) ⟨rfl, trivial⟩, H, fun i h hi => ?_⟩
      by_cases hij : i < j
      · exact hok i h hij
      · obtain rfl : i = j := by omega
        exact hc
  · refine WP.exit ?_
    refine WP.regionS ?_
    refine RL.r (asgI rfl) rfl ?_
    refine RL.nil ?_
    refine WP.ret ?_
    have hix : idxB l b = none := by
      unfold idxB
      rw [List.findIdx?_eq_none_iff]
      intro d hd
      obtain ⟨i, hi, rfl⟩ := List.getElem_of_mem hd
      simpa using hok i hi (by omega)
    refine fin1_ret rfl ⟨intE (by rw [hix]; rfl), H⟩
end Go.Proofs.Ytbggmjnhfacjpaa
