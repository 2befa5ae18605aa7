/-
  Reads: slices.Contains at texts, two rows of partitions, two rows of topics.
-/
import Derived.Test.YtdcckaamepilcaaList09
set_option linter.unusedVariables false
namespace Go.Proofs.Ytdcckaamepilcaa
open Go Go.Eng Go.RowKit
noncomputable instance (t : ByteArray) (l : List ByteArray) : Decidable (t ∈ l) := Classical.propDecidable _
instance eqs27 : EqS Try.prog 48 Part := eqs_pair (s0 := Part.topic) (n0 := Part.n) Try.underlying48 (by kernel_rfl) (by kernel_rfl) Try.underlying9 Try.underlying3 rfl rfl (by decide) (by decide) (fun x => rfl) (fun x y h1 h2 => by cases x; cases y; simp_all)
instance eqsT : EqS Try.prog 25 Topic := eqs_pair (s0 := Topic.name) (n0 := Topic.n) Try.underlying25 (by kernel_rfl) (by kernel_rfl) Try.underlying9 Try.underlying3 rfl rfl (by decide) (by decide) (fun x => rfl) (fun x y h1 h2 => by cases x; cases y; simp_all)
theorem nomem {α : Type} {l : List α} {t : α} (h : ∀ (i : Nat) (hi : i < l.length), ¬ l[i] = t) : ¬ t ∈ l := by
  intro hm
  obtain ⟨i, hi, e⟩ := List.getElem_of_mem hm
  exact h i hi e
theorem inmem {α : Type} {l : List α} {t : α} {i : Nat} (hi : i < l.length) (h : l[i] = t) : t ∈ l := h ▸ List.getElem_mem hi
def strip (t : ByteArray) (a n : Nat) : List Part := (List.range' a n).map fun (x : Nat) => (⟨t, (x : Int)⟩ : Part)
theorem strip_zero (t : ByteArray) (a : Nat) : strip t a 0 = [] := rfl
theorem strip_succ (t : ByteArray) (a n : Nat) : strip t a (n + 1) = strip t a n ++ [⟨t, ((a + n : Nat) : Int)⟩] := by
  simp [strip, List.range'_1_concat]
theorem strip_length (t : ByteArray) (a n : Nat) : (strip t a n).length = n := by simp [strip]
/-- l, and behind it the first n of a stretch -/
theorem pIndexS (w0 : World) (a : Option Addr) (c : Nat) (l : List ByteArray) (t : ByteArray) (hl : Sl w0 a l) (hlen : l.length ≤ 1000) :
    Ct Try.prog 46 #[.slice a l.length c, .string t] w0 fun v w' => (∃ r : Int, v = .int .i64 r ∧ (0 ≤ r ↔ t ∈ l)) ∧ Ext w0 w' := by
  refine Ct.intro1 Try.func46 Try.ntmps46 rfl rfl (by decide) rfl ?_
  have H : Ext w0 w0 := Ext.refl w0
  refine WP.regionS ?_
  refine RL.r (asgI rfl) rfl ?_
  refine RL.nil ?_
  refine WP.seq ?_
  refine WP.regionS ?_
  refine RL.r (mvL rfl) rfl ?_
  refine RL.r (len_sl rfl) rfl ?_
  refine RL.r (mvI rfl) rfl ?_
  refine RL.nil ?_
  refine WP.block ?_
  refine WP.loop (fun k e' w' => ∃ j : Nat,  j + k = l.length ∧ Head [4, 5, 8, 9, 10, 11, 12, 13, 14, 15, 16, 17, 18] _ [(8, .int .i64 (j : Int))] e' ∧ Ext w0 w' ∧ ∀ (i : Nat) (h : i < l.length), i < j → ¬ l[i] = t) (l.length)
    ⟨0, by omega, Head.intro (AgreeOff.refl _ _) ⟨rfl, trivial⟩, H, fun i h hi => by omega⟩ ?_
  clear H
  rintro k e w1 ⟨j, hjk, ⟨jk, rfl⟩, H, hok⟩
  refine WP.regionS ?_
  refine RL.r (lss rfl rfl) rfl ?_
  refine RL.nil ?_
  refine WP.seq ?_
  refine WP.cond rfl (fun hc => ?_) (fun hc => ?_)
  · refine WP.skip ?_
    refine WP.seq ?_
    refine WP.block ?_
    refine WP.regionS ?_
    refine RL.r (mvI rfl) rfl ?_
    refine RL.r (asgI rfl) rfl ?_
    refine RL.nil ?_
    refine WP.regionS ?_
    refine RL.r (mvS rfl) rfl ?_
    refine RL.r (mvL rfl) rfl ?_
    refine RL.r (mvI rfl) rfl ?_
    have hj : j < l.length := by omega
    obtain ⟨p, rfl⟩ := hl.isAddr (by decide) hj
    refine RL.r (ix rfl rfl rfl (by omega)) rfl ?_
    refine RL.m (ld_e0 rfl hl H rfl (by omega) rfl) rfl ?_
    refine RL.r (seql rfl rfl) rfl ?_
    refine RL.nil ?_
    refine WP.cond rfl (fun hc => ?_) (fun hc => ?_)
    · refine WP.regionS ?_
      refine RL.r (mvI rfl) rfl ?_
      refine RL.r (asgI rfl) rfl ?_
      refine RL.nil ?_
      refine WP.ret ?_
      refine fin1_ret rfl ⟨⟨_, rfl, ⟨fun _ => inmem hj hc.symm, fun _ => by omega⟩⟩, H⟩
    · refine WP.skip ?_
      refine WP.region ?_
      refine RL.r (add rfl rfl (by omega)) rfl ?_
      refine RL.r (mvI rfl) rfl ?_
      refine RL.nil ?_
      refine ⟨k - 1, by omega, j + 1, by omega, Head.intro (by repeat (first | with_reducible exact AgreeOff.mix _ _ _ | refine AgreeOff.look rfl ?_ | refine AgreeOff.mixs rfl ?_)) ⟨rfl, trivial⟩, H, fun i h hi => ?_⟩
      by_cases hij : i < j
      · exact hok i h hij
      · obtain rfl : i = j := by omega
        exact fun e => hc e.symm
  · refine WP.exit ?_
    refine WP.regionS ?_
    refine RL.r (asgI rfl) rfl ?_
    refine RL.nil ?_
    refine WP.ret ?_
    refine fin1_ret rfl ⟨⟨_, rfl, ⟨fun h => by omega, fun h => absurd h (nomem fun i h => hok i h (by omega))⟩⟩, H⟩
theorem pContainsS (w0 : World) (a : Option Addr) (c : Nat) (l : List ByteArray) (t : ByteArray) (hl : Sl w0 a l) (hlen : l.length ≤ 1000) :
    Ct Try.prog 36 #[.slice a l.length c, .string t] w0 fun v w' => v = .bool (decide (t ∈ l)) ∧ Ext w0 w' := by
  refine Ct.intro1 Try.func36 Try.ntmps36 rfl rfl (by decide) rfl ?_
  have H : Ext w0 w0 := Ext.refl w0
  refine WP.regionS ?_
  refine RL.r (asgB rfl) rfl ?_
  refine RL.nil ?_
  refine WP.regionS ?_
  refine RL.r (mvL rfl) rfl ?_
  refine RL.r (mvS rfl) rfl ?_
  -- call slices.Index[[]string,string] (tmp 5) (tmp 6)
  refine RL.call (pIndexS _ _ _ _ _ hl hlen) rfl rfl ?_
  rintro v w1 ⟨⟨r, rfl, hr⟩, hx⟩
  replace H := H.ext hx
  refine RL.r (geq rfl rfl) rfl ?_
  refine RL.r (asgB rfl) rfl ?_
  refine RL.nil ?_
  refine WP.ret ?_
  refine fin1_ret rfl ⟨congrArg Value.bool (bD hr), H⟩
theorem rParts (w0 : World) (a b : Option Addr) (c d : Nat) (x y : List Part) (hx0 : Sl w0 a x) (hy0 : Sl w0 b y) (hlen : x.length ≤ 100000) :
    Ct Try.prog 28 #[.slice a x.length c, .slice b y.length d] w0 fun v w' => v = .bool (decide (x = y)) ∧ Ext w0 w' := by
  refine Ct.intro1 Try.func28 Try.ntmps28 rfl rfl (by decide) rfl ?_
  have H : Ext w0 w0 := Ext.refl w0
  refine WP.regionS ?_
  refine RL.r (asgB rfl) rfl ?_
  refine RL.nil ?_
  refine WP.seq ?_
  refine WP.regionS ?_
  refine RL.r (mvL rfl) rfl ?_
  refine RL.r (len_sl rfl) rfl ?_
  refine RL.r (mvL rfl) rfl ?_
  refine RL.r (len_sl rfl) rfl ?_
  refine RL.r (neq rfl rfl) rfl ?_
  refine RL.nil ?_
  refine WP.cond rfl (fun hc => ?_) (fun hc => ?_)
  · refine WP.regionS ?_
    refine RL.r (asgB rfl) rfl ?_
    refine RL.nil ?_
    refine WP.ret ?_
    refine fin1_ret rfl ⟨congrArg Value.bool (bF (fun h => hc (by rw [h]))), H⟩
  · refine WP.skip ?_
    refine WP.seq ?_
    refine WP.regionS ?_
    refine RL.r (asgI rfl) rfl ?_
    refine RL.nil ?_
    refine WP.block ?_
    refine WP.loop (fun k e' w' => ∃ j : Nat,  j + k = x.length ∧ Head [4, 5, 11, 12, 13, 14, 15, 16, 17, 18, 19, 20, 21, 22, 23, 24, 25] _ [(5, .int .i64 (j : Int))] e' ∧ Ext w0 w' ∧ ∀ (i : Nat) (h : i < x.length) (h2 : i < y.length), i < j → x[i] = y[i]) (x.length)
      ⟨0, by omega, Head.intro (AgreeOff.refl _ _) ⟨rfl, trivial⟩, H, fun i h h2 hi => by omega⟩ ?_
    clear H
    rintro k e w1 ⟨j, hjk, ⟨jk, rfl⟩, H, hok⟩
    refine WP.seq ?_
    refine WP.regionS ?_
    refine RL.r (mvI rfl) rfl ?_
    refine RL.r (mvL rfl) rfl ?_
    refine RL.r (len_sl rfl) rfl ?_
    refine RL.r (lss rfl rfl) rfl ?_
    refine RL.nil ?_
    refine WP.cond rfl (fun hc => ?_) (fun hc => ?_)
    · refine WP.skip ?_
      refine WP.seq ?_
      refine WP.block ?_
      refine WP.seq ?_
      refine WP.draw (by kernel_rfl) ?_
      refine QL.r (mvL rfl) rfl ?_
      refine QL.r (mvI rfl) rfl ?_
      have hj : j < x.length := by omega
      have hj2 : j < y.length := by omega
      obtain ⟨p, rfl⟩ := hx0.isAddr (by decide) hj
      obtain ⟨q, rfl⟩ := hy0.isAddr (by decide) hj2
      refine QL.r (ix rfl rfl rfl (by omega)) rfl ?_
      refine QL.m (ldS_el rfl hx0 H rfl rfl (by omega)) rfl ?_
      refine QL.r (mvL rfl) rfl ?_
      refine QL.r (mvI rfl) rfl ?_
      refine QL.r (ix rfl rfl rfl (by omega)) rfl ?_
      refine QL.m (ldS_el rfl hy0 H rfl rfl (by omega)) rfl ?_
      refine QL.r (aneq (α := Part) rfl rfl) rfl ?_
      refine QL.nil ?_; intro w2 hx; replace H := H.ext hx
      refine WP.cond rfl (fun hc => ?_) (fun hc => ?_)
      · refine WP.regionS ?_
        refine RL.r (asgB rfl) rfl ?_
        refine RL.nil ?_
        refine WP.ret ?_
        refine fin1_ret rfl ⟨congrArg Value.bool (bF (fun h => hc (by subst h; rfl))), H⟩
      · refine WP.skip ?_
        refine WP.region ?_
        refine RL.r (mvI rfl) rfl ?_
        refine RL.r (add rfl rfl (by omega)) rfl ?_
        refine RL.r (asgI rfl) rfl ?_
        refine RL.nil ?_
        refine ⟨k - 1, by omega, j + 1, by omega, Head.intro (by repeat (first | with_reducible exact AgreeOff.mix _ _ _ | refine AgreeOff.look rfl ?_ | refine AgreeOff.mixs rfl ?_)) ⟨rfl, trivial⟩, H, fun i h h2 hi => ?_⟩
        by_cases hij : i < j
        · exact hok i h h2 hij
        · obtain rfl : i = j := by omega
          exact Classical.not_not.1 hc
    · refine WP.exit ?_
      refine WP.regionS ?_
      refine RL.r (asgB rfl) rfl ?_
      refine RL.nil ?_
      refine WP.ret ?_
      refine fin1_ret rfl ⟨congrArg Value.bool (bT (List.ext_getElem (by omega) fun i h h2 => hok i h h2 (by omega))), H⟩
theorem rSameT (w0 : World) (a b : Option Addr) (c d : Nat) (x y : List Topic) (hx0 : Sl w0 a x) (hy0 : Sl w0 b y) (hlen : x.length ≤ 100000) :
    Ct Try.prog 11 #[.slice a x.length c, .slice b y.length d] w0 fun v w' => v = .bool (decide (x = y)) ∧ Ext w0 w' := by
  refine Ct.intro1 Try.func11 Try.ntmps11 rfl rfl (by decide) rfl ?_
  have H : Ext w0 w0 := Ext.refl w0
  refine WP.regionS ?_
  refine RL.r (asgB rfl) rfl ?_
  refine RL.nil ?_
  refine WP.seq ?_
  refine WP.regionS ?_
  refine RL.r (mvL rfl) rfl ?_
  refine RL.r (len_sl rfl) rfl ?_
  refine RL.r (mvL rfl) rfl ?_
  refine RL.r (len_sl rfl) rfl ?_
  refine RL.r (neq rfl rfl) rfl ?_
  refine RL.nil ?_
  refine WP.cond rfl (fun hc => ?_) (fun hc => ?_)
  · refine WP.regionS ?_
    refine RL.r (asgB rfl) rfl ?_
    refine RL.nil ?_
    refine WP.ret ?_
    refine fin1_ret rfl ⟨congrArg Value.bool (bF (fun h => hc (by rw [h]))), H⟩
  · refine WP.skip ?_
    refine WP.seq ?_
    refine WP.regionS ?_
    refine RL.r (asgI rfl) rfl ?_
    refine RL.nil ?_
    refine WP.block ?_
    refine WP.loop (fun k e' w' => ∃ j : Nat,  j + k = x.length ∧ Head [4, 5, 11, 12, 13, 14, 15, 16, 17, 18, 19, 20, 21, 22, 23, 24, 25] _ [(5, .int .i64 (j : Int))] e' ∧ Ext w0 w' ∧ ∀ (i : Nat) (h : i < x.length) (h2 : i < y.length), i < j → x[i] = y[i]) (x.length)
      ⟨0, by omega, Head.intro (AgreeOff.refl _ _) ⟨rfl, trivial⟩, H, fun i h h2 hi => by omega⟩ ?_
    clear H
    rintro k e w1 ⟨j, hjk, ⟨jk, rfl⟩, H, hok⟩
    refine WP.seq ?_
    refine WP.regionS ?_
    refine RL.r (mvI rfl) rfl ?_
    refine RL.r (mvL rfl) rfl ?_
    refine RL.r (len_sl rfl) rfl ?_
    refine RL.r (lss rfl rfl) rfl ?_
    refine RL.nil ?_
    refine WP.cond rfl (fun hc => ?_) (fun hc => ?_)
    · refine WP.skip ?_
      refine WP.seq ?_
      refine WP.block ?_
      refine WP.seq ?_
      refine WP.draw (by kernel_rfl) ?_
      refine QL.r (mvL rfl) rfl ?_
      refine QL.r (mvI rfl) rfl ?_
      have hj : j < x.length := by omega
      have hj2 : j < y.length := by omega
      obtain ⟨p, rfl⟩ := hx0.isAddr (by decide) hj
      obtain ⟨q, rfl⟩ := hy0.isAddr (by decide) hj2
      refine QL.r (ix rfl rfl rfl (by omega)) rfl ?_
      refine QL.m (ldS_el rfl hx0 H rfl rfl (by omega)) rfl ?_
      refine QL.r (mvL rfl) rfl ?_
      refine QL.r (mvI rfl) rfl ?_
      refine QL.r (ix rfl rfl rfl (by omega)) rfl ?_
      refine QL.m (ldS_el rfl hy0 H rfl rfl (by omega)) rfl ?_
      refine QL.r (aneq (α := Topic) rfl rfl) rfl ?_
      refine QL.nil ?_; intro w2 hx; replace H := H.ext hx
      refine WP.cond rfl (fun hc => ?_) (fun hc => ?_)
      · refine WP.regionS ?_
        refine RL.r (asgB rfl) rfl ?_
        refine RL.nil ?_
        refine WP.ret ?_
        refine fin1_ret rfl ⟨congrArg Value.bool (bF (fun h => hc (by subst h; rfl))), H⟩
      · refine WP.skip ?_
        refine WP.region ?_
        refine RL.r (mvI rfl) rfl ?_
        refine RL.r (add rfl rfl (by omega)) rfl ?_
        refine RL.r (asgI rfl) rfl ?_
        refine RL.nil ?_
        refine ⟨k - 1, by omega, j + 1, by omega, Head.intro (by repeat (first | with_reducible exact AgreeOff.mix _ _ _ | refine AgreeOff.look rfl ?_ | refine AgreeOff.mixs rfl ?_)) ⟨rfl, trivial⟩, H, fun i h h2 hi => ?_⟩
        by_cases hij : i < j
        · exact hok i h h2 hij
        · obtain rfl : i = j := by omega
          exact Classical.not_not.1 hc
    · refine WP.exit ?_
      refine WP.regionS ?_
      refine RL.r (asgB rfl) rfl ?_
      refine RL.nil ?_
      refine WP.ret ?_
      refine fin1_ret rfl ⟨congrArg Value.bool (bT (List.ext_getElem (by omega) fun i h h2 => hok i h h2 (by omega))), H⟩
end Go.Proofs.Ytdcckaamepilcaa
