/-
  Check: walks and laws, written by gen/gen.py out of gen/thy/Check.py.
-/
import Derived.Test.YtlkpgeopcdhgjaaLoad
set_option linter.unusedVariables false
namespace Go.Proofs.Ytlkpgeopcdhgjaa
open Go Go.Eng Go.RowKit
def membersOk (m : List Mem) : Prop := ∀ (i : Nat) (h : i + 1 < m.length), slt m[i].name m[i + 1].name
noncomputable instance (m : List Mem) : Decidable (membersOk m) := Classical.propDecidable _
noncomputable def checkE (l : List Topic) (m : List Mem) : Int := if topicsE l ≠ 0 then topicsE l else if 8 < m.length then 2 else if membersOk m then 0 else 100
theorem intE {x y : Int} (h : x = y) : Value.int .i64 x = Value.int .i64 y := by rw [h]
theorem pCheck (w0 : World) (a b : Option Addr) (c d : Nat) (l : List Topic) (m : List Mem) (hl : Sl w0 a l) (hm : Sl w0 b m) :
    Ct Try.prog 65 #[.slice a l.length c, .slice b m.length d] w0 fun v w' => v = .int .i64 (checkE l m) ∧ Ext w0 w' := by
  refine Ct.intro1 Try.func65 Try.ntmps65 rfl rfl (by decide) rfl ?_
  have H : Ext w0 w0 := Ext.refl w0
  refine WP.regionS ?_
  refine RL.r (asgI rfl) rfl ?_
  refine RL.nil ?_
  refine WP.seq ?_
  refine WP.regionS ?_
  refine RL.r (mvL rfl) rfl ?_
  -- call stagecoach/topics.Load (tmp 9)
  refine RL.call (pLoad _ _ _ l hl) rfl rfl ?_
  rintro _ w1 ⟨⟨pc, rfl⟩, hx⟩
  replace H := H.ext hx
  refine RL.r (mvU rfl) rfl ?_
  refine RL.r (ex0 rfl) rfl ?_
  refine RL.r (ex1 rfl) rfl ?_
  refine RL.r (asgP rfl) rfl ?_
  refine RL.r (asgI rfl) rfl ?_
  refine RL.nil ?_
  refine WP.regionS ?_
  refine RL.r (mvI rfl) rfl ?_
  refine RL.r (neq rfl rfl) rfl ?_
  refine RL.nil ?_
  refine WP.cond rfl (fun hc => ?_) (fun hc => ?_)
  · refine WP.regionS ?_
    refine RL.r (mvI rfl) rfl ?_
    refine RL.r (asgI rfl) rfl ?_
    refine RL.nil ?_
    refine WP.ret ?_
    refine fin1_ret rfl ⟨intE (by unfold checkE; rw [if_pos hc]), H⟩
  · refine WP.skip ?_
    refine WP.seq ?_
    refine WP.regionS ?_
    refine RL.r (mvL rfl) rfl ?_
    refine RL.r (len_sl rfl) rfl ?_
    refine RL.r (gtr rfl rfl) rfl ?_
    refine RL.nil ?_
    refine WP.cond rfl (fun hc => ?_) (fun hc => ?_)
    · refine WP.regionS ?_
      refine RL.r (asgI rfl) rfl ?_
      refine RL.nil ?_
      refine WP.ret ?_
      refine fin1_ret rfl ⟨intE (by unfold checkE; rw [if_neg (by assumption), if_pos (by omega)]), H⟩
    · refine WP.skip ?_
      refine WP.seq ?_
      refine WP.regionS ?_
      refine RL.r (asgI rfl) rfl ?_
      refine RL.nil ?_
      refine WP.block ?_
      refine WP.loop (fun k e' w' => ∃ j : Nat,  j + k = m.length - 1 ∧ Head [4, 7, 19, 20, 21, 22, 23, 24, 25, 26, 27, 28, 29, 30, 31, 32, 33, 34, 35, 36] _ [(7, .int .i64 ((j : Int) + 1))] e' ∧ Ext w0 w' ∧ ∀ (i : Nat) (h : i + 1 < m.length), i < j → slt m[i].name m[i + 1].name) (m.length - 1)
        ⟨0, by omega, Head.intro (AgreeOff.refl _ _) ⟨rfl, trivial⟩, H, fun i h hi => by omega⟩ ?_
      clear H
      rintro k e w2 ⟨j, hjk, ⟨jk, rfl⟩, H, hok⟩
      refine WP.seq ?_
      refine WP.regionS ?_
      refine RL.r (mvI rfl) rfl ?_
      refine RL.r (mvL rfl) rfl ?_
      refine RL.r (len_sl rfl) rfl ?_
      refine RL.r (lss rfl rfl) rfl ?_
      refine RL.nil ?_
      refine WP.cond rfl (fun hc => ?_) (fun hc => ?_)
      · refine WP.skip ?_
        refine WP.seq ?_
        refine WP.block ?_
        refine WP.seq ?_
        refine WP.draw (by kernel_rfl) ?_
        refine QL.r (mvL rfl) rfl ?_
        refine QL.r (mvI rfl) rfl ?_
        have hj : j + 1 < m.length := by omega
        have hj0 : j < m.length := by omega
        obtain ⟨p, rfl⟩ := hm.isAddr (by decide) hj
        refine QL.r (ix rfl rfl (show ((j : Int) + 1) = ((j + 1 : Nat) : Int) by omega) hj) rfl ?_
        refine QL.r (fa_el hm.1 rfl) rfl ?_
        refine QL.m (ld_el rfl hm H rfl hj rfl) rfl ?_
        refine QL.r (mvL rfl) rfl ?_
        refine QL.r (mvI rfl) rfl ?_
        refine QL.r (sub rfl rfl (by omega)) rfl ?_
        refine QL.r (ix rfl rfl (show ((j : Int) + 1 - 1) = ((j : Nat) : Int) by omega) hj0) rfl ?_
        refine QL.r (fa_el hm.1 rfl) rfl ?_
        refine QL.m (ld_el rfl hm H rfl hj0 rfl) rfl ?_
        refine QL.r (sleq rfl rfl) rfl ?_
        refine QL.nil ?_; intro w3 hx; replace H := H.ext hx
        refine WP.cond rfl (fun hc => ?_) (fun hc => ?_)
        · refine WP.regionS ?_
          refine RL.r (asgI rfl) rfl ?_
          refine RL.nil ?_
          refine WP.ret ?_
          refine fin1_ret rfl ⟨intE ?_, H⟩
          unfold checkE
          rw [if_neg (by assumption), if_neg (by omega), if_neg (fun h => hc (h j hj))]
        · refine WP.skip ?_
          refine WP.region ?_
          refine RL.r (mvI rfl) rfl ?_
          refine RL.r (add rfl rfl (by omega)) rfl ?_
          refine RL.r (asgI rfl) rfl ?_
          refine RL.nil ?_
          refine ⟨k - 1, by omega, j + 1, by omega, Head.intro (by repeat (first | with_reducible exact AgreeOff.mix _ _ _ | refine AgreeOff.look rfl ?_ | refine AgreeOff.mixs rfl ?_)) ⟨rfl, trivial⟩, H, fun i h hi => ?_⟩
          by_cases hij : i < j
          · exact hok i h hij
          · obtain rfl : i = j := by omega
            exact Classical.not_not.1 hc
      · refine WP.exit ?_
        refine WP.regionS ?_
        refine RL.r (asgI rfl) rfl ?_
        refine RL.nil ?_
        refine WP.ret ?_
        refine fin1_ret rfl ⟨intE (by unfold checkE; rw [if_neg (by assumption), if_neg (by omega), if_pos (show membersOk m from fun i h => hok i h (by omega))]), H⟩
theorem rCheck (w0 : World) (a b : Option Addr) (c d : Nat) (l : List Topic) (m : List Mem) (hl : Sl w0 a l) (hm : Sl w0 b m) (hsz : ∀ x ∈ m, x.name.size ≤ 40) :
    Ct Try.prog 26 #[.slice a l.length c, .slice b m.length d] w0 fun v w' => v = .int .i64 (checkE l m) ∧ Ext w0 w' := by
  refine Ct.intro1 Try.func26 Try.ntmps26 rfl rfl (by decide) rfl ?_
  have H : Ext w0 w0 := Ext.refl w0
  refine WP.regionS ?_
  refine RL.r (asgI rfl) rfl ?_
  refine RL.nil ?_
  refine WP.regionS ?_
  refine RL.r (mvL rfl) rfl ?_
  -- call stagecoach/stagecoachref09.Load (tmp 9)
  refine RL.call (rLoad _ _ _ l hl) rfl rfl ?_
  rintro _ w1 ⟨⟨pc, rfl⟩, hx⟩
  replace H := H.ext hx
  refine RL.r (mvU rfl) rfl ?_
  refine RL.r (ex0 rfl) rfl ?_
  refine RL.r (ex1 rfl) rfl ?_
  refine RL.r (asgP rfl) rfl ?_
  refine RL.r (asgI rfl) rfl ?_
  refine RL.nil ?_
  refine WP.seq ?_
  refine WP.regionS ?_
  refine RL.r (mvI rfl) rfl ?_
  refine RL.r (neq rfl rfl) rfl ?_
  refine RL.nil ?_
  refine WP.cond rfl (fun hc => ?_) (fun hc => ?_)
  · refine WP.regionS ?_
    refine RL.r (mvI rfl) rfl ?_
    refine RL.r (asgI rfl) rfl ?_
    refine RL.nil ?_
    refine WP.ret ?_
    refine fin1_ret rfl ⟨intE (by unfold checkE; rw [if_pos hc]), H⟩
  · refine WP.skip ?_
    refine WP.seq ?_
    refine WP.regionS ?_
    refine RL.r (mvL rfl) rfl ?_
    refine RL.r (len_sl rfl) rfl ?_
    refine RL.r (gtr rfl rfl) rfl ?_
    refine RL.nil ?_
    refine WP.cond rfl (fun hc => ?_) (fun hc => ?_)
    · refine WP.regionS ?_
      refine RL.r (asgI rfl) rfl ?_
      refine RL.nil ?_
      refine WP.ret ?_
      refine fin1_ret rfl ⟨intE (by unfold checkE; rw [if_neg (by assumption), if_pos (by omega)]), H⟩
    · refine WP.skip ?_
      refine WP.seq ?_
      refine WP.regionS ?_
      refine RL.r (asgI rfl) rfl ?_
      refine RL.nil ?_
      refine WP.block ?_
      refine WP.loop (fun k e' w' => ∃ j : Nat,  j + k = m.length - 1 ∧ Head [4, 7, 19, 20, 21, 22, 23, 24, 25, 26, 27, 28, 29, 30, 31, 32, 33, 34, 35, 36, 37] _ [(7, .int .i64 ((j : Int) + 1))] e' ∧ Ext w0 w' ∧ ∀ (i : Nat) (h : i + 1 < m.length), i < j → slt m[i].name m[i + 1].name) (m.length - 1)
        ⟨0, by omega, Head.intro (AgreeOff.refl _ _) ⟨rfl, trivial⟩, H, fun i h hi => by omega⟩ ?_
      clear H
      rintro k e w2 ⟨j, hjk, ⟨jk, rfl⟩, H, hok⟩
      refine WP.seq ?_
      refine WP.regionS ?_
      refine RL.r (mvI rfl) rfl ?_
      refine RL.r (mvL rfl) rfl ?_
      refine RL.r (len_sl rfl) rfl ?_
      refine RL.r (lss rfl rfl) rfl ?_
      refine RL.nil ?_
      refine WP.cond rfl (fun hc => ?_) (fun hc => ?_)
      · refine WP.skip ?_
        refine WP.seq ?_
        refine WP.block ?_
        refine WP.seq ?_
        refine WP.draw (by kernel_rfl) ?_
        refine QL.r (mvL rfl) rfl ?_
        refine QL.r (mvI rfl) rfl ?_
        refine QL.r (sub rfl rfl (by omega)) rfl ?_
        have hj : j + 1 < m.length := by omega
        have hj0 : j < m.length := by omega
        obtain ⟨p, rfl⟩ := hm.isAddr (by decide) hj
        refine QL.r (ix rfl rfl (show ((j : Int) + 1 - 1) = ((j : Nat) : Int) by omega) hj0) rfl ?_
        refine QL.r (fa_el hm.1 rfl) rfl ?_
        refine QL.m (ld_el rfl hm H rfl hj0 rfl) rfl ?_
        refine QL.r (mvL rfl) rfl ?_
        refine QL.r (mvI rfl) rfl ?_
        refine QL.r (ix rfl rfl (show ((j : Int) + 1) = ((j + 1 : Nat) : Int) by omega) hj) rfl ?_
        refine QL.r (fa_el hm.1 rfl) rfl ?_
        refine QL.m (ld_el rfl hm H rfl hj rfl) rfl ?_
        -- call stagecoach/stagecoachref04.Less (tmp 30) (tmp 35)
        refine QL.call (fun w' hw' => (rLess w' _ _ (by have := hsz m[j] (List.getElem_mem _); omega))) rfl rfl ?_
        first | refine QL.r (notD rfl) rfl ?_ | refine QL.r (not_ rfl) rfl ?_
        refine QL.nil ?_; intro w4 hx; replace H := H.ext hx
        refine WP.cond rfl (fun hc => ?_) (fun hc => ?_)
        · refine WP.regionS ?_
          refine RL.r (asgI rfl) rfl ?_
          refine RL.nil ?_
          refine WP.ret ?_
          refine fin1_ret rfl ⟨intE ?_, H⟩
          unfold checkE
          rw [if_neg (by assumption), if_neg (by omega), if_neg (fun h => hc (h j hj))]
        · refine WP.skip ?_
          refine WP.region ?_
          refine RL.r (mvI rfl) rfl ?_
          refine RL.r (add rfl rfl (by omega)) rfl ?_
          refine RL.r (asgI rfl) rfl ?_
          refine RL.nil ?_
          refine ⟨k - 1, by omega, j + 1, by omega, Head.intro (by repeat (first | with_reducible exact AgreeOff.mix _ _ _ | refine AgreeOff.look rfl ?_ | refine AgreeOff.mixs rfl ?_)) ⟨rfl, trivial⟩, H, fun i h hi => ?_⟩
          by_cases hij : i < j
          · exact hok i h hij
          · obtain rfl : i = j := by omega
            exact Classical.not_not.1 hc
      · refine WP.exit ?_
        refine WP.regionS ?_
        refine RL.r (asgI rfl) rfl ?_
        refine RL.nil ?_
        refine WP.ret ?_
        refine fin1_ret rfl ⟨intE (by unfold checkE; rw [if_neg (by assumption), if_neg (by omega), if_pos (show membersOk m from fun i h => hok i h (by omega))]), H⟩
end Go.Proofs.Ytlkpgeopcdhgjaa
