/-
  The document's rows: another one.
-/
import Derived.Test.YtbggmjnhfacjpaaRef08b
set_option linter.unusedVariables false
namespace Go.Proofs.Ytbggmjnhfacjpaa
open Go Go.Eng Go.RowKit
set_option maxHeartbeats 6400000 in
theorem rMaker (w0 : World) (m : Maker) (hl : Sl w0 m.la m.last) (hlen : m.last.length ≤ 100000) :
    Ct Try.prog 38 #[.agg (Lies.enc m).toArray] w0 fun v w' => (∃ m' : Maker, v = .agg (Lies.enc m').toArray ∧ m'.mk' = m.mk' ∧ Own w0.heap.size w' 53 m'.la m'.lc m'.last) ∧ Ext w0 w' := by
  refine Ct.introC Try.func38 Try.ntmps38 rfl rfl (by decide) rfl ?_
  have H : Ext w0 w0 := Ext.refl w0
  refine WP.regionS ?_
  refine RL.boxS w0.heap.size H.size rfl rfl ?_
  intro w1 i1 hi1 hx hb1
  replace H := H.ext hx; clear hx
  refine RL.alloc w0.heap.size H.size rfl rfl ?_
  intro w2 i2 hi2 hx hb2
  have ne1_2 := hb1.ne hi2
  replace H := H.ext hx; replace hb1 := hb1.ext hx; clear hx
  refine RL.nil ?_
  refine WP.seq ?_
  refine WP.cutN (α := Maker) [3, 4, 5, 6, 7, 8, 9, 10, 11, 12, 13] (fun x => []) (fun x w' => Ext w0 w' ∧ Box w0.heap.size w' i1 33 (Lies.enc m) ∧ Box w0.heap.size w' i2 33 (Lies.enc x) ∧ x.mk' = m.mk' ∧ Own w0.heap.size w' 53 x.la x.lc x.last) ?_ ?_
  · refine WP.any ?_
    intro w3 hx; replace H := H.ext hx; replace hb1 := hb1.ext hx; replace hb2 := hb2.ext hx
    refine AL.p 0 (by kernel_rfl) rfl (fa_box rfl) rfl ?_
    refine AL.p 2 (by kernel_rfl) rfl (fa_box rfl) rfl ?_
    refine AL.p 4 (by kernel_rfl) rfl (fa_box rfl) rfl ?_
    refine AL.p 7 (by kernel_rfl) rfl (fa_box rfl) rfl ?_
    refine AL.m 8 (by kernel_rfl) rfl (ld_box rfl hb1 rfl) rfl ?_
    refine AL.all (rs := [1, 3, 5, 6]) (by kernel_rfl) rfl ?_
    rintro i hi; simp only [List.mem_cons, List.not_mem_nil, or_false] at hi; rcases hi with rfl | rfl | rfl | rfl
    · refine ⟨_, rfl, ?_⟩
      refine RL.m (ld_box rfl hb1 rfl) rfl ?_
      refine RL.nil ?_
      refine AL.all (rs := [3, 5, 6]) (by kernel_rfl) rfl ?_
      rintro i hi; simp only [List.mem_cons, List.not_mem_nil, or_false] at hi; rcases hi with rfl | rfl | rfl
      · refine ⟨_, rfl, ?_⟩
        refine RL.m (ld_box rfl hb1 rfl) rfl ?_
        refine RL.nil ?_
        refine AL.all (rs := [5, 6]) (by kernel_rfl) rfl ?_
        rintro i hi; simp only [List.mem_cons, List.not_mem_nil, or_false] at hi; rcases hi with rfl | rfl
        · refine ⟨_, rfl, ?_⟩
          refine RL.m (ldS_box rfl hb1 (Nat.le_of_ble_eq_true rfl) rfl) rfl ?_
          refine RL.nil ?_
          refine AL.o 6 (by kernel_rfl) rfl ?_
          refine RL.build0 (α := Did) w0.heap.size H.size rfl ?_
          intro w4 i9 hi9 hx hb9
          replace H := H.ext hx; replace hb1 := hb1.ext hx; replace hb2 := hb2.ext hx; clear hx
          refine RL.nil ?_
          refine AL.o 9 (by kernel_rfl) rfl ?_
          refine RL.appendS rfl hb9 H.size rfl (hl.ext H) rfl rfl (by decide) rfl cell1 (by rw [List.length_nil]; omega) (by rw [List.length_nil]; simp only [maxLen]; omega) rfl ?_
          intro w5 a12 c12 hu hb12 hfr12
          replace hb1 := hb1.upd hu (fun h => hb9.box_apart hb1 (by decide) h)
          replace hb2 := hb2.upd hu (fun h => hb9.box_apart hb2 (by decide) h)
          replace H := Ext.own H hb9 hu; clear hu
          refine RL.nil ?_
          refine AL.p 10 (by kernel_rfl) rfl (bld rfl rfl) rfl ?_
          refine AL.o 11 (by kernel_rfl) rfl ?_
          have hb2_0 := hb2
          refine RL.storeS rfl hb2 rfl rfl rfl rfl ?_
          intro w6 hu hb2
          replace hb12 := hb12.upd hu (fun j hj e => hb12.box_apart hb2_0 (by decide) (e ▸ hj))
          replace H := H.box hu hb2.old; replace hb1 := hb1.upd hu ne1_2
          refine RL.nil ?_
          refine AL.nil (by kernel_rfl) ?_
          refine ⟨⟨m.id, m.epoch, m.part, a12, c12, m.last⟩, Head.intro (by repeat (first | with_reducible exact AgreeOff.refl _ _ | with_reducible exact AgreeOff.mix _ _ _ | refine AgreeOff.look rfl ?_ | refine AgreeOff.mixs rfl ?_)) trivial, H, hb1, hb2, rfl, hb12⟩
        · refine ⟨_, rfl, ?_⟩
          refine RL.build0 (α := Did) w0.heap.size H.size rfl ?_
          intro w7 i9 hi9 hx hb9
          replace H := H.ext hx; replace hb1 := hb1.ext hx; replace hb2 := hb2.ext hx; clear hx
          refine RL.nil ?_
          refine AL.all (rs := [5, 9]) (by kernel_rfl) rfl ?_
          rintro i hi; simp only [List.mem_cons, List.not_mem_nil, or_false] at hi; rcases hi with rfl | rfl
          · refine ⟨_, rfl, ?_⟩
            refine RL.m (ldS_box rfl hb1 (Nat.le_of_ble_eq_true rfl) rfl) rfl ?_
            refine RL.nil ?_
            refine AL.o 9 (by kernel_rfl) rfl ?_
            refine RL.appendS rfl hb9 H.size rfl (hl.ext H) rfl rfl (by decide) rfl cell1 (by rw [List.length_nil]; omega) (by rw [List.length_nil]; simp only [maxLen]; omega) rfl ?_
            intro w8 a12 c12 hu hb12 hfr12
            replace hb1 := hb1.upd hu (fun h => hb9.box_apart hb1 (by decide) h)
            replace hb2 := hb2.upd hu (fun h => hb9.box_apart hb2 (by decide) h)
            replace H := Ext.own H hb9 hu; clear hu
            refine RL.nil ?_
            refine AL.p 10 (by kernel_rfl) rfl (bld rfl rfl) rfl ?_
            refine AL.o 11 (by kernel_rfl) rfl ?_
            have hb2_0 := hb2
            refine RL.storeS rfl hb2 rfl rfl rfl rfl ?_
            intro w9 hu hb2
            replace hb12 := hb12.upd hu (fun j hj e => hb12.box_apart hb2_0 (by decide) (e ▸ hj))
            replace H := H.box hu hb2.old; replace hb1 := hb1.upd hu ne1_2
            refine RL.nil ?_
            refine AL.nil (by kernel_rfl) ?_
            refine ⟨⟨m.id, m.epoch, m.part, a12, c12, m.last⟩, Head.intro (by repeat (first | with_reducible exact AgreeOff.refl _ _ | with_reducible exact AgreeOff.mix _ _ _ | refine AgreeOff.look rfl ?_ | refine AgreeOff.mixs rfl ?_)) trivial, H, hb1, hb2, rfl, hb12⟩
          · refine ⟨_, rfl, ?_⟩
            refine RL.appendS rfl hb9 H.size rfl (hl.ext H) rfl rfl (by decide) rfl cell1 (by rw [List.length_nil]; omega) (by rw [List.length_nil]; simp only [maxLen]; omega) rfl ?_
            intro w10 a12 c12 hu hb12 hfr12
            replace hb1 := hb1.upd hu (fun h => hb9.box_apart hb1 (by decide) h)
            replace hb2 := hb2.upd hu (fun h => hb9.box_apart hb2 (by decide) h)
            replace H := Ext.own H hb9 hu; clear hu
            refine RL.nil ?_
            refine AL.m 5 (by kernel_rfl) rfl (ldS_box rfl hb1 (Nat.le_of_ble_eq_true rfl) rfl) rfl ?_
            refine AL.p 10 (by kernel_rfl) rfl (bld rfl rfl) rfl ?_
            refine AL.o 11 (by kernel_rfl) rfl ?_
            have hb2_0 := hb2
            refine RL.storeS rfl hb2 rfl rfl rfl rfl ?_
            intro w11 hu hb2
            replace hb12 := hb12.upd hu (fun j hj e => hb12.box_apart hb2_0 (by decide) (e ▸ hj))
            replace H := H.box hu hb2.old; replace hb1 := hb1.upd hu ne1_2
            refine RL.nil ?_
            refine AL.nil (by kernel_rfl) ?_
            refine ⟨⟨m.id, m.epoch, m.part, a12, c12, m.last⟩, Head.intro (by repeat (first | with_reducible exact AgreeOff.refl _ _ | with_reducible exact AgreeOff.mix _ _ _ | refine AgreeOff.look rfl ?_ | refine AgreeOff.mixs rfl ?_)) trivial, H, hb1, hb2, rfl, hb12⟩
      · refine ⟨_, rfl, ?_⟩
        refine RL.m (ldS_box rfl hb1 (Nat.le_of_ble_eq_true rfl) rfl) rfl ?_
        refine RL.nil ?_
        refine AL.all (rs := [3, 6]) (by kernel_rfl) rfl ?_
        rintro i hi; simp only [List.mem_cons, List.not_mem_nil, or_false] at hi; rcases hi with rfl | rfl
        · refine ⟨_, rfl, ?_⟩
          refine RL.m (ld_box rfl hb1 rfl) rfl ?_
          refine RL.nil ?_
          refine AL.o 6 (by kernel_rfl) rfl ?_
          refine RL.build0 (α := Did) w0.heap.size H.size rfl ?_
          intro w12 i9 hi9 hx hb9
          replace H := H.ext hx; replace hb1 := hb1.ext hx; replace hb2 := hb2.ext hx; clear hx
          refine RL.nil ?_
          refine AL.o 9 (by kernel_rfl) rfl ?_
          refine RL.appendS rfl hb9 H.size rfl (hl.ext H) rfl rfl (by decide) rfl cell1 (by rw [List.length_nil]; omega) (by rw [List.length_nil]; simp only [maxLen]; omega) rfl ?_
          intro w13 a12 c12 hu hb12 hfr12
          replace hb1 := hb1.upd hu (fun h => hb9.box_apart hb1 (by decide) h)
          replace hb2 := hb2.upd hu (fun h => hb9.box_apart hb2 (by decide) h)
          replace H := Ext.own H hb9 hu; clear hu
          refine RL.nil ?_
          refine AL.p 10 (by kernel_rfl) rfl (bld rfl rfl) rfl ?_
          refine AL.o 11 (by kernel_rfl) rfl ?_
          have hb2_0 := hb2
          refine RL.storeS rfl hb2 rfl rfl rfl rfl ?_
          intro w14 hu hb2
          replace hb12 := hb12.upd hu (fun j hj e => hb12.box_apart hb2_0 (by decide) (e ▸ hj))
          replace H := H.box hu hb2.old; replace hb1 := hb1.upd hu ne1_2
          refine RL.nil ?_
          refine AL.nil (by kernel_rfl) ?_
          refine ⟨⟨m.id, m.epoch, m.part, a12, c12, m.last⟩, Head.intro (by repeat (first | with_reducible exact AgreeOff.refl _ _ | with_reducible exact AgreeOff.mix _ _ _ | refine AgreeOff.look rfl ?_ | refine AgreeOff.mixs rfl ?_)) trivial, H, hb1, hb2, rfl, hb12⟩
        · refine ⟨_, rfl, ?_⟩
          refine RL.build0 (α := Did) w0.heap.size H.size rfl ?_
          intro w15 i9 hi9 hx hb9
          replace H := H.ext hx; replace hb1 := hb1.ext hx; replace hb2 := hb2.ext hx; clear hx
          refine RL.nil ?_
          refine AL.all (rs := [3, 9]) (by kernel_rfl) rfl ?_
          rintro i hi; simp only [List.mem_cons, List.not_mem_nil, or_false] at hi; rcases hi with rfl | rfl
          · refine ⟨_, rfl, ?_⟩
            refine RL.m (ld_box rfl hb1 rfl) rfl ?_
            refine RL.nil ?_
            refine AL.o 9 (by kernel_rfl) rfl ?_
            refine RL.appendS rfl hb9 H.size rfl (hl.ext H) rfl rfl (by decide) rfl cell1 (by rw [List.length_nil]; omega) (by rw [List.length_nil]; simp only [maxLen]; omega) rfl ?_
            intro w16 a12 c12 hu hb12 hfr12
            replace hb1 := hb1.upd hu (fun h => hb9.box_apart hb1 (by decide) h)
            replace hb2 := hb2.upd hu (fun h => hb9.box_apart hb2 (by decide) h)
            replace H := Ext.own H hb9 hu; clear hu
            refine RL.nil ?_
            refine AL.p 10 (by kernel_rfl) rfl (bld rfl rfl) rfl ?_
            refine AL.o 11 (by kernel_rfl) rfl ?_
            have hb2_0 := hb2
            refine RL.storeS rfl hb2 rfl rfl rfl rfl ?_
            intro w17 hu hb2
            replace hb12 := hb12.upd hu (fun j hj e => hb12.box_apart hb2_0 (by decide) (e ▸ hj))
            replace H := H.box hu hb2.old; replace hb1 := hb1.upd hu ne1_2
            refine RL.nil ?_
            refine AL.nil (by kernel_rfl) ?_
            refine ⟨⟨m.id, m.epoch, m.part, a12, c12, m.last⟩, Head.intro (by repeat (first | with_reducible exact AgreeOff.refl _ _ | with_reducible exact AgreeOff.mix _ _ _ | refine AgreeOff.look rfl ?_ | refine AgreeOff.mixs rfl ?_)) trivial, H, hb1, hb2, rfl, hb12⟩
          · refine ⟨_, rfl, ?_⟩
            refine RL.appendS rfl hb9 H.size rfl (hl.ext H) rfl rfl (by decide) rfl cell1 (by rw [List.length_nil]; omega) (by rw [List.length_nil]; simp only [maxLen]; omega) rfl ?_
            intro w18 a12 c12 hu hb12 hfr12
            replace hb1 := hb1.upd hu (fun h => hb9.box_apart hb1 (by decide) h)
            replace hb2 := hb2.upd hu (fun h => hb9.box_apart hb2 (by decide) h)
            replace H := Ext.own H hb9 hu; clear hu
            refine RL.nil ?_
            refine AL.m 3 (by kernel_rfl) rfl (ld_box rfl hb1 rfl) rfl ?_
            refine AL.p 10 (by kernel_rfl) rfl (bld rfl rfl) rfl ?_
            refine AL.o 11 (by kernel_rfl) rfl ?_
            have hb2_0 := hb2
            refine RL.storeS rfl hb2 rfl rfl rfl rfl ?_
            intro w19 hu hb2
            replace hb12 := hb12.upd hu (fun j hj e => hb12.box_apart hb2_0 (by decide) (e ▸ hj))
            replace H := H.box hu hb2.old; replace hb1 := hb1.upd hu ne1_2
            refine RL.nil ?_
            refine AL.nil (by kernel_rfl) ?_
            refine ⟨⟨m.id, m.epoch, m.part, a12, c12, m.last⟩, Head.intro (by repeat (first | with_reducible exact AgreeOff.refl _ _ | with_reducible exact AgreeOff.mix _ _ _ | refine AgreeOff.look rfl ?_ | refine AgreeOff.mixs rfl ?_)) trivial, H, hb1, hb2, rfl, hb12⟩
      · refine ⟨_, rfl, ?_⟩
        refine RL.build0 (α := Did) w0.heap.size H.size rfl ?_
        intro w20 i9 hi9 hx hb9
        replace H := H.ext hx; replace hb1 := hb1.ext hx; replace hb2 := hb2.ext hx; clear hx
        refine RL.nil ?_
        refine AL.all (rs := [3, 5, 9]) (by kernel_rfl) rfl ?_
        rintro i hi; simp only [List.mem_cons, List.not_mem_nil, or_false] at hi; rcases hi with rfl | rfl | rfl
        · refine ⟨_, rfl, ?_⟩
          refine RL.m (ld_box rfl hb1 rfl) rfl ?_
          refine RL.nil ?_
          refine AL.all (rs := [5, 9]) (by kernel_rfl) rfl ?_
          rintro i hi; simp only [List.mem_cons, List.not_mem_nil, or_false] at hi; rcases hi with rfl | rfl
          · refine ⟨_, rfl, ?_⟩
            refine RL.m (ldS_box rfl hb1 (Nat.le_of_ble_eq_true rfl) rfl) rfl ?_
            refine RL.nil ?_
            refine AL.o 9 (by kernel_rfl) rfl ?_
            refine RL.appendS rfl hb9 H.size rfl (hl.ext H) rfl rfl (by decide) rfl cell1 (by rw [List.length_nil]; omega) (by rw [List.length_nil]; simp only [maxLen]; omega) rfl ?_
            intro w21 a12 c12 hu hb12 hfr12
            replace hb1 := hb1.upd hu (fun h => hb9.box_apart hb1 (by decide) h)
            replace hb2 := hb2.upd hu (fun h => hb9.box_apart hb2 (by decide) h)
            replace H := Ext.own H hb9 hu; clear hu
            refine RL.nil ?_
            refine AL.p 10 (by kernel_rfl) rfl (bld rfl rfl) rfl ?_
            refine AL.o 11 (by kernel_rfl) rfl ?_
            have hb2_0 := hb2
            refine RL.storeS rfl hb2 rfl rfl rfl rfl ?_
            intro w22 hu hb2
            replace hb12 := hb12.upd hu (fun j hj e => hb12.box_apart hb2_0 (by decide) (e ▸ hj))
            replace H := H.box hu hb2.old; replace hb1 := hb1.upd hu ne1_2
            refine RL.nil ?_
            refine AL.nil (by kernel_rfl) ?_
            refine ⟨⟨m.id, m.epoch, m.part, a12, c12, m.last⟩, Head.intro (by repeat (first | with_reducible exact AgreeOff.refl _ _ | with_reducible exact AgreeOff.mix _ _ _ | refine AgreeOff.look rfl ?_ | refine AgreeOff.mixs rfl ?_)) trivial, H, hb1, hb2, rfl, hb12⟩
          · refine ⟨_, rfl, ?_⟩
            refine RL.appendS rfl hb9 H.size rfl (hl.ext H) rfl rfl (by decide) rfl cell1 (by rw [List.length_nil]; omega) (by rw [List.length_nil]; simp only [maxLen]; omega) rfl ?_
            intro w23 a12 c12 hu hb12 hfr12
            replace hb1 := hb1.upd hu (fun h => hb9.box_apart hb1 (by decide) h)
            replace hb2 := hb2.upd hu (fun h => hb9.box_apart hb2 (by decide) h)
            replace H := Ext.own H hb9 hu; clear hu
            refine RL.nil ?_
            refine AL.m 5 (by kernel_rfl) rfl (ldS_box rfl hb1 (Nat.le_of_ble_eq_true rfl) rfl) rfl ?_
            refine AL.p 10 (by kernel_rfl) rfl (bld rfl rfl) rfl ?_
            refine AL.o 11 (by kernel_rfl) rfl ?_
            have hb2_0 := hb2
            refine RL.storeS rfl hb2 rfl rfl rfl rfl ?_
            intro w24 hu hb2
            replace hb12 := hb12.upd hu (fun j hj e => hb12.box_apart hb2_0 (by decide) (e ▸ hj))
            replace H := H.box hu hb2.old; replace hb1 := hb1.upd hu ne1_2
            refine RL.nil ?_
            refine AL.nil (by kernel_rfl) ?_
            refine ⟨⟨m.id, m.epoch, m.part, a12, c12, m.last⟩, Head.intro (by repeat (first | with_reducible exact AgreeOff.refl _ _ | with_reducible exact AgreeOff.mix _ _ _ | refine AgreeOff.look rfl ?_ | refine AgreeOff.mixs rfl ?_)) trivial, H, hb1, hb2, rfl, hb12⟩
        · refine ⟨_, rfl, ?_⟩
          refine RL.m (ldS_box rfl hb1 (Nat.le_of_ble_eq_true rfl) rfl) rfl ?_
          refine RL.nil ?_
          refine AL.all (rs := [3, 9]) (by kernel_rfl) rfl ?_
          rintro i hi; simp only [List.mem_cons, List.not_mem_nil, or_false] at hi; rcases hi with rfl | rfl
          · refine ⟨_, rfl, ?_⟩
            refine RL.m (ld_box rfl hb1 rfl) rfl ?_
            refine RL.nil ?_
            refine AL.o 9 (by kernel_rfl) rfl ?_
            refine RL.appendS rfl hb9 H.size rfl (hl.ext H) rfl rfl (by decide) rfl cell1 (by rw [List.length_nil]; omega) (by rw [List.length_nil]; simp only [maxLen]; omega) rfl ?_
            intro w25 a12 c12 hu hb12 hfr12
            replace hb1 := hb1.upd hu (fun h => hb9.box_apart hb1 (by decide) h)
            replace hb2 := hb2.upd hu (fun h => hb9.box_apart hb2 (by decide) h)
            replace H := Ext.own H hb9 hu; clear hu
            refine RL.nil ?_
            refine AL.p 10 (by kernel_rfl) rfl (bld rfl rfl) rfl ?_
            refine AL.o 11 (by kernel_rfl) rfl ?_
            have hb2_0 := hb2
            refine RL.storeS rfl hb2 rfl rfl rfl rfl ?_
            intro w26 hu hb2
            replace hb12 := hb12.upd hu (fun j hj e => hb12.box_apart hb2_0 (by decide) (e ▸ hj))
            replace H := H.box hu hb2.old; replace hb1 := hb1.upd hu ne1_2
            refine RL.nil ?_
            refine AL.nil (by kernel_rfl) ?_
            refine ⟨⟨m.id, m.epoch, m.part, a12, c12, m.last⟩, Head.intro (by repeat (first | with_reducible exact AgreeOff.refl _ _ | with_reducible exact AgreeOff.mix _ _ _ | refine AgreeOff.look rfl ?_ | refine AgreeOff.mixs rfl ?_)) trivial, H, hb1, hb2, rfl, hb12⟩
          · refine ⟨_, rfl, ?_⟩
            refine RL.appendS rfl hb9 H.size rfl (hl.ext H) rfl rfl (by decide) rfl cell1 (by rw [List.length_nil]; omega) (by rw [List.length_nil]; simp only [maxLen]; omega) rfl ?_
            intro w27 a12 c12 hu hb12 hfr12
            replace hb1 := hb1.upd hu (fun h => hb9.box_apart hb1 (by decide) h)
            replace hb2 := hb2.upd hu (fun h => hb9.box_apart hb2 (by decide) h)
            replace H := Ext.own H hb9 hu; clear hu
            refine RL.nil ?_
            refine AL.m 3 (by kernel_rfl) rfl (ld_box rfl hb1 rfl) rfl ?_
            refine AL.p 10 (by kernel_rfl) rfl (bld rfl rfl) rfl ?_
            refine AL.o 11 (by kernel_rfl) rfl ?_
            have hb2_0 := hb2
            refine RL.storeS rfl hb2 rfl rfl rfl rfl ?_
            intro w28 hu hb2
            replace hb12 := hb12.upd hu (fun j hj e => hb12.box_apart hb2_0 (by decide) (e ▸ hj))
            replace H := H.box hu hb2.old; replace hb1 := hb1.upd hu ne1_2
            refine RL.nil ?_
            refine AL.nil (by kernel_rfl) ?_
            refine ⟨⟨m.id, m.epoch, m.part, a12, c12, m.last⟩, Head.intro (by repeat (first | with_reducible exact AgreeOff.refl _ _ | with_reducible exact AgreeOff.mix _ _ _ | refine AgreeOff.look rfl ?_ | refine AgreeOff.mixs rfl ?_)) trivial, H, hb1, hb2, rfl, hb12⟩
        · refine ⟨_, rfl, ?_⟩
          refine RL.appendS rfl hb9 H.size rfl (hl.ext H) rfl rfl (by decide) rfl cell1 (by rw [List.length_nil]; omega) (by rw [List.length_nil]; simp only [maxLen]; omega) rfl ?_
          intro w29 a12 c12 hu hb12 hfr12
          replace hb1 := hb1.upd hu (fun h => hb9.box_apart hb1 (by decide) h)
          replace hb2 := hb2.upd hu (fun h => hb9.box_apart hb2 (by decide) h)
          replace H := Ext.own H hb9 hu; clear hu
          refine RL.nil ?_
          refine AL.m 3 (by kernel_rfl) rfl (ld_box rfl hb1 rfl) rfl ?_
          refine AL.m 5 (by kernel_rfl) rfl (ldS_box rfl hb1 (Nat.le_of_ble_eq_true rfl) rfl) rfl ?_
          refine AL.p 10 (by kernel_rfl) rfl (bld rfl rfl) rfl ?_
          refine AL.o 11 (by kernel_rfl) rfl ?_
          have hb2_0 := hb2
          refine RL.storeS rfl hb2 rfl rfl rfl rfl ?_
          intro w30 hu hb2
          replace hb12 := hb12.upd hu (fun j hj e => hb12.box_apart hb2_0 (by decide) (e ▸ hj))
          replace H := H.box hu hb2.old; replace hb1 := hb1.upd hu ne1_2
          refine RL.nil ?_
          refine AL.nil (by kernel_rfl) ?_
          refine ⟨⟨m.id, m.epoch, m.part, a12, c12, m.last⟩, Head.intro (by repeat (first | with_reducible exact AgreeOff.refl _ _ | with_reducible exact AgreeOff.mix _ _ _ | refine AgreeOff.look rfl ?_ | refine AgreeOff.mixs rfl ?_)) trivial, H, hb1, hb2, rfl, hb12⟩
    · refine ⟨_, rfl, ?_⟩
      refine RL.m (ld_box rfl hb1 rfl) rfl ?_
      refine RL.nil ?_
      refine AL.all (rs := [1, 5, 6]) (by kernel_rfl) rfl ?_
      rintro i hi; simp only [List.mem_cons, List.not_mem_nil, or_false] at hi; rcases hi with rfl | rfl | rfl
      · refine ⟨_, rfl, ?_⟩
        refine RL.m (ld_box rfl hb1 rfl) rfl ?_
        refine RL.nil ?_
        refine AL.all (rs := [5, 6]) (by kernel_rfl) rfl ?_
        rintro i hi; simp only [List.mem_cons, List.not_mem_nil, or_false] at hi; rcases hi with rfl | rfl
        · refine ⟨_, rfl, ?_⟩
          refine RL.m (ldS_box rfl hb1 (Nat.le_of_ble_eq_true rfl) rfl) rfl ?_
          refine RL.nil ?_
          refine AL.o 6 (by kernel_rfl) rfl ?_
          refine RL.build0 (α := Did) w0.heap.size H.size rfl ?_
          intro w31 i9 hi9 hx hb9
          replace H := H.ext hx; replace hb1 := hb1.ext hx; replace hb2 := hb2.ext hx; clear hx
          refine RL.nil ?_
          refine AL.o 9 (by kernel_rfl) rfl ?_
          refine RL.appendS rfl hb9 H.size rfl (hl.ext H) rfl rfl (by decide) rfl cell1 (by rw [List.length_nil]; omega) (by rw [List.length_nil]; simp only [maxLen]; omega) rfl ?_
          intro w32 a12 c12 hu hb12 hfr12
          replace hb1 := hb1.upd hu (fun h => hb9.box_apart hb1 (by decide) h)
          replace hb2 := hb2.upd hu (fun h => hb9.box_apart hb2 (by decide) h)
          replace H := Ext.own H hb9 hu; clear hu
          refine RL.nil ?_
          refine AL.p 10 (by kernel_rfl) rfl (bld rfl rfl) rfl ?_
          refine AL.o 11 (by kernel_rfl) rfl ?_
          have hb2_0 := hb2
          refine RL.storeS rfl hb2 rfl rfl rfl rfl ?_
          intro w33 hu hb2
          replace hb12 := hb12.upd hu (fun j hj e => hb12.box_apart hb2_0 (by decide) (e ▸ hj))
          replace H := H.box hu hb2.old; replace hb1 := hb1.upd hu ne1_2
          refine RL.nil ?_
          refine AL.nil (by kernel_rfl) ?_
          refine ⟨⟨m.id, m.epoch, m.part, a12, c12, m.last⟩, Head.intro (by repeat (first | with_reducible exact AgreeOff.refl _ _ | with_reducible exact AgreeOff.mix _ _ _ | refine AgreeOff.look rfl ?_ | refine AgreeOff.mixs rfl ?_)) trivial, H, hb1, hb2, rfl, hb12⟩
        · refine ⟨_, rfl, ?_⟩
          refine RL.build0 (α := Did) w0.heap.size H.size rfl ?_
          intro w34 i9 hi9 hx hb9
          replace H := H.ext hx; replace hb1 := hb1.ext hx; replace hb2 := hb2.ext hx; clear hx
          refine RL.nil ?_
          refine AL.all (rs := [5, 9]) (by kernel_rfl) rfl ?_
          rintro i hi; simp only [List.mem_cons, List.not_mem_nil, or_false] at hi; rcases hi with rfl | rfl
          · refine ⟨_, rfl, ?_⟩
            refine RL.m (ldS_box rfl hb1 (Nat.le_of_ble_eq_true rfl) rfl) rfl ?_
            refine RL.nil ?_
            refine AL.o 9 (by kernel_rfl) rfl ?_
            refine RL.appendS rfl hb9 H.size rfl (hl.ext H) rfl rfl (by decide) rfl cell1 (by rw [List.length_nil]; omega) (by rw [List.length_nil]; simp only [maxLen]; omega) rfl ?_
            intro w35 a12 c12 hu hb12 hfr12
            replace hb1 := hb1.upd hu (fun h => hb9.box_apart hb1 (by decide) h)
            replace hb2 := hb2.upd hu (fun h => hb9.box_apart hb2 (by decide) h)
            replace H := Ext.own H hb9 hu; clear hu
            refine RL.nil ?_
            refine AL.p 10 (by kernel_rfl) rfl (bld rfl rfl) rfl ?_
            refine AL.o 11 (by kernel_rfl) rfl ?_
            have hb2_0 := hb2
            refine RL.storeS rfl hb2 rfl rfl rfl rfl ?_
            intro w36 hu hb2
            replace hb12 := hb12.upd hu (fun j hj e => hb12.box_apart hb2_0 (by decide) (e ▸ hj))
            replace H := H.box hu hb2.old; replace hb1 := hb1.upd hu ne1_2
            refine RL.nil ?_
            refine AL.nil (by kernel_rfl) ?_
            refine ⟨⟨m.id, m.epoch, m.part, a12, c12, m.last⟩, Head.intro (by repeat (first | with_reducible exact AgreeOff.refl _ _ | with_reducible exact AgreeOff.mix _ _ _ | refine AgreeOff.look rfl ?_ | refine AgreeOff.mixs rfl ?_)) trivial, H, hb1, hb2, rfl, hb12⟩
          · refine ⟨_, rfl, ?_⟩
            refine RL.appendS rfl hb9 H.size rfl (hl.ext H) rfl rfl (by decide) rfl cell1 (by rw [List.length_nil]; omega) (by rw [List.length_nil]; simp only [maxLen]; omega) rfl ?_
            intro w37 a12 c12 hu hb12 hfr12
            replace hb1 := hb1.upd hu (fun h => hb9.box_apart hb1 (by decide) h)
            replace hb2 := hb2.upd hu (fun h => hb9.box_apart hb2 (by decide) h)
            replace H := Ext.own H hb9 hu; clear hu
            refine RL.nil ?_
            refine AL.m 5 (by kernel_rfl) rfl (ldS_box rfl hb1 (Nat.le_of_ble_eq_true rfl) rfl) rfl ?_
            refine AL.p 10 (by kernel_rfl) rfl (bld rfl rfl) rfl ?_
            refine AL.o 11 (by kernel_rfl) rfl ?_
            have hb2_0 := hb2
            refine RL.storeS rfl hb2 rfl rfl rfl rfl ?_
            intro w38 hu hb2
            replace hb12 := hb12.upd hu (fun j hj e => hb12.box_apart hb2_0 (by decide) (e ▸ hj))
            replace H := H.box hu hb2.old; replace hb1 := hb1.upd hu ne1_2
            refine RL.nil ?_
            refine AL.nil (by kernel_rfl) ?_
            refine ⟨⟨m.id, m.epoch, m.part, a12, c12, m.last⟩, Head.intro (by repeat (first | with_reducible exact AgreeOff.refl _ _ | with_reducible exact AgreeOff.mix _ _ _ | refine AgreeOff.look rfl ?_ | refine AgreeOff.mixs rfl ?_)) trivial, H, hb1, hb2, rfl, hb12⟩
      · refine ⟨_, rfl, ?_⟩
        refine RL.m (ldS_box rfl hb1 (Nat.le_of_ble_eq_true rfl) rfl) rfl ?_
        refine RL.nil ?_
        refine AL.all (rs := [1, 6]) (by kernel_rfl) rfl ?_
        rintro i hi; simp only [List.mem_cons, List.not_mem_nil, or_false] at hi; rcases hi with rfl | rfl
        · refine ⟨_, rfl, ?_⟩
          refine RL.m (ld_box rfl hb1 rfl) rfl ?_
          refine RL.nil ?_
          refine AL.o 6 (by kernel_rfl) rfl ?_
          refine RL.build0 (α := Did) w0.heap.size H.size rfl ?_
          intro w39 i9 hi9 hx hb9
          replace H := H.ext hx; replace hb1 := hb1.ext hx; replace hb2 := hb2.ext hx; clear hx
          refine RL.nil ?_
          refine AL.o 9 (by kernel_rfl) rfl ?_
          refine RL.appendS rfl hb9 H.size rfl (hl.ext H) rfl rfl (by decide) rfl cell1 (by rw [List.length_nil]; omega) (by rw [List.length_nil]; simp only [maxLen]; omega) rfl ?_
          intro w40 a12 c12 hu hb12 hfr12
          replace hb1 := hb1.upd hu (fun h => hb9.box_apart hb1 (by decide) h)
          replace hb2 := hb2.upd hu (fun h => hb9.box_apart hb2 (by decide) h)
          replace H := Ext.own H hb9 hu; clear hu
          refine RL.nil ?_
          refine AL.p 10 (by kernel_rfl) rfl (bld rfl rfl) rfl ?_
          refine AL.o 11 (by kernel_rfl) rfl ?_
          have hb2_0 := hb2
          refine RL.storeS rfl hb2 rfl rfl rfl rfl ?_
          intro w41 hu hb2
          replace hb12 := hb12.upd hu (fun j hj e => hb12.box_apart hb2_0 (by decide) (e ▸ hj))
          replace H := H.box hu hb2.old; replace hb1 := hb1.upd hu ne1_2
          refine RL.nil ?_
          refine AL.nil (by kernel_rfl) ?_
          refine ⟨⟨m.id, m.epoch, m.part, a12, c12, m.last⟩, Head.intro (by repeat (first | with_reducible exact AgreeOff.refl _ _ | with_reducible exact AgreeOff.mix _ _ _ | refine AgreeOff.look rfl ?_ | refine AgreeOff.mixs rfl ?_)) trivial, H, hb1, hb2, rfl, hb12⟩
        · refine ⟨_, rfl, ?_⟩
          refine RL.build0 (α := Did) w0.heap.size H.size rfl ?_
          intro w42 i9 hi9 hx hb9
          replace H := H.ext hx; replace hb1 := hb1.ext hx; replace hb2 := hb2.ext hx; clear hx
          refine RL.nil ?_
          refine AL.all (rs := [1, 9]) (by kernel_rfl) rfl ?_
          rintro i hi; simp only [List.mem_cons, List.not_mem_nil, or_false] at hi; rcases hi with rfl | rfl
          · refine ⟨_, rfl, ?_⟩
            refine RL.m (ld_box rfl hb1 rfl) rfl ?_
            refine RL.nil ?_
            refine AL.o 9 (by kernel_rfl) rfl ?_
            refine RL.appendS rfl hb9 H.size rfl (hl.ext H) rfl rfl (by decide) rfl cell1 (by rw [List.length_nil]; omega) (by rw [List.length_nil]; simp only [maxLen]; omega) rfl ?_
            intro w43 a12 c12 hu hb12 hfr12
            replace hb1 := hb1.upd hu (fun h => hb9.box_apart hb1 (by decide) h)
            replace hb2 := hb2.upd hu (fun h => hb9.box_apart hb2 (by decide) h)
            replace H := Ext.own H hb9 hu; clear hu
            refine RL.nil ?_
            refine AL.p 10 (by kernel_rfl) rfl (bld rfl rfl) rfl ?_
            refine AL.o 11 (by kernel_rfl) rfl ?_
            have hb2_0 := hb2
            refine RL.storeS rfl hb2 rfl rfl rfl rfl ?_
            intro w44 hu hb2
            replace hb12 := hb12.upd hu (fun j hj e => hb12.box_apart hb2_0 (by decide) (e ▸ hj))
            replace H := H.box hu hb2.old; replace hb1 := hb1.upd hu ne1_2
            refine RL.nil ?_
            refine AL.nil (by kernel_rfl) ?_
            refine ⟨⟨m.id, m.epoch, m.part, a12, c12, m.last⟩, Head.intro (by repeat (first | with_reducible exact AgreeOff.refl _ _ | with_reducible exact AgreeOff.mix _ _ _ | refine AgreeOff.look rfl ?_ | refine AgreeOff.mixs rfl ?_)) trivial, H, hb1, hb2, rfl, hb12⟩
          · refine ⟨_, rfl, ?_⟩
            refine RL.appendS rfl hb9 H.size rfl (hl.ext H) rfl rfl (by decide) rfl cell1 (by rw [List.length_nil]; omega) (by rw [List.length_nil]; simp only [maxLen]; omega) rfl ?_
            intro w45 a12 c12 hu hb12 hfr12
            replace hb1 := hb1.upd hu (fun h => hb9.box_apart hb1 (by decide) h)
            replace hb2 := hb2.upd hu (fun h => hb9.box_apart hb2 (by decide) h)
            replace H := Ext.own H hb9 hu; clear hu
            refine RL.nil ?_
            refine AL.m 1 (by kernel_rfl) rfl (ld_box rfl hb1 rfl) rfl ?_
            refine AL.p 10 (by kernel_rfl) rfl (bld rfl rfl) rfl ?_
            refine AL.o 11 (by kernel_rfl) rfl ?_
            have hb2_0 := hb2
            refine RL.storeS rfl hb2 rfl rfl rfl rfl ?_
            intro w46 hu hb2
            replace hb12 := hb12.upd hu (fun j hj e => hb12.box_apart hb2_0 (by decide) (e ▸ hj))
            replace H := H.box hu hb2.old; replace hb1 := hb1.upd hu ne1_2
            refine RL.nil ?_
            refine AL.nil (by kernel_rfl) ?_
            refine ⟨⟨m.id, m.epoch, m.part, a12, c12, m.last⟩, Head.intro (by repeat (first | with_reducible exact AgreeOff.refl _ _ | with_reducible exact AgreeOff.mix _ _ _ | refine AgreeOff.look rfl ?_ | refine AgreeOff.mixs rfl ?_)) trivial, H, hb1, hb2, rfl, hb12⟩
      · refine ⟨_, rfl, ?_⟩
        refine RL.build0 (α := Did) w0.heap.size H.size rfl ?_
        intro w47 i9 hi9 hx hb9
        replace H := H.ext hx; replace hb1 := hb1.ext hx; replace hb2 := hb2.ext hx; clear hx
        refine RL.nil ?_
        refine AL.all (rs := [1, 5, 9]) (by kernel_rfl) rfl ?_
        rintro i hi; simp only [List.mem_cons, List.not_mem_nil, or_false] at hi; rcases hi with rfl | rfl | rfl
        · refine ⟨_, rfl, ?_⟩
          refine RL.m (ld_box rfl hb1 rfl) rfl ?_
          refine RL.nil ?_
          refine AL.all (rs := [5, 9]) (by kernel_rfl) rfl ?_
          rintro i hi; simp only [List.mem_cons, List.not_mem_nil, or_false] at hi; rcases hi with rfl | rfl
          · refine ⟨_, rfl, ?_⟩
            refine RL.m (ldS_box rfl hb1 (Nat.le_of_ble_eq_true rfl) rfl) rfl ?_
            refine RL.nil ?_
            refine AL.o 9 (by kernel_rfl) rfl ?_
            refine RL.appendS rfl hb9 H.size rfl (hl.ext H) rfl rfl (by decide) rfl cell1 (by rw [List.length_nil]; omega) (by rw [List.length_nil]; simp only [maxLen]; omega) rfl ?_
            intro w48 a12 c12 hu hb12 hfr12
            replace hb1 := hb1.upd hu (fun h => hb9.box_apart hb1 (by decide) h)
            replace hb2 := hb2.upd hu (fun h => hb9.box_apart hb2 (by decide) h)
            replace H := Ext.own H hb9 hu; clear hu
            refine RL.nil ?_
            refine AL.p 10 (by kernel_rfl) rfl (bld rfl rfl) rfl ?_
            refine AL.o 11 (by kernel_rfl) rfl ?_
            have hb2_0 := hb2
            refine RL.storeS rfl hb2 rfl rfl rfl rfl ?_
            intro w49 hu hb2
            replace hb12 := hb12.upd hu (fun j hj e => hb12.box_apart hb2_0 (by decide) (e ▸ hj))
            replace H := H.box hu hb2.old; replace hb1 := hb1.upd hu ne1_2
            refine RL.nil ?_
            refine AL.nil (by kernel_rfl) ?_
            refine ⟨⟨m.id, m.epoch, m.part, a12, c12, m.last⟩, Head.intro (by repeat (first | with_reducible exact AgreeOff.refl _ _ | with_reducible exact AgreeOff.mix _ _ _ | refine AgreeOff.look rfl ?_ | refine AgreeOff.mixs rfl ?_)) trivial, H, hb1, hb2, rfl, hb12⟩
          · refine ⟨_, rfl, ?_⟩
            refine RL.appendS rfl hb9 H.size rfl (hl.ext H) rfl rfl (by decide) rfl cell1 (by rw [List.length_nil]; omega) (by rw [List.length_nil]; simp only [maxLen]; omega) rfl ?_
            intro w50 a12 c12 hu hb12 hfr12
            replace hb1 := hb1.upd hu (fun h => hb9.box_apart hb1 (by decide) h)
            replace hb2 := hb2.upd hu (fun h => hb9.box_apart hb2 (by decide) h)
            replace H := Ext.own H hb9 hu; clear hu
            refine RL.nil ?_
            refine AL.m 5 (by kernel_rfl) rfl (ldS_box rfl hb1 (Nat.le_of_ble_eq_true rfl) rfl) rfl ?_
            refine AL.p 10 (by kernel_rfl) rfl (bld rfl rfl) rfl ?_
            refine AL.o 11 (by kernel_rfl) rfl ?_
            have hb2_0 := hb2
            refine RL.storeS rfl hb2 rfl rfl rfl rfl ?_
            intro w51 hu hb2
            replace hb12 := hb12.upd hu (fun j hj e => hb12.box_apart hb2_0 (by decide) (e ▸ hj))
            replace H := H.box hu hb2.old; replace hb1 := hb1.upd hu ne1_2
            refine RL.nil ?_
            refine AL.nil (by kernel_rfl) ?_
            refine ⟨⟨m.id, m.epoch, m.part, a12, c12, m.last⟩, Head.intro (by repeat (first | with_reducible exact AgreeOff.refl _ _ | with_reducible exact AgreeOff.mix _ _ _ | refine AgreeOff.look rfl ?_ | refine AgreeOff.mixs rfl ?_)) trivial, H, hb1, hb2, rfl, hb12⟩
        · refine ⟨_, rfl, ?_⟩
          refine RL.m (ldS_box rfl hb1 (Nat.le_of_ble_eq_true rfl) rfl) rfl ?_
          refine RL.nil ?_
          refine AL.all (rs := [1, 9]) (by kernel_rfl) rfl ?_
          rintro i hi; simp only [List.mem_cons, List.not_mem_nil, or_false] at hi; rcases hi with rfl | rfl
          · refine ⟨_, rfl, ?_⟩
            refine RL.m (ld_box rfl hb1 rfl) rfl ?_
            refine RL.nil ?_
            refine AL.o 9 (by kernel_rfl) rfl ?_
            refine RL.appendS rfl hb9 H.size rfl (hl.ext H) rfl rfl (by decide) rfl cell1 (by rw [List.length_nil]; omega) (by rw [List.length_nil]; simp only [maxLen]; omega) rfl ?_
            intro w52 a12 c12 hu hb12 hfr12
            replace hb1 := hb1.upd hu (fun h => hb9.box_apart hb1 (by decide) h)
            replace hb2 := hb2.upd hu (fun h => hb9.box_apart hb2 (by decide) h)
            replace H := Ext.own H hb9 hu; clear hu
            refine RL.nil ?_
            refine AL.p 10 (by kernel_rfl) rfl (bld rfl rfl) rfl ?_
            refine AL.o 11 (by kernel_rfl) rfl ?_
            have hb2_0 := hb2
            refine RL.storeS rfl hb2 rfl rfl rfl rfl ?_
            intro w53 hu hb2
            replace hb12 := hb12.upd hu (fun j hj e => hb12.box_apart hb2_0 (by decide) (e ▸ hj))
            replace H := H.box hu hb2.old; replace hb1 := hb1.upd hu ne1_2
            refine RL.nil ?_
            refine AL.nil (by kernel_rfl) ?_
            refine ⟨⟨m.id, m.epoch, m.part, a12, c12, m.last⟩, Head.intro (by repeat (first | with_reducible exact AgreeOff.refl _ _ | with_reducible exact AgreeOff.mix _ _ _ | refine AgreeOff.look rfl ?_ | refine AgreeOff.mixs rfl ?_)) trivial, H, hb1, hb2, rfl, hb12⟩
          · refine ⟨_, rfl, ?_⟩
            refine RL.appendS rfl hb9 H.size rfl (hl.ext H) rfl rfl (by decide) rfl cell1 (by rw [List.length_nil]; omega) (by rw [List.length_nil]; simp only [maxLen]; omega) rfl ?_
            intro w54 a12 c12 hu hb12 hfr12
            replace hb1 := hb1.upd hu (fun h => hb9.box_apart hb1 (by decide) h)
            replace hb2 := hb2.upd hu (fun h => hb9.box_apart hb2 (by decide) h)
            replace H := Ext.own H hb9 hu; clear hu
            refine RL.nil ?_
            refine AL.m 1 (by kernel_rfl) rfl (ld_box rfl hb1 rfl) rfl ?_
            refine AL.p 10 (by kernel_rfl) rfl (bld rfl rfl) rfl ?_
            refine AL.o 11 (by kernel_rfl) rfl ?_
            have hb2_0 := hb2
            refine RL.storeS rfl hb2 rfl rfl rfl rfl ?_
            intro w55 hu hb2
            replace hb12 := hb12.upd hu (fun j hj e => hb12.box_apart hb2_0 (by decide) (e ▸ hj))
            replace H := H.box hu hb2.old; replace hb1 := hb1.upd hu ne1_2
            refine RL.nil ?_
            refine AL.nil (by kernel_rfl) ?_
            refine ⟨⟨m.id, m.epoch, m.part, a12, c12, m.last⟩, Head.intro (by repeat (first | with_reducible exact AgreeOff.refl _ _ | with_reducible exact AgreeOff.mix _ _ _ | refine AgreeOff.look rfl ?_ | refine AgreeOff.mixs rfl ?_)) trivial, H, hb1, hb2, rfl, hb12⟩
        · refine ⟨_, rfl, ?_⟩
          refine RL.appendS rfl hb9 H.size rfl (hl.ext H) rfl rfl (by decide) rfl cell1 (by rw [List.length_nil]; omega) (by rw [List.length_nil]; simp only [maxLen]; omega) rfl ?_
          intro w56 a12 c12 hu hb12 hfr12
          replace hb1 := hb1.upd hu (fun h => hb9.box_apart hb1 (by decide) h)
          replace hb2 := hb2.upd hu (fun h => hb9.box_apart hb2 (by decide) h)
          replace H := Ext.own H hb9 hu; clear hu
          refine RL.nil ?_
          refine AL.m 1 (by kernel_rfl) rfl (ld_box rfl hb1 rfl) rfl ?_
          refine AL.m 5 (by kernel_rfl) rfl (ldS_box rfl hb1 (Nat.le_of_ble_eq_true rfl) rfl) rfl ?_
          refine AL.p 10 (by kernel_rfl) rfl (bld rfl rfl) rfl ?_
          refine AL.o 11 (by kernel_rfl) rfl ?_
          have hb2_0 := hb2
          refine RL.storeS rfl hb2 rfl rfl rfl rfl ?_
          intro w57 hu hb2
          replace hb12 := hb12.upd hu (fun j hj e => hb12.box_apart hb2_0 (by decide) (e ▸ hj))
          replace H := H.box hu hb2.old; replace hb1 := hb1.upd hu ne1_2
          refine RL.nil ?_
          refine AL.nil (by kernel_rfl) ?_
          refine ⟨⟨m.id, m.epoch, m.part, a12, c12, m.last⟩, Head.intro (by repeat (first | with_reducible exact AgreeOff.refl _ _ | with_reducible exact AgreeOff.mix _ _ _ | refine AgreeOff.look rfl ?_ | refine AgreeOff.mixs rfl ?_)) trivial, H, hb1, hb2, rfl, hb12⟩
    · refine ⟨_, rfl, ?_⟩
      refine RL.m (ldS_box rfl hb1 (Nat.le_of_ble_eq_true rfl) rfl) rfl ?_
      refine RL.nil ?_
      refine AL.all (rs := [1, 3, 6]) (by kernel_rfl) rfl ?_
      rintro i hi; simp only [List.mem_cons, List.not_mem_nil, or_false] at hi; rcases hi with rfl | rfl | rfl
      · refine ⟨_, rfl, ?_⟩
        refine RL.m (ld_box rfl hb1 rfl) rfl ?_
        refine RL.nil ?_
        refine AL.all (rs := [3, 6]) (by kernel_rfl) rfl ?_
        rintro i hi; simp only [List.mem_cons, List.not_mem_nil, or_false] at hi; rcases hi with rfl | rfl
        · refine ⟨_, rfl, ?_⟩
          refine RL.m (ld_box rfl hb1 rfl) rfl ?_
          refine RL.nil ?_
          refine AL.o 6 (by kernel_rfl) rfl ?_
          refine RL.build0 (α := Did) w0.heap.size H.size rfl ?_
          intro w58 i9 hi9 hx hb9
          replace H := H.ext hx; replace hb1 := hb1.ext hx; replace hb2 := hb2.ext hx; clear hx
          refine RL.nil ?_
          refine AL.o 9 (by kernel_rfl) rfl ?_
          refine RL.appendS rfl hb9 H.size rfl (hl.ext H) rfl rfl (by decide) rfl cell1 (by rw [List.length_nil]; omega) (by rw [List.length_nil]; simp only [maxLen]; omega) rfl ?_
          intro w59 a12 c12 hu hb12 hfr12
          replace hb1 := hb1.upd hu (fun h => hb9.box_apart hb1 (by decide) h)
          replace hb2 := hb2.upd hu (fun h => hb9.box_apart hb2 (by decide) h)
          replace H := Ext.own H hb9 hu; clear hu
          refine RL.nil ?_
          refine AL.p 10 (by kernel_rfl) rfl (bld rfl rfl) rfl ?_
          refine AL.o 11 (by kernel_rfl) rfl ?_
          have hb2_0 := hb2
          refine RL.storeS rfl hb2 rfl rfl rfl rfl ?_
          intro w60 hu hb2
          replace hb12 := hb12.upd hu (fun j hj e => hb12.box_apart hb2_0 (by decide) (e ▸ hj))
          replace H := H.box hu hb2.old; replace hb1 := hb1.upd hu ne1_2
          refine RL.nil ?_
          refine AL.nil (by kernel_rfl) ?_
          refine ⟨⟨m.id, m.epoch, m.part, a12, c12, m.last⟩, Head.intro (by repeat (first | with_reducible exact AgreeOff.refl _ _ | with_reducible exact AgreeOff.mix _ _ _ | refine AgreeOff.look rfl ?_ | refine AgreeOff.mixs rfl ?_)) trivial, H, hb1, hb2, rfl, hb12⟩
        · refine ⟨_, rfl, ?_⟩
          refine RL.build0 (α := Did) w0.heap.size H.size rfl ?_
          intro w61 i9 hi9 hx hb9
          replace H := H.ext hx; replace hb1 := hb1.ext hx; replace hb2 := hb2.ext hx; clear hx
          refine RL.nil ?_
          refine AL.all (rs := [3, 9]) (by kernel_rfl) rfl ?_
          rintro i hi; simp only [List.mem_cons, List.not_mem_nil, or_false] at hi; rcases hi with rfl | rfl
          · refine ⟨_, rfl, ?_⟩
            refine RL.m (ld_box rfl hb1 rfl) rfl ?_
            refine RL.nil ?_
            refine AL.o 9 (by kernel_rfl) rfl ?_
            refine RL.appendS rfl hb9 H.size rfl (hl.ext H) rfl rfl (by decide) rfl cell1 (by rw [List.length_nil]; omega) (by rw [List.length_nil]; simp only [maxLen]; omega) rfl ?_
            intro w62 a12 c12 hu hb12 hfr12
            replace hb1 := hb1.upd hu (fun h => hb9.box_apart hb1 (by decide) h)
            replace hb2 := hb2.upd hu (fun h => hb9.box_apart hb2 (by decide) h)
            replace H := Ext.own H hb9 hu; clear hu
            refine RL.nil ?_
            refine AL.p 10 (by kernel_rfl) rfl (bld rfl rfl) rfl ?_
            refine AL.o 11 (by kernel_rfl) rfl ?_
            have hb2_0 := hb2
            refine RL.storeS rfl hb2 rfl rfl rfl rfl ?_
            intro w63 hu hb2
            replace hb12 := hb12.upd hu (fun j hj e => hb12.box_apart hb2_0 (by decide) (e ▸ hj))
            replace H := H.box hu hb2.old; replace hb1 := hb1.upd hu ne1_2
            refine RL.nil ?_
            refine AL.nil (by kernel_rfl) ?_
            refine ⟨⟨m.id, m.epoch, m.part, a12, c12, m.last⟩, Head.intro (by repeat (first | with_reducible exact AgreeOff.refl _ _ | with_reducible exact AgreeOff.mix _ _ _ | refine AgreeOff.look rfl ?_ | refine AgreeOff.mixs rfl ?_)) trivial, H, hb1, hb2, rfl, hb12⟩
          · refine ⟨_, rfl, ?_⟩
            refine RL.appendS rfl hb9 H.size rfl (hl.ext H) rfl rfl (by decide) rfl cell1 (by rw [List.length_nil]; omega) (by rw [List.length_nil]; simp only [maxLen]; omega) rfl ?_
            intro w64 a12 c12 hu hb12 hfr12
            replace hb1 := hb1.upd hu (fun h => hb9.box_apart hb1 (by decide) h)
            replace hb2 := hb2.upd hu (fun h => hb9.box_apart hb2 (by decide) h)
            replace H := Ext.own H hb9 hu; clear hu
            refine RL.nil ?_
            refine AL.m 3 (by kernel_rfl) rfl (ld_box rfl hb1 rfl) rfl ?_
            refine AL.p 10 (by kernel_rfl) rfl (bld rfl rfl) rfl ?_
            refine AL.o 11 (by kernel_rfl) rfl ?_
            have hb2_0 := hb2
            refine RL.storeS rfl hb2 rfl rfl rfl rfl ?_
            intro w65 hu hb2
            replace hb12 := hb12.upd hu (fun j hj e => hb12.box_apart hb2_0 (by decide) (e ▸ hj))
            replace H := H.box hu hb2.old; replace hb1 := hb1.upd hu ne1_2
            refine RL.nil ?_
            refine AL.nil (by kernel_rfl) ?_
            refine ⟨⟨m.id, m.epoch, m.part, a12, c12, m.last⟩, Head.intro (by repeat (first | with_reducible exact AgreeOff.refl _ _ | with_reducible exact AgreeOff.mix _ _ _ | refine AgreeOff.look rfl ?_ | refine AgreeOff.mixs rfl ?_)) trivial, H, hb1, hb2, rfl, hb12⟩
      · refine ⟨_, rfl, ?_⟩
        refine RL.m (ld_box rfl hb1 rfl) rfl ?_
        refine RL.nil ?_
        refine AL.all (rs := [1, 6]) (by kernel_rfl) rfl ?_
        rintro i hi; simp only [List.mem_cons, List.not_mem_nil, or_false] at hi; rcases hi with rfl | rfl
        · refine ⟨_, rfl, ?_⟩
          refine RL.m (ld_box rfl hb1 rfl) rfl ?_
          refine RL.nil ?_
          refine AL.o 6 (by kernel_rfl) rfl ?_
          refine RL.build0 (α := Did) w0.heap.size H.size rfl ?_
          intro w66 i9 hi9 hx hb9
          replace H := H.ext hx; replace hb1 := hb1.ext hx; replace hb2 := hb2.ext hx; clear hx
          refine RL.nil ?_
          refine AL.o 9 (by kernel_rfl) rfl ?_
          refine RL.appendS rfl hb9 H.size rfl (hl.ext H) rfl rfl (by decide) rfl cell1 (by rw [List.length_nil]; omega) (by rw [List.length_nil]; simp only [maxLen]; omega) rfl ?_
          intro w67 a12 c12 hu hb12 hfr12
          replace hb1 := hb1.upd hu (fun h => hb9.box_apart hb1 (by decide) h)
          replace hb2 := hb2.upd hu (fun h => hb9.box_apart hb2 (by decide) h)
          replace H := Ext.own H hb9 hu; clear hu
          refine RL.nil ?_
          refine AL.p 10 (by kernel_rfl) rfl (bld rfl rfl) rfl ?_
          refine AL.o 11 (by kernel_rfl) rfl ?_
          have hb2_0 := hb2
          refine RL.storeS rfl hb2 rfl rfl rfl rfl ?_
          intro w68 hu hb2
          replace hb12 := hb12.upd hu (fun j hj e => hb12.box_apart hb2_0 (by decide) (e ▸ hj))
          replace H := H.box hu hb2.old; replace hb1 := hb1.upd hu ne1_2
          refine RL.nil ?_
          refine AL.nil (by kernel_rfl) ?_
          refine ⟨⟨m.id, m.epoch, m.part, a12, c12, m.last⟩, Head.intro (by repeat (first | with_reducible exact AgreeOff.refl _ _ | with_reducible exact AgreeOff.mix _ _ _ | refine AgreeOff.look rfl ?_ | refine AgreeOff.mixs rfl ?_)) trivial, H, hb1, hb2, rfl, hb12⟩
        · refine ⟨_, rfl, ?_⟩
          refine RL.build0 (α := Did) w0.heap.size H.size rfl ?_
          intro w69 i9 hi9 hx hb9
          replace H := H.ext hx; replace hb1 := hb1.ext hx; replace hb2 := hb2.ext hx; clear hx
          refine RL.nil ?_
          refine AL.all (rs := [1, 9]) (by kernel_rfl) rfl ?_
          rintro i hi; simp only [List.mem_cons, List.not_mem_nil, or_false] at hi; rcases hi with rfl | rfl
          · refine ⟨_, rfl, ?_⟩
            refine RL.m (ld_box rfl hb1 rfl) rfl ?_
            refine RL.nil ?_
            refine AL.o 9 (by kernel_rfl) rfl ?_
            refine RL.appendS rfl hb9 H.size rfl (hl.ext H) rfl rfl (by decide) rfl cell1 (by rw [List.length_nil]; omega) (by rw [List.length_nil]; simp only [maxLen]; omega) rfl ?_
            intro w70 a12 c12 hu hb12 hfr12
            replace hb1 := hb1.upd hu (fun h => hb9.box_apart hb1 (by decide) h)
            replace hb2 := hb2.upd hu (fun h => hb9.box_apart hb2 (by decide) h)
            replace H := Ext.own H hb9 hu; clear hu
            refine RL.nil ?_
            refine AL.p 10 (by kernel_rfl) rfl (bld rfl rfl) rfl ?_
            refine AL.o 11 (by kernel_rfl) rfl ?_
            have hb2_0 := hb2
            refine RL.storeS rfl hb2 rfl rfl rfl rfl ?_
            intro w71 hu hb2
            replace hb12 := hb12.upd hu (fun j hj e => hb12.box_apart hb2_0 (by decide) (e ▸ hj))
            replace H := H.box hu hb2.old; replace hb1 := hb1.upd hu ne1_2
            refine RL.nil ?_
            refine AL.nil (by kernel_rfl) ?_
            refine ⟨⟨m.id, m.epoch, m.part, a12, c12, m.last⟩, Head.intro (by repeat (first | with_reducible exact AgreeOff.refl _ _ | with_reducible exact AgreeOff.mix _ _ _ | refine AgreeOff.look rfl ?_ | refine AgreeOff.mixs rfl ?_)) trivial, H, hb1, hb2, rfl, hb12⟩
          · refine ⟨_, rfl, ?_⟩
            refine RL.appendS rfl hb9 H.size rfl (hl.ext H) rfl rfl (by decide) rfl cell1 (by rw [List.length_nil]; omega) (by rw [List.length_nil]; simp only [maxLen]; omega) rfl ?_
            intro w72 a12 c12 hu hb12 hfr12
            replace hb1 := hb1.upd hu (fun h => hb9.box_apart hb1 (by decide) h)
            replace hb2 := hb2.upd hu (fun h => hb9.box_apart hb2 (by decide) h)
            replace H := Ext.own H hb9 hu; clear hu
            refine RL.nil ?_
            refine AL.m 1 (by kernel_rfl) rfl (ld_box rfl hb1 rfl) rfl ?_
            refine AL.p 10 (by kernel_rfl) rfl (bld rfl rfl) rfl ?_
            refine AL.o 11 (by kernel_rfl) rfl ?_
            have hb2_0 := hb2
            refine RL.storeS rfl hb2 rfl rfl rfl rfl ?_
            intro w73 hu hb2
            replace hb12 := hb12.upd hu (fun j hj e => hb12.box_apart hb2_0 (by decide) (e ▸ hj))
            replace H := H.box hu hb2.old; replace hb1 := hb1.upd hu ne1_2
            refine RL.nil ?_
            refine AL.nil (by kernel_rfl) ?_
            refine ⟨⟨m.id, m.epoch, m.part, a12, c12, m.last⟩, Head.intro (by repeat (first | with_reducible exact AgreeOff.refl _ _ | with_reducible exact AgreeOff.mix _ _ _ | refine AgreeOff.look rfl ?_ | refine AgreeOff.mixs rfl ?_)) trivial, H, hb1, hb2, rfl, hb12⟩
      · refine ⟨_, rfl, ?_⟩
        refine RL.build0 (α := Did) w0.heap.size H.size rfl ?_
        intro w74 i9 hi9 hx hb9
        replace H := H.ext hx; replace hb1 := hb1.ext hx; replace hb2 := hb2.ext hx; clear hx
        refine RL.nil ?_
        refine AL.all (rs := [1, 3, 9]) (by kernel_rfl) rfl ?_
        rintro i hi; simp only [List.mem_cons, List.not_mem_nil, or_false] at hi; rcases hi with rfl | rfl | rfl
        · refine ⟨_, rfl, ?_⟩
          refine RL.m (ld_box rfl hb1 rfl) rfl ?_
          refine RL.nil ?_
          refine AL.all (rs := [3, 9]) (by kernel_rfl) rfl ?_
          rintro i hi; simp only [List.mem_cons, List.not_mem_nil, or_false] at hi; rcases hi with rfl | rfl
          · refine ⟨_, rfl, ?_⟩
            refine RL.m (ld_box rfl hb1 rfl) rfl ?_
            refine RL.nil ?_
            refine AL.o 9 (by kernel_rfl) rfl ?_
            refine RL.appendS rfl hb9 H.size rfl (hl.ext H) rfl rfl (by decide) rfl cell1 (by rw [List.length_nil]; omega) (by rw [List.length_nil]; simp only [maxLen]; omega) rfl ?_
            intro w75 a12 c12 hu hb12 hfr12
            replace hb1 := hb1.upd hu (fun h => hb9.box_apart hb1 (by decide) h)
            replace hb2 := hb2.upd hu (fun h => hb9.box_apart hb2 (by decide) h)
            replace H := Ext.own H hb9 hu; clear hu
            refine RL.nil ?_
            refine AL.p 10 (by kernel_rfl) rfl (bld rfl rfl) rfl ?_
            refine AL.o 11 (by kernel_rfl) rfl ?_
            have hb2_0 := hb2
            refine RL.storeS rfl hb2 rfl rfl rfl rfl ?_
            intro w76 hu hb2
            replace hb12 := hb12.upd hu (fun j hj e => hb12.box_apart hb2_0 (by decide) (e ▸ hj))
            replace H := H.box hu hb2.old; replace hb1 := hb1.upd hu ne1_2
            refine RL.nil ?_
            refine AL.nil (by kernel_rfl) ?_
            refine ⟨⟨m.id, m.epoch, m.part, a12, c12, m.last⟩, Head.intro (by repeat (first | with_reducible exact AgreeOff.refl _ _ | with_reducible exact AgreeOff.mix _ _ _ | refine AgreeOff.look rfl ?_ | refine AgreeOff.mixs rfl ?_)) trivial, H, hb1, hb2, rfl, hb12⟩
          · refine ⟨_, rfl, ?_⟩
            refine RL.appendS rfl hb9 H.size rfl (hl.ext H) rfl rfl (by decide) rfl cell1 (by rw [List.length_nil]; omega) (by rw [List.length_nil]; simp only [maxLen]; omega) rfl ?_
            intro w77 a12 c12 hu hb12 hfr12
            replace hb1 := hb1.upd hu (fun h => hb9.box_apart hb1 (by decide) h)
            replace hb2 := hb2.upd hu (fun h => hb9.box_apart hb2 (by decide) h)
            replace H := Ext.own H hb9 hu; clear hu
            refine RL.nil ?_
            refine AL.m 3 (by kernel_rfl) rfl (ld_box rfl hb1 rfl) rfl ?_
            refine AL.p 10 (by kernel_rfl) rfl (bld rfl rfl) rfl ?_
            refine AL.o 11 (by kernel_rfl) rfl ?_
            have hb2_0 := hb2
            refine RL.storeS rfl hb2 rfl rfl rfl rfl ?_
            intro w78 hu hb2
            replace hb12 := hb12.upd hu (fun j hj e => hb12.box_apart hb2_0 (by decide) (e ▸ hj))
            replace H := H.box hu hb2.old; replace hb1 := hb1.upd hu ne1_2
            refine RL.nil ?_
            refine AL.nil (by kernel_rfl) ?_
            refine ⟨⟨m.id, m.epoch, m.part, a12, c12, m.last⟩, Head.intro (by repeat (first | with_reducible exact AgreeOff.refl _ _ | with_reducible exact AgreeOff.mix _ _ _ | refine AgreeOff.look rfl ?_ | refine AgreeOff.mixs rfl ?_)) trivial, H, hb1, hb2, rfl, hb12⟩
        · refine ⟨_, rfl, ?_⟩
          refine RL.m (ld_box rfl hb1 rfl) rfl ?_
          refine RL.nil ?_
          refine AL.all (rs := [1, 9]) (by kernel_rfl) rfl ?_
          rintro i hi; simp only [List.mem_cons, List.not_mem_nil, or_false] at hi; rcases hi with rfl | rfl
          · refine ⟨_, rfl, ?_⟩
            refine RL.m (ld_box rfl hb1 rfl) rfl ?_
            refine RL.nil ?_
            refine AL.o 9 (by kernel_rfl) rfl ?_
            refine RL.appendS rfl hb9 H.size rfl (hl.ext H) rfl rfl (by decide) rfl cell1 (by rw [List.length_nil]; omega) (by rw [List.length_nil]; simp only [maxLen]; omega) rfl ?_
            intro w79 a12 c12 hu hb12 hfr12
            replace hb1 := hb1.upd hu (fun h => hb9.box_apart hb1 (by decide) h)
            replace hb2 := hb2.upd hu (fun h => hb9.box_apart hb2 (by decide) h)
            replace H := Ext.own H hb9 hu; clear hu
            refine RL.nil ?_
            refine AL.p 10 (by kernel_rfl) rfl (bld rfl rfl) rfl ?_
            refine AL.o 11 (by kernel_rfl) rfl ?_
            have hb2_0 := hb2
            refine RL.storeS rfl hb2 rfl rfl rfl rfl ?_
            intro w80 hu hb2
            replace hb12 := hb12.upd hu (fun j hj e => hb12.box_apart hb2_0 (by decide) (e ▸ hj))
            replace H := H.box hu hb2.old; replace hb1 := hb1.upd hu ne1_2
            refine RL.nil ?_
            refine AL.nil (by kernel_rfl) ?_
            refine ⟨⟨m.id, m.epoch, m.part, a12, c12, m.last⟩, Head.intro (by repeat (first | with_reducible exact AgreeOff.refl _ _ | with_reducible exact AgreeOff.mix _ _ _ | refine AgreeOff.look rfl ?_ | refine AgreeOff.mixs rfl ?_)) trivial, H, hb1, hb2, rfl, hb12⟩
          · refine ⟨_, rfl, ?_⟩
            refine RL.appendS rfl hb9 H.size rfl (hl.ext H) rfl rfl (by decide) rfl cell1 (by rw [List.length_nil]; omega) (by rw [List.length_nil]; simp only [maxLen]; omega) rfl ?_
            intro w81 a12 c12 hu hb12 hfr12
            replace hb1 := hb1.upd hu (fun h => hb9.box_apart hb1 (by decide) h)
            replace hb2 := hb2.upd hu (fun h => hb9.box_apart hb2 (by decide) h)
            replace H := Ext.own H hb9 hu; clear hu
            refine RL.nil ?_
            refine AL.m 1 (by kernel_rfl) rfl (ld_box rfl hb1 rfl) rfl ?_
            refine AL.p 10 (by kernel_rfl) rfl (bld rfl rfl) rfl ?_
            refine AL.o 11 (by kernel_rfl) rfl ?_
            have hb2_0 := hb2
            refine RL.storeS rfl hb2 rfl rfl rfl rfl ?_
            intro w82 hu hb2
            replace hb12 := hb12.upd hu (fun j hj e => hb12.box_apart hb2_0 (by decide) (e ▸ hj))
            replace H := H.box hu hb2.old; replace hb1 := hb1.upd hu ne1_2
            refine RL.nil ?_
            refine AL.nil (by kernel_rfl) ?_
            refine ⟨⟨m.id, m.epoch, m.part, a12, c12, m.last⟩, Head.intro (by repeat (first | with_reducible exact AgreeOff.refl _ _ | with_reducible exact AgreeOff.mix _ _ _ | refine AgreeOff.look rfl ?_ | refine AgreeOff.mixs rfl ?_)) trivial, H, hb1, hb2, rfl, hb12⟩
        · refine ⟨_, rfl, ?_⟩
          refine RL.appendS rfl hb9 H.size rfl (hl.ext H) rfl rfl (by decide) rfl cell1 (by rw [List.length_nil]; omega) (by rw [List.length_nil]; simp only [maxLen]; omega) rfl ?_
          intro w83 a12 c12 hu hb12 hfr12
          replace hb1 := hb1.upd hu (fun h => hb9.box_apart hb1 (by decide) h)
          replace hb2 := hb2.upd hu (fun h => hb9.box_apart hb2 (by decide) h)
          replace H := Ext.own H hb9 hu; clear hu
          refine RL.nil ?_
          refine AL.m 1 (by kernel_rfl) rfl (ld_box rfl hb1 rfl) rfl ?_
          refine AL.m 3 (by kernel_rfl) rfl (ld_box rfl hb1 rfl) rfl ?_
          refine AL.p 10 (by kernel_rfl) rfl (bld rfl rfl) rfl ?_
          refine AL.o 11 (by kernel_rfl) rfl ?_
          have hb2_0 := hb2
          refine RL.storeS rfl hb2 rfl rfl rfl rfl ?_
          intro w84 hu hb2
          replace hb12 := hb12.upd hu (fun j hj e => hb12.box_apart hb2_0 (by decide) (e ▸ hj))
          replace H := H.box hu hb2.old; replace hb1 := hb1.upd hu ne1_2
          refine RL.nil ?_
          refine AL.nil (by kernel_rfl) ?_
          refine ⟨⟨m.id, m.epoch, m.part, a12, c12, m.last⟩, Head.intro (by repeat (first | with_reducible exact AgreeOff.refl _ _ | with_reducible exact AgreeOff.mix _ _ _ | refine AgreeOff.look rfl ?_ | refine AgreeOff.mixs rfl ?_)) trivial, H, hb1, hb2, rfl, hb12⟩
    · refine ⟨_, rfl, ?_⟩
      refine RL.build0 (α := Did) w0.heap.size H.size rfl ?_
      intro w85 i9 hi9 hx hb9
      replace H := H.ext hx; replace hb1 := hb1.ext hx; replace hb2 := hb2.ext hx; clear hx
      refine RL.nil ?_
      refine AL.all (rs := [1, 3, 5, 9]) (by kernel_rfl) rfl ?_
      rintro i hi; simp only [List.mem_cons, List.not_mem_nil, or_false] at hi; rcases hi with rfl | rfl | rfl | rfl
      · refine ⟨_, rfl, ?_⟩
        refine RL.m (ld_box rfl hb1 rfl) rfl ?_
        refine RL.nil ?_
        refine AL.all (rs := [3, 5, 9]) (by kernel_rfl) rfl ?_
        rintro i hi; simp only [List.mem_cons, List.not_mem_nil, or_false] at hi; rcases hi with rfl | rfl | rfl
        · refine ⟨_, rfl, ?_⟩
          refine RL.m (ld_box rfl hb1 rfl) rfl ?_
          refine RL.nil ?_
          refine AL.all (rs := [5, 9]) (by kernel_rfl) rfl ?_
          rintro i hi; simp only [List.mem_cons, List.not_mem_nil, or_false] at hi; rcases hi with rfl | rfl
          · refine ⟨_, rfl, ?_⟩
            refine RL.m (ldS_box rfl hb1 (Nat.le_of_ble_eq_true rfl) rfl) rfl ?_
            refine RL.nil ?_
            refine AL.o 9 (by kernel_rfl) rfl ?_
            refine RL.appendS rfl hb9 H.size rfl (hl.ext H) rfl rfl (by decide) rfl cell1 (by rw [List.length_nil]; omega) (by rw [List.length_nil]; simp only [maxLen]; omega) rfl ?_
            intro w86 a12 c12 hu hb12 hfr12
            replace hb1 := hb1.upd hu (fun h => hb9.box_apart hb1 (by decide) h)
            replace hb2 := hb2.upd hu (fun h => hb9.box_apart hb2 (by decide) h)
            replace H := Ext.own H hb9 hu; clear hu
            refine RL.nil ?_
            refine AL.p 10 (by kernel_rfl) rfl (bld rfl rfl) rfl ?_
            refine AL.o 11 (by kernel_rfl) rfl ?_
            have hb2_0 := hb2
            refine RL.storeS rfl hb2 rfl rfl rfl rfl ?_
            intro w87 hu hb2
            replace hb12 := hb12.upd hu (fun j hj e => hb12.box_apart hb2_0 (by decide) (e ▸ hj))
            replace H := H.box hu hb2.old; replace hb1 := hb1.upd hu ne1_2
            refine RL.nil ?_
            refine AL.nil (by kernel_rfl) ?_
            refine ⟨⟨m.id, m.epoch, m.part, a12, c12, m.last⟩, Head.intro (by repeat (first | with_reducible exact AgreeOff.refl _ _ | with_reducible exact AgreeOff.mix _ _ _ | refine AgreeOff.look rfl ?_ | refine AgreeOff.mixs rfl ?_)) trivial, H, hb1, hb2, rfl, hb12⟩
          · refine ⟨_, rfl, ?_⟩
            refine RL.appendS rfl hb9 H.size rfl (hl.ext H) rfl rfl (by decide) rfl cell1 (by rw [List.length_nil]; omega) (by rw [List.length_nil]; simp only [maxLen]; omega) rfl ?_
            intro w88 a12 c12 hu hb12 hfr12
            replace hb1 := hb1.upd hu (fun h => hb9.box_apart hb1 (by decide) h)
            replace hb2 := hb2.upd hu (fun h => hb9.box_apart hb2 (by decide) h)
            replace H := Ext.own H hb9 hu; clear hu
            refine RL.nil ?_
            refine AL.m 5 (by kernel_rfl) rfl (ldS_box rfl hb1 (Nat.le_of_ble_eq_true rfl) rfl) rfl ?_
            refine AL.p 10 (by kernel_rfl) rfl (bld rfl rfl) rfl ?_
            refine AL.o 11 (by kernel_rfl) rfl ?_
            have hb2_0 := hb2
            refine RL.storeS rfl hb2 rfl rfl rfl rfl ?_
            intro w89 hu hb2
            replace hb12 := hb12.upd hu (fun j hj e => hb12.box_apart hb2_0 (by decide) (e ▸ hj))
            replace H := H.box hu hb2.old; replace hb1 := hb1.upd hu ne1_2
            refine RL.nil ?_
            refine AL.nil (by kernel_rfl) ?_
            refine ⟨⟨m.id, m.epoch, m.part, a12, c12, m.last⟩, Head.intro (by repeat (first | with_reducible exact AgreeOff.refl _ _ | with_reducible exact AgreeOff.mix _ _ _ | refine AgreeOff.look rfl ?_ | refine AgreeOff.mixs rfl ?_)) trivial, H, hb1, hb2, rfl, hb12⟩
        · refine ⟨_, rfl, ?_⟩
          refine RL.m (ldS_box rfl hb1 (Nat.le_of_ble_eq_true rfl) rfl) rfl ?_
          refine RL.nil ?_
          refine AL.all (rs := [3, 9]) (by kernel_rfl) rfl ?_
          rintro i hi; simp only [List.mem_cons, List.not_mem_nil, or_false] at hi; rcases hi with rfl | rfl
          · refine ⟨_, rfl, ?_⟩
            refine RL.m (ld_box rfl hb1 rfl) rfl ?_
            refine RL.nil ?_
            refine AL.o 9 (by kernel_rfl) rfl ?_
            refine RL.appendS rfl hb9 H.size rfl (hl.ext H) rfl rfl (by decide) rfl cell1 (by rw [List.length_nil]; omega) (by rw [List.length_nil]; simp only [maxLen]; omega) rfl ?_
            intro w90 a12 c12 hu hb12 hfr12
            replace hb1 := hb1.upd hu (fun h => hb9.box_apart hb1 (by decide) h)
            replace hb2 := hb2.upd hu (fun h => hb9.box_apart hb2 (by decide) h)
            replace H := Ext.own H hb9 hu; clear hu
            refine RL.nil ?_
            refine AL.p 10 (by kernel_rfl) rfl (bld rfl rfl) rfl ?_
            refine AL.o 11 (by kernel_rfl) rfl ?_
            have hb2_0 := hb2
            refine RL.storeS rfl hb2 rfl rfl rfl rfl ?_
            intro w91 hu hb2
            replace hb12 := hb12.upd hu (fun j hj e => hb12.box_apart hb2_0 (by decide) (e ▸ hj))
            replace H := H.box hu hb2.old; replace hb1 := hb1.upd hu ne1_2
            refine RL.nil ?_
            refine AL.nil (by kernel_rfl) ?_
            refine ⟨⟨m.id, m.epoch, m.part, a12, c12, m.last⟩, Head.intro (by repeat (first | with_reducible exact AgreeOff.refl _ _ | with_reducible exact AgreeOff.mix _ _ _ | refine AgreeOff.look rfl ?_ | refine AgreeOff.mixs rfl ?_)) trivial, H, hb1, hb2, rfl, hb12⟩
          · refine ⟨_, rfl, ?_⟩
            refine RL.appendS rfl hb9 H.size rfl (hl.ext H) rfl rfl (by decide) rfl cell1 (by rw [List.length_nil]; omega) (by rw [List.length_nil]; simp only [maxLen]; omega) rfl ?_
            intro w92 a12 c12 hu hb12 hfr12
            replace hb1 := hb1.upd hu (fun h => hb9.box_apart hb1 (by decide) h)
            replace hb2 := hb2.upd hu (fun h => hb9.box_apart hb2 (by decide) h)
            replace H := Ext.own H hb9 hu; clear hu
            refine RL.nil ?_
            refine AL.m 3 (by kernel_rfl) rfl (ld_box rfl hb1 rfl) rfl ?_
            refine AL.p 10 (by kernel_rfl) rfl (bld rfl rfl) rfl ?_
            refine AL.o 11 (by kernel_rfl) rfl ?_
            have hb2_0 := hb2
            refine RL.storeS rfl hb2 rfl rfl rfl rfl ?_
            intro w93 hu hb2
            replace hb12 := hb12.upd hu (fun j hj e => hb12.box_apart hb2_0 (by decide) (e ▸ hj))
            replace H := H.box hu hb2.old; replace hb1 := hb1.upd hu ne1_2
            refine RL.nil ?_
            refine AL.nil (by kernel_rfl) ?_
            refine ⟨⟨m.id, m.epoch, m.part, a12, c12, m.last⟩, Head.intro (by repeat (first | with_reducible exact AgreeOff.refl _ _ | with_reducible exact AgreeOff.mix _ _ _ | refine AgreeOff.look rfl ?_ | refine AgreeOff.mixs rfl ?_)) trivial, H, hb1, hb2, rfl, hb12⟩
        · refine ⟨_, rfl, ?_⟩
          refine RL.appendS rfl hb9 H.size rfl (hl.ext H) rfl rfl (by decide) rfl cell1 (by rw [List.length_nil]; omega) (by rw [List.length_nil]; simp only [maxLen]; omega) rfl ?_
          intro w94 a12 c12 hu hb12 hfr12
          replace hb1 := hb1.upd hu (fun h => hb9.box_apart hb1 (by decide) h)
          replace hb2 := hb2.upd hu (fun h => hb9.box_apart hb2 (by decide) h)
          replace H := Ext.own H hb9 hu; clear hu
          refine RL.nil ?_
          refine AL.m 3 (by kernel_rfl) rfl (ld_box rfl hb1 rfl) rfl ?_
          refine AL.m 5 (by kernel_rfl) rfl (ldS_box rfl hb1 (Nat.le_of_ble_eq_true rfl) rfl) rfl ?_
          refine AL.p 10 (by kernel_rfl) rfl (bld rfl rfl) rfl ?_
          refine AL.o 11 (by kernel_rfl) rfl ?_
          have hb2_0 := hb2
          refine RL.storeS rfl hb2 rfl rfl rfl rfl ?_
          intro w95 hu hb2
          replace hb12 := hb12.upd hu (fun j hj e => hb12.box_apart hb2_0 (by decide) (e ▸ hj))
          replace H := H.box hu hb2.old; replace hb1 := hb1.upd hu ne1_2
          refine RL.nil ?_
          refine AL.nil (by kernel_rfl) ?_
          refine ⟨⟨m.id, m.epoch, m.part, a12, c12, m.last⟩, Head.intro (by repeat (first | with_reducible exact AgreeOff.refl _ _ | with_reducible exact AgreeOff.mix _ _ _ | refine AgreeOff.look rfl ?_ | refine AgreeOff.mixs rfl ?_)) trivial, H, hb1, hb2, rfl, hb12⟩
      · refine ⟨_, rfl, ?_⟩
        refine RL.m (ld_box rfl hb1 rfl) rfl ?_
        refine RL.nil ?_
        refine AL.all (rs := [1, 5, 9]) (by kernel_rfl) rfl ?_
        rintro i hi; simp only [List.mem_cons, List.not_mem_nil, or_false] at hi; rcases hi with rfl | rfl | rfl
        · refine ⟨_, rfl, ?_⟩
          refine RL.m (ld_box rfl hb1 rfl) rfl ?_
          refine RL.nil ?_
          refine AL.all (rs := [5, 9]) (by kernel_rfl) rfl ?_
          rintro i hi; simp only [List.mem_cons, List.not_mem_nil, or_false] at hi; rcases hi with rfl | rfl
          · refine ⟨_, rfl, ?_⟩
            refine RL.m (ldS_box rfl hb1 (Nat.le_of_ble_eq_true rfl) rfl) rfl ?_
            refine RL.nil ?_
            refine AL.o 9 (by kernel_rfl) rfl ?_
            refine RL.appendS rfl hb9 H.size rfl (hl.ext H) rfl rfl (by decide) rfl cell1 (by rw [List.length_nil]; omega) (by rw [List.length_nil]; simp only [maxLen]; omega) rfl ?_
            intro w96 a12 c12 hu hb12 hfr12
            replace hb1 := hb1.upd hu (fun h => hb9.box_apart hb1 (by decide) h)
            replace hb2 := hb2.upd hu (fun h => hb9.box_apart hb2 (by decide) h)
            replace H := Ext.own H hb9 hu; clear hu
            refine RL.nil ?_
            refine AL.p 10 (by kernel_rfl) rfl (bld rfl rfl) rfl ?_
            refine AL.o 11 (by kernel_rfl) rfl ?_
            have hb2_0 := hb2
            refine RL.storeS rfl hb2 rfl rfl rfl rfl ?_
            intro w97 hu hb2
            replace hb12 := hb12.upd hu (fun j hj e => hb12.box_apart hb2_0 (by decide) (e ▸ hj))
            replace H := H.box hu hb2.old; replace hb1 := hb1.upd hu ne1_2
            refine RL.nil ?_
            refine AL.nil (by kernel_rfl) ?_
            refine ⟨⟨m.id, m.epoch, m.part, a12, c12, m.last⟩, Head.intro (by repeat (first | with_reducible exact AgreeOff.refl _ _ | with_reducible exact AgreeOff.mix _ _ _ | refine AgreeOff.look rfl ?_ | refine AgreeOff.mixs rfl ?_)) trivial, H, hb1, hb2, rfl, hb12⟩
          · refine ⟨_, rfl, ?_⟩
            refine RL.appendS rfl hb9 H.size rfl (hl.ext H) rfl rfl (by decide) rfl cell1 (by rw [List.length_nil]; omega) (by rw [List.length_nil]; simp only [maxLen]; omega) rfl ?_
            intro w98 a12 c12 hu hb12 hfr12
            replace hb1 := hb1.upd hu (fun h => hb9.box_apart hb1 (by decide) h)
            replace hb2 := hb2.upd hu (fun h => hb9.box_apart hb2 (by decide) h)
            replace H := Ext.own H hb9 hu; clear hu
            refine RL.nil ?_
            refine AL.m 5 (by kernel_rfl) rfl (ldS_box rfl hb1 (Nat.le_of_ble_eq_true rfl) rfl) rfl ?_
            refine AL.p 10 (by kernel_rfl) rfl (bld rfl rfl) rfl ?_
            refine AL.o 11 (by kernel_rfl) rfl ?_
            have hb2_0 := hb2
            refine RL.storeS rfl hb2 rfl rfl rfl rfl ?_
            intro w99 hu hb2
            replace hb12 := hb12.upd hu (fun j hj e => hb12.box_apart hb2_0 (by decide) (e ▸ hj))
            replace H := H.box hu hb2.old; replace hb1 := hb1.upd hu ne1_2
            refine RL.nil ?_
            refine AL.nil (by kernel_rfl) ?_
            refine ⟨⟨m.id, m.epoch, m.part, a12, c12, m.last⟩, Head.intro (by repeat (first | with_reducible exact AgreeOff.refl _ _ | with_reducible exact AgreeOff.mix _ _ _ | refine AgreeOff.look rfl ?_ | refine AgreeOff.mixs rfl ?_)) trivial, H, hb1, hb2, rfl, hb12⟩
        · refine ⟨_, rfl, ?_⟩
          refine RL.m (ldS_box rfl hb1 (Nat.le_of_ble_eq_true rfl) rfl) rfl ?_
          refine RL.nil ?_
          refine AL.all (rs := [1, 9]) (by kernel_rfl) rfl ?_
          rintro i hi; simp only [List.mem_cons, List.not_mem_nil, or_false] at hi; rcases hi with rfl | rfl
          · refine ⟨_, rfl, ?_⟩
            refine RL.m (ld_box rfl hb1 rfl) rfl ?_
            refine RL.nil ?_
            refine AL.o 9 (by kernel_rfl) rfl ?_
            refine RL.appendS rfl hb9 H.size rfl (hl.ext H) rfl rfl (by decide) rfl cell1 (by rw [List.length_nil]; omega) (by rw [List.length_nil]; simp only [maxLen]; omega) rfl ?_
            intro w100 a12 c12 hu hb12 hfr12
            replace hb1 := hb1.upd hu (fun h => hb9.box_apart hb1 (by decide) h)
            replace hb2 := hb2.upd hu (fun h => hb9.box_apart hb2 (by decide) h)
            replace H := Ext.own H hb9 hu; clear hu
            refine RL.nil ?_
            refine AL.p 10 (by kernel_rfl) rfl (bld rfl rfl) rfl ?_
            refine AL.o 11 (by kernel_rfl) rfl ?_
            have hb2_0 := hb2
            refine RL.storeS rfl hb2 rfl rfl rfl rfl ?_
            intro w101 hu hb2
            replace hb12 := hb12.upd hu (fun j hj e => hb12.box_apart hb2_0 (by decide) (e ▸ hj))
            replace H := H.box hu hb2.old; replace hb1 := hb1.upd hu ne1_2
            refine RL.nil ?_
            refine AL.nil (by kernel_rfl) ?_
            refine ⟨⟨m.id, m.epoch, m.part, a12, c12, m.last⟩, Head.intro (by repeat (first | with_reducible exact AgreeOff.refl _ _ | with_reducible exact AgreeOff.mix _ _ _ | refine AgreeOff.look rfl ?_ | refine AgreeOff.mixs rfl ?_)) trivial, H, hb1, hb2, rfl, hb12⟩
          · refine ⟨_, rfl, ?_⟩
            refine RL.appendS rfl hb9 H.size rfl (hl.ext H) rfl rfl (by decide) rfl cell1 (by rw [List.length_nil]; omega) (by rw [List.length_nil]; simp only [maxLen]; omega) rfl ?_
            intro w102 a12 c12 hu hb12 hfr12
            replace hb1 := hb1.upd hu (fun h => hb9.box_apart hb1 (by decide) h)
            replace hb2 := hb2.upd hu (fun h => hb9.box_apart hb2 (by decide) h)
            replace H := Ext.own H hb9 hu; clear hu
            refine RL.nil ?_
            refine AL.m 1 (by kernel_rfl) rfl (ld_box rfl hb1 rfl) rfl ?_
            refine AL.p 10 (by kernel_rfl) rfl (bld rfl rfl) rfl ?_
            refine AL.o 11 (by kernel_rfl) rfl ?_
            have hb2_0 := hb2
            refine RL.storeS rfl hb2 rfl rfl rfl rfl ?_
            intro w103 hu hb2
            replace hb12 := hb12.upd hu (fun j hj e => hb12.box_apart hb2_0 (by decide) (e ▸ hj))
            replace H := H.box hu hb2.old; replace hb1 := hb1.upd hu ne1_2
            refine RL.nil ?_
            refine AL.nil (by kernel_rfl) ?_
            refine ⟨⟨m.id, m.epoch, m.part, a12, c12, m.last⟩, Head.intro (by repeat (first | with_reducible exact AgreeOff.refl _ _ | with_reducible exact AgreeOff.mix _ _ _ | refine AgreeOff.look rfl ?_ | refine AgreeOff.mixs rfl ?_)) trivial, H, hb1, hb2, rfl, hb12⟩
        · refine ⟨_, rfl, ?_⟩
          refine RL.appendS rfl hb9 H.size rfl (hl.ext H) rfl rfl (by decide) rfl cell1 (by rw [List.length_nil]; omega) (by rw [List.length_nil]; simp only [maxLen]; omega) rfl ?_
          intro w104 a12 c12 hu hb12 hfr12
          replace hb1 := hb1.upd hu (fun h => hb9.box_apart hb1 (by decide) h)
          replace hb2 := hb2.upd hu (fun h => hb9.box_apart hb2 (by decide) h)
          replace H := Ext.own H hb9 hu; clear hu
          refine RL.nil ?_
          refine AL.m 1 (by kernel_rfl) rfl (ld_box rfl hb1 rfl) rfl ?_
          refine AL.m 5 (by kernel_rfl) rfl (ldS_box rfl hb1 (Nat.le_of_ble_eq_true rfl) rfl) rfl ?_
          refine AL.p 10 (by kernel_rfl) rfl (bld rfl rfl) rfl ?_
          refine AL.o 11 (by kernel_rfl) rfl ?_
          have hb2_0 := hb2
          refine RL.storeS rfl hb2 rfl rfl rfl rfl ?_
          intro w105 hu hb2
          replace hb12 := hb12.upd hu (fun j hj e => hb12.box_apart hb2_0 (by decide) (e ▸ hj))
          replace H := H.box hu hb2.old; replace hb1 := hb1.upd hu ne1_2
          refine RL.nil ?_
          refine AL.nil (by kernel_rfl) ?_
          refine ⟨⟨m.id, m.epoch, m.part, a12, c12, m.last⟩, Head.intro (by repeat (first | with_reducible exact AgreeOff.refl _ _ | with_reducible exact AgreeOff.mix _ _ _ | refine AgreeOff.look rfl ?_ | refine AgreeOff.mixs rfl ?_)) trivial, H, hb1, hb2, rfl, hb12⟩
      · refine ⟨_, rfl, ?_⟩
        refine RL.m (ldS_box rfl hb1 (Nat.le_of_ble_eq_true rfl) rfl) rfl ?_
        refine RL.nil ?_
        refine AL.all (rs := [1, 3, 9]) (by kernel_rfl) rfl ?_
        rintro i hi; simp only [List.mem_cons, List.not_mem_nil, or_false] at hi; rcases hi with rfl | rfl | rfl
        · refine ⟨_, rfl, ?_⟩
          refine RL.m (ld_box rfl hb1 rfl) rfl ?_
          refine RL.nil ?_
          refine AL.all (rs := [3, 9]) (by kernel_rfl) rfl ?_
          rintro i hi; simp only [List.mem_cons, List.not_mem_nil, or_false] at hi; rcases hi with rfl | rfl
          · refine ⟨_, rfl, ?_⟩
            refine RL.m (ld_box rfl hb1 rfl) rfl ?_
            refine RL.nil ?_
            refine AL.o 9 (by kernel_rfl) rfl ?_
            refine RL.appendS rfl hb9 H.size rfl (hl.ext H) rfl rfl (by decide) rfl cell1 (by rw [List.length_nil]; omega) (by rw [List.length_nil]; simp only [maxLen]; omega) rfl ?_
            intro w106 a12 c12 hu hb12 hfr12
            replace hb1 := hb1.upd hu (fun h => hb9.box_apart hb1 (by decide) h)
            replace hb2 := hb2.upd hu (fun h => hb9.box_apart hb2 (by decide) h)
            replace H := Ext.own H hb9 hu; clear hu
            refine RL.nil ?_
            refine AL.p 10 (by kernel_rfl) rfl (bld rfl rfl) rfl ?_
            refine AL.o 11 (by kernel_rfl) rfl ?_
            have hb2_0 := hb2
            refine RL.storeS rfl hb2 rfl rfl rfl rfl ?_
            intro w107 hu hb2
            replace hb12 := hb12.upd hu (fun j hj e => hb12.box_apart hb2_0 (by decide) (e ▸ hj))
            replace H := H.box hu hb2.old; replace hb1 := hb1.upd hu ne1_2
            refine RL.nil ?_
            refine AL.nil (by kernel_rfl) ?_
            refine ⟨⟨m.id, m.epoch, m.part, a12, c12, m.last⟩, Head.intro (by repeat (first | with_reducible exact AgreeOff.refl _ _ | with_reducible exact AgreeOff.mix _ _ _ | refine AgreeOff.look rfl ?_ | refine AgreeOff.mixs rfl ?_)) trivial, H, hb1, hb2, rfl, hb12⟩
          · refine ⟨_, rfl, ?_⟩
            refine RL.appendS rfl hb9 H.size rfl (hl.ext H) rfl rfl (by decide) rfl cell1 (by rw [List.length_nil]; omega) (by rw [List.length_nil]; simp only [maxLen]; omega) rfl ?_
            intro w108 a12 c12 hu hb12 hfr12
            replace hb1 := hb1.upd hu (fun h => hb9.box_apart hb1 (by decide) h)
            replace hb2 := hb2.upd hu (fun h => hb9.box_apart hb2 (by decide) h)
            replace H := Ext.own H hb9 hu; clear hu
            refine RL.nil ?_
            refine AL.m 3 (by kernel_rfl) rfl (ld_box rfl hb1 rfl) rfl ?_
            refine AL.p 10 (by kernel_rfl) rfl (bld rfl rfl) rfl ?_
            refine AL.o 11 (by kernel_rfl) rfl ?_
            have hb2_0 := hb2
            refine RL.storeS rfl hb2 rfl rfl rfl rfl ?_
            intro w109 hu hb2
            replace hb12 := hb12.upd hu (fun j hj e => hb12.box_apart hb2_0 (by decide) (e ▸ hj))
            replace H := H.box hu hb2.old; replace hb1 := hb1.upd hu ne1_2
            refine RL.nil ?_
            refine AL.nil (by kernel_rfl) ?_
            refine ⟨⟨m.id, m.epoch, m.part, a12, c12, m.last⟩, Head.intro (by repeat (first | with_reducible exact AgreeOff.refl _ _ | with_reducible exact AgreeOff.mix _ _ _ | refine AgreeOff.look rfl ?_ | refine AgreeOff.mixs rfl ?_)) trivial, H, hb1, hb2, rfl, hb12⟩
        · refine ⟨_, rfl, ?_⟩
          refine RL.m (ld_box rfl hb1 rfl) rfl ?_
          refine RL.nil ?_
          refine AL.all (rs := [1, 9]) (by kernel_rfl) rfl ?_
          rintro i hi; simp only [List.mem_cons, List.not_mem_nil, or_false] at hi; rcases hi with rfl | rfl
          · refine ⟨_, rfl, ?_⟩
            refine RL.m (ld_box rfl hb1 rfl) rfl ?_
            refine RL.nil ?_
            refine AL.o 9 (by kernel_rfl) rfl ?_
            refine RL.appendS rfl hb9 H.size rfl (hl.ext H) rfl rfl (by decide) rfl cell1 (by rw [List.length_nil]; omega) (by rw [List.length_nil]; simp only [maxLen]; omega) rfl ?_
            intro w110 a12 c12 hu hb12 hfr12
            replace hb1 := hb1.upd hu (fun h => hb9.box_apart hb1 (by decide) h)
            replace hb2 := hb2.upd hu (fun h => hb9.box_apart hb2 (by decide) h)
            replace H := Ext.own H hb9 hu; clear hu
            refine RL.nil ?_
            refine AL.p 10 (by kernel_rfl) rfl (bld rfl rfl) rfl ?_
            refine AL.o 11 (by kernel_rfl) rfl ?_
            have hb2_0 := hb2
            refine RL.storeS rfl hb2 rfl rfl rfl rfl ?_
            intro w111 hu hb2
            replace hb12 := hb12.upd hu (fun j hj e => hb12.box_apart hb2_0 (by decide) (e ▸ hj))
            replace H := H.box hu hb2.old; replace hb1 := hb1.upd hu ne1_2
            refine RL.nil ?_
            refine AL.nil (by kernel_rfl) ?_
            refine ⟨⟨m.id, m.epoch, m.part, a12, c12, m.last⟩, Head.intro (by repeat (first | with_reducible exact AgreeOff.refl _ _ | with_reducible exact AgreeOff.mix _ _ _ | refine AgreeOff.look rfl ?_ | refine AgreeOff.mixs rfl ?_)) trivial, H, hb1, hb2, rfl, hb12⟩
          · refine ⟨_, rfl, ?_⟩
            refine RL.appendS rfl hb9 H.size rfl (hl.ext H) rfl rfl (by decide) rfl cell1 (by rw [List.length_nil]; omega) (by rw [List.length_nil]; simp only [maxLen]; omega) rfl ?_
            intro w112 a12 c12 hu hb12 hfr12
            replace hb1 := hb1.upd hu (fun h => hb9.box_apart hb1 (by decide) h)
            replace hb2 := hb2.upd hu (fun h => hb9.box_apart hb2 (by decide) h)
            replace H := Ext.own H hb9 hu; clear hu
            refine RL.nil ?_
            refine AL.m 1 (by kernel_rfl) rfl (ld_box rfl hb1 rfl) rfl ?_
            refine AL.p 10 (by kernel_rfl) rfl (bld rfl rfl) rfl ?_
            refine AL.o 11 (by kernel_rfl) rfl ?_
            have hb2_0 := hb2
            refine RL.storeS rfl hb2 rfl rfl rfl rfl ?_
            intro w113 hu hb2
            replace hb12 := hb12.upd hu (fun j hj e => hb12.box_apart hb2_0 (by decide) (e ▸ hj))
            replace H := H.box hu hb2.old; replace hb1 := hb1.upd hu ne1_2
            refine RL.nil ?_
            refine AL.nil (by kernel_rfl) ?_
            refine ⟨⟨m.id, m.epoch, m.part, a12, c12, m.last⟩, Head.intro (by repeat (first | with_reducible exact AgreeOff.refl _ _ | with_reducible exact AgreeOff.mix _ _ _ | refine AgreeOff.look rfl ?_ | refine AgreeOff.mixs rfl ?_)) trivial, H, hb1, hb2, rfl, hb12⟩
        · refine ⟨_, rfl, ?_⟩
          refine RL.appendS rfl hb9 H.size rfl (hl.ext H) rfl rfl (by decide) rfl cell1 (by rw [List.length_nil]; omega) (by rw [List.length_nil]; simp only [maxLen]; omega) rfl ?_
          intro w114 a12 c12 hu hb12 hfr12
          replace hb1 := hb1.upd hu (fun h => hb9.box_apart hb1 (by decide) h)
          replace hb2 := hb2.upd hu (fun h => hb9.box_apart hb2 (by decide) h)
          replace H := Ext.own H hb9 hu; clear hu
          refine RL.nil ?_
          refine AL.m 1 (by kernel_rfl) rfl (ld_box rfl hb1 rfl) rfl ?_
          refine AL.m 3 (by kernel_rfl) rfl (ld_box rfl hb1 rfl) rfl ?_
          refine AL.p 10 (by kernel_rfl) rfl (bld rfl rfl) rfl ?_
          refine AL.o 11 (by kernel_rfl) rfl ?_
          have hb2_0 := hb2
          refine RL.storeS rfl hb2 rfl rfl rfl rfl ?_
          intro w115 hu hb2
          replace hb12 := hb12.upd hu (fun j hj e => hb12.box_apart hb2_0 (by decide) (e ▸ hj))
          replace H := H.box hu hb2.old; replace hb1 := hb1.upd hu ne1_2
          refine RL.nil ?_
          refine AL.nil (by kernel_rfl) ?_
          refine ⟨⟨m.id, m.epoch, m.part, a12, c12, m.last⟩, Head.intro (by repeat (first | with_reducible exact AgreeOff.refl _ _ | with_reducible exact AgreeOff.mix _ _ _ | refine AgreeOff.look rfl ?_ | refine AgreeOff.mixs rfl ?_)) trivial, H, hb1, hb2, rfl, hb12⟩
      · refine ⟨_, rfl, ?_⟩
        refine RL.appendS rfl hb9 H.size rfl (hl.ext H) rfl rfl (by decide) rfl cell1 (by rw [List.length_nil]; omega) (by rw [List.length_nil]; simp only [maxLen]; omega) rfl ?_
        intro w116 a12 c12 hu hb12 hfr12
        replace hb1 := hb1.upd hu (fun h => hb9.box_apart hb1 (by decide) h)
        replace hb2 := hb2.upd hu (fun h => hb9.box_apart hb2 (by decide) h)
        replace H := Ext.own H hb9 hu; clear hu
        refine RL.nil ?_
        refine AL.m 1 (by kernel_rfl) rfl (ld_box rfl hb1 rfl) rfl ?_
        refine AL.m 3 (by kernel_rfl) rfl (ld_box rfl hb1 rfl) rfl ?_
        refine AL.m 5 (by kernel_rfl) rfl (ldS_box rfl hb1 (Nat.le_of_ble_eq_true rfl) rfl) rfl ?_
        refine AL.p 10 (by kernel_rfl) rfl (bld rfl rfl) rfl ?_
        refine AL.o 11 (by kernel_rfl) rfl ?_
        have hb2_0 := hb2
        refine RL.storeS rfl hb2 rfl rfl rfl rfl ?_
        intro w117 hu hb2
        replace hb12 := hb12.upd hu (fun j hj e => hb12.box_apart hb2_0 (by decide) (e ▸ hj))
        replace H := H.box hu hb2.old; replace hb1 := hb1.upd hu ne1_2
        refine RL.nil ?_
        refine AL.nil (by kernel_rfl) ?_
        refine ⟨⟨m.id, m.epoch, m.part, a12, c12, m.last⟩, Head.intro (by repeat (first | with_reducible exact AgreeOff.refl _ _ | with_reducible exact AgreeOff.mix _ _ _ | refine AgreeOff.look rfl ?_ | refine AgreeOff.mixs rfl ?_)) trivial, H, hb1, hb2, rfl, hb12⟩
  rintro s2 jc w118 ⟨H, hb1, hb2, hss, hO⟩
  refine WP.ret ?_
  refine finC_ret rfl hb2 ⟨⟨_, rfl, rfl⟩, ⟨⟨s2, rfl, hss, hO⟩, H⟩⟩
end Go.Proofs.Ytbggmjnhfacjpaa
