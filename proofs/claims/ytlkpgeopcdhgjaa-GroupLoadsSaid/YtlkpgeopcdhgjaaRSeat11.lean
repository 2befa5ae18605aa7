/-
  The document's seats: another one.
-/
import Derived.Test.YtlkpgeopcdhgjaaFix11b
set_option linter.unusedVariables false
namespace Go.Proofs.Ytlkpgeopcdhgjaa
open Go Go.Eng Go.RowKit
set_option maxHeartbeats 6400000 in
theorem rSeat (w0 : World) (s : Seat) (hl : Sl w0 s.ta s.topics) (hlen : s.topics.length ≤ 100000) :
    Ct Try.prog 51 #[.agg (Lies.enc s).toArray] w0 fun v w' => (∃ s' : Seat, v = .agg (Lies.enc s').toArray ∧ s'.st = s.st ∧ Own w0.heap.size w' 9 s'.ta s'.tc s'.topics) ∧ Ext w0 w' := by
  refine Ct.introC Try.func51 Try.ntmps51 rfl rfl (by decide) rfl ?_
  have H : Ext w0 w0 := Ext.refl w0
  refine WP.regionS ?_
  refine RL.boxS w0.heap.size H.size rfl rfl ?_
  intro w1 i1 hi1 hx hb1
  replace H := H.ext hx; clear hx
  refine RL.alloc w0.heap.size H.size rfl rfl ?_
  intro w2 i2 hi2 hx hb2
  have ne1_2 := hb1.ne hi2
  replace H := H.ext hx; replace hb1 := hb1.ext hx; clear hx
  refine RL.nil ?_
  refine WP.seq ?_
  refine WP.cutN (α := Seat) [3, 4, 5, 6, 7, 8, 9, 10, 11, 12, 13, 14, 15, 16] (fun x => []) (fun x w' => Ext w0 w' ∧ Box w0.heap.size w' i1 31 (Lies.enc s) ∧ Box w0.heap.size w' i2 31 (Lies.enc x) ∧ x.st = s.st ∧ Own w0.heap.size w' 9 x.ta x.tc x.topics) ?_ ?_
  · refine WP.any ?_
    intro w3 hx; replace H := H.ext hx; replace hb1 := hb1.ext hx; replace hb2 := hb2.ext hx
    refine AL.p 0 (by kernel_rfl) rfl (fa_box rfl) rfl ?_
    refine AL.p 1 (by kernel_rfl) rfl (fa_box rfl) rfl ?_
    refine AL.p 4 (by kernel_rfl) rfl (fa_box rfl) rfl ?_
    refine AL.p 5 (by kernel_rfl) rfl (fa_box rfl) rfl ?_
    refine AL.p 9 (by kernel_rfl) rfl (fa_box rfl) rfl ?_
    refine AL.p 11 (by kernel_rfl) rfl (fa_box rfl) rfl ?_
    refine AL.m 6 (by kernel_rfl) rfl (ld_box rfl hb1 rfl) rfl ?_
    refine AL.all (rs := [2, 3, 10, 12]) (by kernel_rfl) rfl ?_
    rintro i hi; simp only [List.mem_cons, List.not_mem_nil, or_false] at hi; rcases hi with rfl | rfl | rfl | rfl
    · refine ⟨_, rfl, ?_⟩
      refine RL.m (ld_box rfl hb1 rfl) rfl ?_
      refine RL.nil ?_
      refine AL.all (rs := [3, 10, 12]) (by kernel_rfl) rfl ?_
      rintro i hi; simp only [List.mem_cons, List.not_mem_nil, or_false] at hi; rcases hi with rfl | rfl | rfl
      · refine ⟨_, rfl, ?_⟩
        refine RL.build0 (α := ByteArray) w0.heap.size H.size rfl ?_
        intro w4 i6 hi6 hx hb6
        replace H := H.ext hx; replace hb1 := hb1.ext hx; replace hb2 := hb2.ext hx; clear hx
        refine RL.nil ?_
        refine AL.all (rs := [7, 10, 12]) (by kernel_rfl) rfl ?_
        rintro i hi; simp only [List.mem_cons, List.not_mem_nil, or_false] at hi; rcases hi with rfl | rfl | rfl
        · refine ⟨_, rfl, ?_⟩
          refine RL.appendS rfl hb6 H.size rfl (hl.ext H) rfl rfl (by decide) rfl cell1 (by rw [List.length_nil]; omega) (by rw [List.length_nil]; simp only [maxLen]; omega) rfl ?_
          intro w5 a10 c10 hu hb10 hfr10
          replace hb1 := hb1.upd hu (fun h => hb6.box_apart hb1 (by decide) h)
          replace hb2 := hb2.upd hu (fun h => hb6.box_apart hb2 (by decide) h)
          replace H := Ext.own H hb6 hu; clear hu
          refine RL.nil ?_
          refine AL.p 8 (by kernel_rfl) rfl (bld rfl rfl) rfl ?_
          refine AL.m 10 (by kernel_rfl) rfl (ld_box rfl hb1 rfl) rfl ?_
          refine AL.m 12 (by kernel_rfl) rfl (ld_box rfl hb1 rfl) rfl ?_
          refine AL.p 13 (by kernel_rfl) rfl (bld rfl rfl) rfl ?_
          refine AL.o 14 (by kernel_rfl) rfl ?_
          have hb2_0 := hb2
          refine RL.storeS rfl hb2 rfl rfl rfl rfl ?_
          intro w6 hu hb2
          replace hb10 := hb10.upd hu (fun j hj e => hb10.box_apart hb2_0 (by decide) (e ▸ hj))
          replace H := H.box hu hb2.old; replace hb1 := hb1.upd hu ne1_2
          refine RL.nil ?_
          refine AL.nil (by kernel_rfl) ?_
          refine ⟨⟨s.name, a10, c10, s.topics, s.timeout, s.seen⟩, Head.intro (by repeat (first | with_reducible exact AgreeOff.refl _ _ | with_reducible exact AgreeOff.mix _ _ _ | refine AgreeOff.look rfl ?_ | refine AgreeOff.mixs rfl ?_)) trivial, H, hb1, hb2, rfl, hb10⟩
        · refine ⟨_, rfl, ?_⟩
          refine RL.m (ld_box rfl hb1 rfl) rfl ?_
          refine RL.nil ?_
          refine AL.all (rs := [7, 12]) (by kernel_rfl) rfl ?_
          rintro i hi; simp only [List.mem_cons, List.not_mem_nil, or_false] at hi; rcases hi with rfl | rfl
          · refine ⟨_, rfl, ?_⟩
            refine RL.appendS rfl hb6 H.size rfl (hl.ext H) rfl rfl (by decide) rfl cell1 (by rw [List.length_nil]; omega) (by rw [List.length_nil]; simp only [maxLen]; omega) rfl ?_
            intro w7 a10 c10 hu hb10 hfr10
            replace hb1 := hb1.upd hu (fun h => hb6.box_apart hb1 (by decide) h)
            replace hb2 := hb2.upd hu (fun h => hb6.box_apart hb2 (by decide) h)
            replace H := Ext.own H hb6 hu; clear hu
            refine RL.nil ?_
            refine AL.p 8 (by kernel_rfl) rfl (bld rfl rfl) rfl ?_
            refine AL.m 12 (by kernel_rfl) rfl (ld_box rfl hb1 rfl) rfl ?_
            refine AL.p 13 (by kernel_rfl) rfl (bld rfl rfl) rfl ?_
            refine AL.o 14 (by kernel_rfl) rfl ?_
            have hb2_0 := hb2
            refine RL.storeS rfl hb2 rfl rfl rfl rfl ?_
            intro w8 hu hb2
            replace hb10 := hb10.upd hu (fun j hj e => hb10.box_apart hb2_0 (by decide) (e ▸ hj))
            replace H := H.box hu hb2.old; replace hb1 := hb1.upd hu ne1_2
            refine RL.nil ?_
            refine AL.nil (by kernel_rfl) ?_
            refine ⟨⟨s.name, a10, c10, s.topics, s.timeout, s.seen⟩, Head.intro (by repeat (first | with_reducible exact AgreeOff.refl _ _ | with_reducible exact AgreeOff.mix _ _ _ | refine AgreeOff.look rfl ?_ | refine AgreeOff.mixs rfl ?_)) trivial, H, hb1, hb2, rfl, hb10⟩
          · refine ⟨_, rfl, ?_⟩
            refine RL.m (ld_box rfl hb1 rfl) rfl ?_
            refine RL.nil ?_
            refine AL.o 7 (by kernel_rfl) rfl ?_
            refine RL.appendS rfl hb6 H.size rfl (hl.ext H) rfl rfl (by decide) rfl cell1 (by rw [List.length_nil]; omega) (by rw [List.length_nil]; simp only [maxLen]; omega) rfl ?_
            intro w9 a10 c10 hu hb10 hfr10
            replace hb1 := hb1.upd hu (fun h => hb6.box_apart hb1 (by decide) h)
            replace hb2 := hb2.upd hu (fun h => hb6.box_apart hb2 (by decide) h)
            replace H := Ext.own H hb6 hu; clear hu
            refine RL.nil ?_
            refine AL.p 8 (by kernel_rfl) rfl (bld rfl rfl) rfl ?_
            refine AL.p 13 (by kernel_rfl) rfl (bld rfl rfl) rfl ?_
            refine AL.o 14 (by kernel_rfl) rfl ?_
            have hb2_0 := hb2
            refine RL.storeS rfl hb2 rfl rfl rfl rfl ?_
            intro w10 hu hb2
            replace hb10 := hb10.upd hu (fun j hj e => hb10.box_apart hb2_0 (by decide) (e ▸ hj))
            replace H := H.box hu hb2.old; replace hb1 := hb1.upd hu ne1_2
            refine RL.nil ?_
            refine AL.nil (by kernel_rfl) ?_
            refine ⟨⟨s.name, a10, c10, s.topics, s.timeout, s.seen⟩, Head.intro (by repeat (first | with_reducible exact AgreeOff.refl _ _ | with_reducible exact AgreeOff.mix _ _ _ | refine AgreeOff.look rfl ?_ | refine AgreeOff.mixs rfl ?_)) trivial, H, hb1, hb2, rfl, hb10⟩
        · refine ⟨_, rfl, ?_⟩
          refine RL.m (ld_box rfl hb1 rfl) rfl ?_
          refine RL.nil ?_
          refine AL.all (rs := [7, 10]) (by kernel_rfl) rfl ?_
          rintro i hi; simp only [List.mem_cons, List.not_mem_nil, or_false] at hi; rcases hi with rfl | rfl
          · refine ⟨_, rfl, ?_⟩
            refine RL.appendS rfl hb6 H.size rfl (hl.ext H) rfl rfl (by decide) rfl cell1 (by rw [List.length_nil]; omega) (by rw [List.length_nil]; simp only [maxLen]; omega) rfl ?_
            intro w11 a10 c10 hu hb10 hfr10
            replace hb1 := hb1.upd hu (fun h => hb6.box_apart hb1 (by decide) h)
            replace hb2 := hb2.upd hu (fun h => hb6.box_apart hb2 (by decide) h)
            replace H := Ext.own H hb6 hu; clear hu
            refine RL.nil ?_
            refine AL.p 8 (by kernel_rfl) rfl (bld rfl rfl) rfl ?_
            refine AL.m 10 (by kernel_rfl) rfl (ld_box rfl hb1 rfl) rfl ?_
            refine AL.p 13 (by kernel_rfl) rfl (bld rfl rfl) rfl ?_
            refine AL.o 14 (by kernel_rfl) rfl ?_
            have hb2_0 := hb2
            refine RL.storeS rfl hb2 rfl rfl rfl rfl ?_
            intro w12 hu hb2
            replace hb10 := hb10.upd hu (fun j hj e => hb10.box_apart hb2_0 (by decide) (e ▸ hj))
            replace H := H.box hu hb2.old; replace hb1 := hb1.upd hu ne1_2
            refine RL.nil ?_
            refine AL.nil (by kernel_rfl) ?_
            refine ⟨⟨s.name, a10, c10, s.topics, s.timeout, s.seen⟩, Head.intro (by repeat (first | with_reducible exact AgreeOff.refl _ _ | with_reducible exact AgreeOff.mix _ _ _ | refine AgreeOff.look rfl ?_ | refine AgreeOff.mixs rfl ?_)) trivial, H, hb1, hb2, rfl, hb10⟩
          · refine ⟨_, rfl, ?_⟩
            refine RL.m (ld_box rfl hb1 rfl) rfl ?_
            refine RL.nil ?_
            refine AL.o 7 (by kernel_rfl) rfl ?_
            refine RL.appendS rfl hb6 H.size rfl (hl.ext H) rfl rfl (by decide) rfl cell1 (by rw [List.length_nil]; omega) (by rw [List.length_nil]; simp only [maxLen]; omega) rfl ?_
            intro w13 a10 c10 hu hb10 hfr10
            replace hb1 := hb1.upd hu (fun h => hb6.box_apart hb1 (by decide) h)
            replace hb2 := hb2.upd hu (fun h => hb6.box_apart hb2 (by decide) h)
            replace H := Ext.own H hb6 hu; clear hu
            refine RL.nil ?_
            refine AL.p 8 (by kernel_rfl) rfl (bld rfl rfl) rfl ?_
            refine AL.p 13 (by kernel_rfl) rfl (bld rfl rfl) rfl ?_
            refine AL.o 14 (by kernel_rfl) rfl ?_
            have hb2_0 := hb2
            refine RL.storeS rfl hb2 rfl rfl rfl rfl ?_
            intro w14 hu hb2
            replace hb10 := hb10.upd hu (fun j hj e => hb10.box_apart hb2_0 (by decide) (e ▸ hj))
            replace H := H.box hu hb2.old; replace hb1 := hb1.upd hu ne1_2
            refine RL.nil ?_
            refine AL.nil (by kernel_rfl) ?_
            refine ⟨⟨s.name, a10, c10, s.topics, s.timeout, s.seen⟩, Head.intro (by repeat (first | with_reducible exact AgreeOff.refl _ _ | with_reducible exact AgreeOff.mix _ _ _ | refine AgreeOff.look rfl ?_ | refine AgreeOff.mixs rfl ?_)) trivial, H, hb1, hb2, rfl, hb10⟩
      · refine ⟨_, rfl, ?_⟩
        refine RL.m (ld_box rfl hb1 rfl) rfl ?_
        refine RL.nil ?_
        refine AL.all (rs := [3, 12]) (by kernel_rfl) rfl ?_
        rintro i hi; simp only [List.mem_cons, List.not_mem_nil, or_false] at hi; rcases hi with rfl | rfl
        · refine ⟨_, rfl, ?_⟩
          refine RL.build0 (α := ByteArray) w0.heap.size H.size rfl ?_
          intro w15 i6 hi6 hx hb6
          replace H := H.ext hx; replace hb1 := hb1.ext hx; replace hb2 := hb2.ext hx; clear hx
          refine RL.nil ?_
          refine AL.all (rs := [7, 12]) (by kernel_rfl) rfl ?_
          rintro i hi; simp only [List.mem_cons, List.not_mem_nil, or_false] at hi; rcases hi with rfl | rfl
          · refine ⟨_, rfl, ?_⟩
            refine RL.appendS rfl hb6 H.size rfl (hl.ext H) rfl rfl (by decide) rfl cell1 (by rw [List.length_nil]; omega) (by rw [List.length_nil]; simp only [maxLen]; omega) rfl ?_
            intro w16 a10 c10 hu hb10 hfr10
            replace hb1 := hb1.upd hu (fun h => hb6.box_apart hb1 (by decide) h)
            replace hb2 := hb2.upd hu (fun h => hb6.box_apart hb2 (by decide) h)
            replace H := Ext.own H hb6 hu; clear hu
            refine RL.nil ?_
            refine AL.p 8 (by kernel_rfl) rfl (bld rfl rfl) rfl ?_
            refine AL.m 12 (by kernel_rfl) rfl (ld_box rfl hb1 rfl) rfl ?_
            refine AL.p 13 (by kernel_rfl) rfl (bld rfl rfl) rfl ?_
            refine AL.o 14 (by kernel_rfl) rfl ?_
            have hb2_0 := hb2
            refine RL.storeS rfl hb2 rfl rfl rfl rfl ?_
            intro w17 hu hb2
            replace hb10 := hb10.upd hu (fun j hj e => hb10.box_apart hb2_0 (by decide) (e ▸ hj))
            replace H := H.box hu hb2.old; replace hb1 := hb1.upd hu ne1_2
            refine RL.nil ?_
            refine AL.nil (by kernel_rfl) ?_
            refine ⟨⟨s.name, a10, c10, s.topics, s.timeout, s.seen⟩, Head.intro (by repeat (first | with_reducible exact AgreeOff.refl _ _ | with_reducible exact AgreeOff.mix _ _ _ | refine AgreeOff.look rfl ?_ | refine AgreeOff.mixs rfl ?_)) trivial, H, hb1, hb2, rfl, hb10⟩
          · refine ⟨_, rfl, ?_⟩
            refine RL.m (ld_box rfl hb1 rfl) rfl ?_
            refine RL.nil ?_
            refine AL.o 7 (by kernel_rfl) rfl ?_
            refine RL.appendS rfl hb6 H.size rfl (hl.ext H) rfl rfl (by decide) rfl cell1 (by rw [List.length_nil]; omega) (by rw [List.length_nil]; simp only [maxLen]; omega) rfl ?_
            intro w18 a10 c10 hu hb10 hfr10
            replace hb1 := hb1.upd hu (fun h => hb6.box_apart hb1 (by decide) h)
            replace hb2 := hb2.upd hu (fun h => hb6.box_apart hb2 (by decide) h)
            replace H := Ext.own H hb6 hu; clear hu
            refine RL.nil ?_
            refine AL.p 8 (by kernel_rfl) rfl (bld rfl rfl) rfl ?_
            refine AL.p 13 (by kernel_rfl) rfl (bld rfl rfl) rfl ?_
            refine AL.o 14 (by kernel_rfl) rfl ?_
            have hb2_0 := hb2
            refine RL.storeS rfl hb2 rfl rfl rfl rfl ?_
            intro w19 hu hb2
            replace hb10 := hb10.upd hu (fun j hj e => hb10.box_apart hb2_0 (by decide) (e ▸ hj))
            replace H := H.box hu hb2.old; replace hb1 := hb1.upd hu ne1_2
            refine RL.nil ?_
            refine AL.nil (by kernel_rfl) ?_
            refine ⟨⟨s.name, a10, c10, s.topics, s.timeout, s.seen⟩, Head.intro (by repeat (first | with_reducible exact AgreeOff.refl _ _ | with_reducible exact AgreeOff.mix _ _ _ | refine AgreeOff.look rfl ?_ | refine AgreeOff.mixs rfl ?_)) trivial, H, hb1, hb2, rfl, hb10⟩
        · refine ⟨_, rfl, ?_⟩
          refine RL.m (ld_box rfl hb1 rfl) rfl ?_
          refine RL.nil ?_
          refine AL.o 3 (by kernel_rfl) rfl ?_
          refine RL.build0 (α := ByteArray) w0.heap.size H.size rfl ?_
          intro w20 i6 hi6 hx hb6
          replace H := H.ext hx; replace hb1 := hb1.ext hx; replace hb2 := hb2.ext hx; clear hx
          refine RL.nil ?_
          refine AL.o 7 (by kernel_rfl) rfl ?_
          refine RL.appendS rfl hb6 H.size rfl (hl.ext H) rfl rfl (by decide) rfl cell1 (by rw [List.length_nil]; omega) (by rw [List.length_nil]; simp only [maxLen]; omega) rfl ?_
          intro w21 a10 c10 hu hb10 hfr10
          replace hb1 := hb1.upd hu (fun h => hb6.box_apart hb1 (by decide) h)
          replace hb2 := hb2.upd hu (fun h => hb6.box_apart hb2 (by decide) h)
          replace H := Ext.own H hb6 hu; clear hu
          refine RL.nil ?_
          refine AL.p 8 (by kernel_rfl) rfl (bld rfl rfl) rfl ?_
          refine AL.p 13 (by kernel_rfl) rfl (bld rfl rfl) rfl ?_
          refine AL.o 14 (by kernel_rfl) rfl ?_
          have hb2_0 := hb2
          refine RL.storeS rfl hb2 rfl rfl rfl rfl ?_
          intro w22 hu hb2
          replace hb10 := hb10.upd hu (fun j hj e => hb10.box_apart hb2_0 (by decide) (e ▸ hj))
          replace H := H.box hu hb2.old; replace hb1 := hb1.upd hu ne1_2
          refine RL.nil ?_
          refine AL.nil (by kernel_rfl) ?_
          refine ⟨⟨s.name, a10, c10, s.topics, s.timeout, s.seen⟩, Head.intro (by repeat (first | with_reducible exact AgreeOff.refl _ _ | with_reducible exact AgreeOff.mix _ _ _ | refine AgreeOff.look rfl ?_ | refine AgreeOff.mixs rfl ?_)) trivial, H, hb1, hb2, rfl, hb10⟩
      · refine ⟨_, rfl, ?_⟩
        refine RL.m (ld_box rfl hb1 rfl) rfl ?_
        refine RL.nil ?_
        refine AL.all (rs := [3, 10]) (by kernel_rfl) rfl ?_
        rintro i hi; simp only [List.mem_cons, List.not_mem_nil, or_false] at hi; rcases hi with rfl | rfl
        · refine ⟨_, rfl, ?_⟩
          refine RL.build0 (α := ByteArray) w0.heap.size H.size rfl ?_
          intro w23 i6 hi6 hx hb6
          replace H := H.ext hx; replace hb1 := hb1.ext hx; replace hb2 := hb2.ext hx; clear hx
          refine RL.nil ?_
          refine AL.all (rs := [7, 10]) (by kernel_rfl) rfl ?_
          rintro i hi; simp only [List.mem_cons, List.not_mem_nil, or_false] at hi; rcases hi with rfl | rfl
          · refine ⟨_, rfl, ?_⟩
            refine RL.appendS rfl hb6 H.size rfl (hl.ext H) rfl rfl (by decide) rfl cell1 (by rw [List.length_nil]; omega) (by rw [List.length_nil]; simp only [maxLen]; omega) rfl ?_
            intro w24 a10 c10 hu hb10 hfr10
            replace hb1 := hb1.upd hu (fun h => hb6.box_apart hb1 (by decide) h)
            replace hb2 := hb2.upd hu (fun h => hb6.box_apart hb2 (by decide) h)
            replace H := Ext.own H hb6 hu; clear hu
            refine RL.nil ?_
            refine AL.p 8 (by kernel_rfl) rfl (bld rfl rfl) rfl ?_
            refine AL.m 10 (by kernel_rfl) rfl (ld_box rfl hb1 rfl) rfl ?_
            refine AL.p 13 (by kernel_rfl) rfl (bld rfl rfl) rfl ?_
            refine AL.o 14 (by kernel_rfl) rfl ?_
            have hb2_0 := hb2
            refine RL.storeS rfl hb2 rfl rfl rfl rfl ?_
            intro w25 hu hb2
            replace hb10 := hb10.upd hu (fun j hj e => hb10.box_apart hb2_0 (by decide) (e ▸ hj))
            replace H := H.box hu hb2.old; replace hb1 := hb1.upd hu ne1_2
            refine RL.nil ?_
            refine AL.nil (by kernel_rfl) ?_
            refine ⟨⟨s.name, a10, c10, s.topics, s.timeout, s.seen⟩, Head.intro (by repeat (first | with_reducible exact AgreeOff.refl _ _ | with_reducible exact AgreeOff.mix _ _ _ | refine AgreeOff.look rfl ?_ | refine AgreeOff.mixs rfl ?_)) trivial, H, hb1, hb2, rfl, hb10⟩
          · refine ⟨_, rfl, ?_⟩
            refine RL.m (ld_box rfl hb1 rfl) rfl ?_
            refine RL.nil ?_
            refine AL.o 7 (by kernel_rfl) rfl ?_
            refine RL.appendS rfl hb6 H.size rfl (hl.ext H) rfl rfl (by decide) rfl cell1 (by rw [List.length_nil]; omega) (by rw [List.length_nil]; simp only [maxLen]; omega) rfl ?_
            intro w26 a10 c10 hu hb10 hfr10
            replace hb1 := hb1.upd hu (fun h => hb6.box_apart hb1 (by decide) h)
            replace hb2 := hb2.upd hu (fun h => hb6.box_apart hb2 (by decide) h)
            replace H := Ext.own H hb6 hu; clear hu
            refine RL.nil ?_
            refine AL.p 8 (by kernel_rfl) rfl (bld rfl rfl) rfl ?_
            refine AL.p 13 (by kernel_rfl) rfl (bld rfl rfl) rfl ?_
            refine AL.o 14 (by kernel_rfl) rfl ?_
            have hb2_0 := hb2
            refine RL.storeS rfl hb2 rfl rfl rfl rfl ?_
            intro w27 hu hb2
            replace hb10 := hb10.upd hu (fun j hj e => hb10.box_apart hb2_0 (by decide) (e ▸ hj))
            replace H := H.box hu hb2.old; replace hb1 := hb1.upd hu ne1_2
            refine RL.nil ?_
            refine AL.nil (by kernel_rfl) ?_
            refine ⟨⟨s.name, a10, c10, s.topics, s.timeout, s.seen⟩, Head.intro (by repeat (first | with_reducible exact AgreeOff.refl _ _ | with_reducible exact AgreeOff.mix _ _ _ | refine AgreeOff.look rfl ?_ | refine AgreeOff.mixs rfl ?_)) trivial, H, hb1, hb2, rfl, hb10⟩
        · refine ⟨_, rfl, ?_⟩
          refine RL.m (ld_box rfl hb1 rfl) rfl ?_
          refine RL.nil ?_
          refine AL.o 3 (by kernel_rfl) rfl ?_
          refine RL.build0 (α := ByteArray) w0.heap.size H.size rfl ?_
          intro w28 i6 hi6 hx hb6
          replace H := H.ext hx; replace hb1 := hb1.ext hx; replace hb2 := hb2.ext hx; clear hx
          refine RL.nil ?_
          refine AL.o 7 (by kernel_rfl) rfl ?_
          refine RL.appendS rfl hb6 H.size rfl (hl.ext H) rfl rfl (by decide) rfl cell1 (by rw [List.length_nil]; omega) (by rw [List.length_nil]; simp only [maxLen]; omega) rfl ?_
          intro w29 a10 c10 hu hb10 hfr10
          replace hb1 := hb1.upd hu (fun h => hb6.box_apart hb1 (by decide) h)
          replace hb2 := hb2.upd hu (fun h => hb6.box_apart hb2 (by decide) h)
          replace H := Ext.own H hb6 hu; clear hu
          refine RL.nil ?_
          refine AL.p 8 (by kernel_rfl) rfl (bld rfl rfl) rfl ?_
          refine AL.p 13 (by kernel_rfl) rfl (bld rfl rfl) rfl ?_
          refine AL.o 14 (by kernel_rfl) rfl ?_
          have hb2_0 := hb2
          refine RL.storeS rfl hb2 rfl rfl rfl rfl ?_
          intro w30 hu hb2
          replace hb10 := hb10.upd hu (fun j hj e => hb10.box_apart hb2_0 (by decide) (e ▸ hj))
          replace H := H.box hu hb2.old; replace hb1 := hb1.upd hu ne1_2
          refine RL.nil ?_
          refine AL.nil (by kernel_rfl) ?_
          refine ⟨⟨s.name, a10, c10, s.topics, s.timeout, s.seen⟩, Head.intro (by repeat (first | with_reducible exact AgreeOff.refl _ _ | with_reducible exact AgreeOff.mix _ _ _ | refine AgreeOff.look rfl ?_ | refine AgreeOff.mixs rfl ?_)) trivial, H, hb1, hb2, rfl, hb10⟩
    · refine ⟨_, rfl, ?_⟩
      refine RL.build0 (α := ByteArray) w0.heap.size H.size rfl ?_
      intro w31 i6 hi6 hx hb6
      replace H := H.ext hx; replace hb1 := hb1.ext hx; replace hb2 := hb2.ext hx; clear hx
      refine RL.nil ?_
      refine AL.all (rs := [2, 7, 10, 12]) (by kernel_rfl) rfl ?_
      rintro i hi; simp only [List.mem_cons, List.not_mem_nil, or_false] at hi; rcases hi with rfl | rfl | rfl | rfl
      · refine ⟨_, rfl, ?_⟩
        refine RL.m (ld_box rfl hb1 rfl) rfl ?_
        refine RL.nil ?_
        refine AL.all (rs := [7, 10, 12]) (by kernel_rfl) rfl ?_
        rintro i hi; simp only [List.mem_cons, List.not_mem_nil, or_false] at hi; rcases hi with rfl | rfl | rfl
        · refine ⟨_, rfl, ?_⟩
          refine RL.appendS rfl hb6 H.size rfl (hl.ext H) rfl rfl (by decide) rfl cell1 (by rw [List.length_nil]; omega) (by rw [List.length_nil]; simp only [maxLen]; omega) rfl ?_
          intro w32 a10 c10 hu hb10 hfr10
          replace hb1 := hb1.upd hu (fun h => hb6.box_apart hb1 (by decide) h)
          replace hb2 := hb2.upd hu (fun h => hb6.box_apart hb2 (by decide) h)
          replace H := Ext.own H hb6 hu; clear hu
          refine RL.nil ?_
          refine AL.p 8 (by kernel_rfl) rfl (bld rfl rfl) rfl ?_
          refine AL.m 10 (by kernel_rfl) rfl (ld_box rfl hb1 rfl) rfl ?_
          refine AL.m 12 (by kernel_rfl) rfl (ld_box rfl hb1 rfl) rfl ?_
          refine AL.p 13 (by kernel_rfl) rfl (bld rfl rfl) rfl ?_
          refine AL.o 14 (by kernel_rfl) rfl ?_
          have hb2_0 := hb2
          refine RL.storeS rfl hb2 rfl rfl rfl rfl ?_
          intro w33 hu hb2
          replace hb10 := hb10.upd hu (fun j hj e => hb10.box_apart hb2_0 (by decide) (e ▸ hj))
          replace H := H.box hu hb2.old; replace hb1 := hb1.upd hu ne1_2
          refine RL.nil ?_
          refine AL.nil (by kernel_rfl) ?_
          refine ⟨⟨s.name, a10, c10, s.topics, s.timeout, s.seen⟩, Head.intro (by repeat (first | with_reducible exact AgreeOff.refl _ _ | with_reducible exact AgreeOff.mix _ _ _ | refine AgreeOff.look rfl ?_ | refine AgreeOff.mixs rfl ?_)) trivial, H, hb1, hb2, rfl, hb10⟩
        · refine ⟨_, rfl, ?_⟩
          refine RL.m (ld_box rfl hb1 rfl) rfl ?_
          refine RL.nil ?_
          refine AL.all (rs := [7, 12]) (by kernel_rfl) rfl ?_
          rintro i hi; simp only [List.mem_cons, List.not_mem_nil, or_false] at hi; rcases hi with rfl | rfl
          · refine ⟨_, rfl, ?_⟩
            refine RL.appendS rfl hb6 H.size rfl (hl.ext H) rfl rfl (by decide) rfl cell1 (by rw [List.length_nil]; omega) (by rw [List.length_nil]; simp only [maxLen]; omega) rfl ?_
            intro w34 a10 c10 hu hb10 hfr10
            replace hb1 := hb1.upd hu (fun h => hb6.box_apart hb1 (by decide) h)
            replace hb2 := hb2.upd hu (fun h => hb6.box_apart hb2 (by decide) h)
            replace H := Ext.own H hb6 hu; clear hu
            refine RL.nil ?_
            refine AL.p 8 (by kernel_rfl) rfl (bld rfl rfl) rfl ?_
            refine AL.m 12 (by kernel_rfl) rfl (ld_box rfl hb1 rfl) rfl ?_
            refine AL.p 13 (by kernel_rfl) rfl (bld rfl rfl) rfl ?_
            refine AL.o 14 (by kernel_rfl) rfl ?_
            have hb2_0 := hb2
            refine RL.storeS rfl hb2 rfl rfl rfl rfl ?_
            intro w35 hu hb2
            replace hb10 := hb10.upd hu (fun j hj e => hb10.box_apart hb2_0 (by decide) (e ▸ hj))
            replace H := H.box hu hb2.old; replace hb1 := hb1.upd hu ne1_2
            refine RL.nil ?_
            refine AL.nil (by kernel_rfl) ?_
            refine ⟨⟨s.name, a10, c10, s.topics, s.timeout, s.seen⟩, Head.intro (by repeat (first | with_reducible exact AgreeOff.refl _ _ | with_reducible exact AgreeOff.mix _ _ _ | refine AgreeOff.look rfl ?_ | refine AgreeOff.mixs rfl ?_)) trivial, H, hb1, hb2, rfl, hb10⟩
          · refine ⟨_, rfl, ?_⟩
            refine RL.m (ld_box rfl hb1 rfl) rfl ?_
            refine RL.nil ?_
            refine AL.o 7 (by kernel_rfl) rfl ?_
            refine RL.appendS rfl hb6 H.size rfl (hl.ext H) rfl rfl (by decide) rfl cell1 (by rw [List.length_nil]; omega) (by rw [List.length_nil]; simp only [maxLen]; omega) rfl ?_
            intro w36 a10 c10 hu hb10 hfr10
            replace hb1 := hb1.upd hu (fun h => hb6.box_apart hb1 (by decide) h)
            replace hb2 := hb2.upd hu (fun h => hb6.box_apart hb2 (by decide) h)
            replace H := Ext.own H hb6 hu; clear hu
            refine RL.nil ?_
            refine AL.p 8 (by kernel_rfl) rfl (bld rfl rfl) rfl ?_
            refine AL.p 13 (by kernel_rfl) rfl (bld rfl rfl) rfl ?_
            refine AL.o 14 (by kernel_rfl) rfl ?_
            have hb2_0 := hb2
            refine RL.storeS rfl hb2 rfl rfl rfl rfl ?_
            intro w37 hu hb2
            replace hb10 := hb10.upd hu (fun j hj e => hb10.box_apart hb2_0 (by decide) (e ▸ hj))
            replace H := H.box hu hb2.old; replace hb1 := hb1.upd hu ne1_2
            refine RL.nil ?_
            refine AL.nil (by kernel_rfl) ?_
            refine ⟨⟨s.name, a10, c10, s.topics, s.timeout, s.seen⟩, Head.intro (by repeat (first | with_reducible exact AgreeOff.refl _ _ | with_reducible exact AgreeOff.mix _ _ _ | refine AgreeOff.look rfl ?_ | refine AgreeOff.mixs rfl ?_)) trivial, H, hb1, hb2, rfl, hb10⟩
        · refine ⟨_, rfl, ?_⟩
          refine RL.m (ld_box rfl hb1 rfl) rfl ?_
          refine RL.nil ?_
          refine AL.all (rs := [7, 10]) (by kernel_rfl) rfl ?_
          rintro i hi; simp only [List.mem_cons, List.not_mem_nil, or_false] at hi; rcases hi with rfl | rfl
          · refine ⟨_, rfl, ?_⟩
            refine RL.appendS rfl hb6 H.size rfl (hl.ext H) rfl rfl (by decide) rfl cell1 (by rw [List.length_nil]; omega) (by rw [List.length_nil]; simp only [maxLen]; omega) rfl ?_
            intro w38 a10 c10 hu hb10 hfr10
            replace hb1 := hb1.upd hu (fun h => hb6.box_apart hb1 (by decide) h)
            replace hb2 := hb2.upd hu (fun h => hb6.box_apart hb2 (by decide) h)
            replace H := Ext.own H hb6 hu; clear hu
            refine RL.nil ?_
            refine AL.p 8 (by kernel_rfl) rfl (bld rfl rfl) rfl ?_
            refine AL.m 10 (by kernel_rfl) rfl (ld_box rfl hb1 rfl) rfl ?_
            refine AL.p 13 (by kernel_rfl) rfl (bld rfl rfl) rfl ?_
            refine AL.o 14 (by kernel_rfl) rfl ?_
            have hb2_0 := hb2
            refine RL.storeS rfl hb2 rfl rfl rfl rfl ?_
            intro w39 hu hb2
            replace hb10 := hb10.upd hu (fun j hj e => hb10.box_apart hb2_0 (by decide) (e ▸ hj))
            replace H := H.box hu hb2.old; replace hb1 := hb1.upd hu ne1_2
            refine RL.nil ?_
            refine AL.nil (by kernel_rfl) ?_
            refine ⟨⟨s.name, a10, c10, s.topics, s.timeout, s.seen⟩, Head.intro (by repeat (first | with_reducible exact AgreeOff.refl _ _ | with_reducible exact AgreeOff.mix _ _ _ | refine AgreeOff.look rfl ?_ | refine AgreeOff.mixs rfl ?_)) trivial, H, hb1, hb2, rfl, hb10⟩
          · refine ⟨_, rfl, ?_⟩
            refine RL.m (ld_box rfl hb1 rfl) rfl ?_
            refine RL.nil ?_
            refine AL.o 7 (by kernel_rfl) rfl ?_
            refine RL.appendS rfl hb6 H.size rfl (hl.ext H) rfl rfl (by decide) rfl cell1 (by rw [List.length_nil]; omega) (by rw [List.length_nil]; simp only [maxLen]; omega) rfl ?_
            intro w40 a10 c10 hu hb10 hfr10
            replace hb1 := hb1.upd hu (fun h => hb6.box_apart hb1 (by decide) h)
            replace hb2 := hb2.upd hu (fun h => hb6.box_apart hb2 (by decide) h)
            replace H := Ext.own H hb6 hu; clear hu
            refine RL.nil ?_
            refine AL.p 8 (by kernel_rfl) rfl (bld rfl rfl) rfl ?_
            refine AL.p 13 (by kernel_rfl) rfl (bld rfl rfl) rfl ?_
            refine AL.o 14 (by kernel_rfl) rfl ?_
            have hb2_0 := hb2
            refine RL.storeS rfl hb2 rfl rfl rfl rfl ?_
            intro w41 hu hb2
            replace hb10 := hb10.upd hu (fun j hj e => hb10.box_apart hb2_0 (by decide) (e ▸ hj))
            replace H := H.box hu hb2.old; replace hb1 := hb1.upd hu ne1_2
            refine RL.nil ?_
            refine AL.nil (by kernel_rfl) ?_
            refine ⟨⟨s.name, a10, c10, s.topics, s.timeout, s.seen⟩, Head.intro (by repeat (first | with_reducible exact AgreeOff.refl _ _ | with_reducible exact AgreeOff.mix _ _ _ | refine AgreeOff.look rfl ?_ | refine AgreeOff.mixs rfl ?_)) trivial, H, hb1, hb2, rfl, hb10⟩
      · refine ⟨_, rfl, ?_⟩
        refine RL.appendS rfl hb6 H.size rfl (hl.ext H) rfl rfl (by decide) rfl cell1 (by rw [List.length_nil]; omega) (by rw [List.length_nil]; simp only [maxLen]; omega) rfl ?_
        intro w42 a10 c10 hu hb10 hfr10
        replace hb1 := hb1.upd hu (fun h => hb6.box_apart hb1 (by decide) h)
        replace hb2 := hb2.upd hu (fun h => hb6.box_apart hb2 (by decide) h)
        replace H := Ext.own H hb6 hu; clear hu
        refine RL.nil ?_
        refine AL.m 2 (by kernel_rfl) rfl (ld_box rfl hb1 rfl) rfl ?_
        refine AL.p 8 (by kernel_rfl) rfl (bld rfl rfl) rfl ?_
        refine AL.m 10 (by kernel_rfl) rfl (ld_box rfl hb1 rfl) rfl ?_
        refine AL.m 12 (by kernel_rfl) rfl (ld_box rfl hb1 rfl) rfl ?_
        refine AL.p 13 (by kernel_rfl) rfl (bld rfl rfl) rfl ?_
        refine AL.o 14 (by kernel_rfl) rfl ?_
        have hb2_0 := hb2
        refine RL.storeS rfl hb2 rfl rfl rfl rfl ?_
        intro w43 hu hb2
        replace hb10 := hb10.upd hu (fun j hj e => hb10.box_apart hb2_0 (by decide) (e ▸ hj))
        replace H := H.box hu hb2.old; replace hb1 := hb1.upd hu ne1_2
        refine RL.nil ?_
        refine AL.nil (by kernel_rfl) ?_
        refine ⟨⟨s.name, a10, c10, s.topics, s.timeout, s.seen⟩, Head.intro (by repeat (first | with_reducible exact AgreeOff.refl _ _ | with_reducible exact AgreeOff.mix _ _ _ | refine AgreeOff.look rfl ?_ | refine AgreeOff.mixs rfl ?_)) trivial, H, hb1, hb2, rfl, hb10⟩
      · refine ⟨_, rfl, ?_⟩
        refine RL.m (ld_box rfl hb1 rfl) rfl ?_
        refine RL.nil ?_
        refine AL.all (rs := [2, 7, 12]) (by kernel_rfl) rfl ?_
        rintro i hi; simp only [List.mem_cons, List.not_mem_nil, or_false] at hi; rcases hi with rfl | rfl | rfl
        · refine ⟨_, rfl, ?_⟩
          refine RL.m (ld_box rfl hb1 rfl) rfl ?_
          refine RL.nil ?_
          refine AL.all (rs := [7, 12]) (by kernel_rfl) rfl ?_
          rintro i hi; simp only [List.mem_cons, List.not_mem_nil, or_false] at hi; rcases hi with rfl | rfl
          · refine ⟨_, rfl, ?_⟩
            refine RL.appendS rfl hb6 H.size rfl (hl.ext H) rfl rfl (by decide) rfl cell1 (by rw [List.length_nil]; omega) (by rw [List.length_nil]; simp only [maxLen]; omega) rfl ?_
            intro w44 a10 c10 hu hb10 hfr10
            replace hb1 := hb1.upd hu (fun h => hb6.box_apart hb1 (by decide) h)
            replace hb2 := hb2.upd hu (fun h => hb6.box_apart hb2 (by decide) h)
            replace H := Ext.own H hb6 hu; clear hu
            refine RL.nil ?_
            refine AL.p 8 (by kernel_rfl) rfl (bld rfl rfl) rfl ?_
            refine AL.m 12 (by kernel_rfl) rfl (ld_box rfl hb1 rfl) rfl ?_
            refine AL.p 13 (by kernel_rfl) rfl (bld rfl rfl) rfl ?_
            refine AL.o 14 (by kernel_rfl) rfl ?_
            have hb2_0 := hb2
            refine RL.storeS rfl hb2 rfl rfl rfl rfl ?_
            intro w45 hu hb2
            replace hb10 := hb10.upd hu (fun j hj e => hb10.box_apart hb2_0 (by decide) (e ▸ hj))
            replace H := H.box hu hb2.old; replace hb1 := hb1.upd hu ne1_2
            refine RL.nil ?_
            refine AL.nil (by kernel_rfl) ?_
            refine ⟨⟨s.name, a10, c10, s.topics, s.timeout, s.seen⟩, Head.intro (by repeat (first | with_reducible exact AgreeOff.refl _ _ | with_reducible exact AgreeOff.mix _ _ _ | refine AgreeOff.look rfl ?_ | refine AgreeOff.mixs rfl ?_)) trivial, H, hb1, hb2, rfl, hb10⟩
          · refine ⟨_, rfl, ?_⟩
            refine RL.m (ld_box rfl hb1 rfl) rfl ?_
            refine RL.nil ?_
            refine AL.o 7 (by kernel_rfl) rfl ?_
            refine RL.appendS rfl hb6 H.size rfl (hl.ext H) rfl rfl (by decide) rfl cell1 (by rw [List.length_nil]; omega) (by rw [List.length_nil]; simp only [maxLen]; omega) rfl ?_
            intro w46 a10 c10 hu hb10 hfr10
            replace hb1 := hb1.upd hu (fun h => hb6.box_apart hb1 (by decide) h)
            replace hb2 := hb2.upd hu (fun h => hb6.box_apart hb2 (by decide) h)
            replace H := Ext.own H hb6 hu; clear hu
            refine RL.nil ?_
            refine AL.p 8 (by kernel_rfl) rfl (bld rfl rfl) rfl ?_
            refine AL.p 13 (by kernel_rfl) rfl (bld rfl rfl) rfl ?_
            refine AL.o 14 (by kernel_rfl) rfl ?_
            have hb2_0 := hb2
            refine RL.storeS rfl hb2 rfl rfl rfl rfl ?_
            intro w47 hu hb2
            replace hb10 := hb10.upd hu (fun j hj e => hb10.box_apart hb2_0 (by decide) (e ▸ hj))
            replace H := H.box hu hb2.old; replace hb1 := hb1.upd hu ne1_2
            refine RL.nil ?_
            refine AL.nil (by kernel_rfl) ?_
            refine ⟨⟨s.name, a10, c10, s.topics, s.timeout, s.seen⟩, Head.intro (by repeat (first | with_reducible exact AgreeOff.refl _ _ | with_reducible exact AgreeOff.mix _ _ _ | refine AgreeOff.look rfl ?_ | refine AgreeOff.mixs rfl ?_)) trivial, H, hb1, hb2, rfl, hb10⟩
        · refine ⟨_, rfl, ?_⟩
          refine RL.appendS rfl hb6 H.size rfl (hl.ext H) rfl rfl (by decide) rfl cell1 (by rw [List.length_nil]; omega) (by rw [List.length_nil]; simp only [maxLen]; omega) rfl ?_
          intro w48 a10 c10 hu hb10 hfr10
          replace hb1 := hb1.upd hu (fun h => hb6.box_apart hb1 (by decide) h)
          replace hb2 := hb2.upd hu (fun h => hb6.box_apart hb2 (by decide) h)
          replace H := Ext.own H hb6 hu; clear hu
          refine RL.nil ?_
          refine AL.m 2 (by kernel_rfl) rfl (ld_box rfl hb1 rfl) rfl ?_
          refine AL.p 8 (by kernel_rfl) rfl (bld rfl rfl) rfl ?_
          refine AL.m 12 (by kernel_rfl) rfl (ld_box rfl hb1 rfl) rfl ?_
          refine AL.p 13 (by kernel_rfl) rfl (bld rfl rfl) rfl ?_
          refine AL.o 14 (by kernel_rfl) rfl ?_
          have hb2_0 := hb2
          refine RL.storeS rfl hb2 rfl rfl rfl rfl ?_
          intro w49 hu hb2
          replace hb10 := hb10.upd hu (fun j hj e => hb10.box_apart hb2_0 (by decide) (e ▸ hj))
          replace H := H.box hu hb2.old; replace hb1 := hb1.upd hu ne1_2
          refine RL.nil ?_
          refine AL.nil (by kernel_rfl) ?_
          refine ⟨⟨s.name, a10, c10, s.topics, s.timeout, s.seen⟩, Head.intro (by repeat (first | with_reducible exact AgreeOff.refl _ _ | with_reducible exact AgreeOff.mix _ _ _ | refine AgreeOff.look rfl ?_ | refine AgreeOff.mixs rfl ?_)) trivial, H, hb1, hb2, rfl, hb10⟩
        · refine ⟨_, rfl, ?_⟩
          refine RL.m (ld_box rfl hb1 rfl) rfl ?_
          refine RL.nil ?_
          refine AL.all (rs := [2, 7]) (by kernel_rfl) rfl ?_
          rintro i hi; simp only [List.mem_cons, List.not_mem_nil, or_false] at hi; rcases hi with rfl | rfl
          · refine ⟨_, rfl, ?_⟩
            refine RL.m (ld_box rfl hb1 rfl) rfl ?_
            refine RL.nil ?_
            refine AL.o 7 (by kernel_rfl) rfl ?_
            refine RL.appendS rfl hb6 H.size rfl (hl.ext H) rfl rfl (by decide) rfl cell1 (by rw [List.length_nil]; omega) (by rw [List.length_nil]; simp only [maxLen]; omega) rfl ?_
            intro w50 a10 c10 hu hb10 hfr10
            replace hb1 := hb1.upd hu (fun h => hb6.box_apart hb1 (by decide) h)
            replace hb2 := hb2.upd hu (fun h => hb6.box_apart hb2 (by decide) h)
            replace H := Ext.own H hb6 hu; clear hu
            refine RL.nil ?_
            refine AL.p 8 (by kernel_rfl) rfl (bld rfl rfl) rfl ?_
            refine AL.p 13 (by kernel_rfl) rfl (bld rfl rfl) rfl ?_
            refine AL.o 14 (by kernel_rfl) rfl ?_
            have hb2_0 := hb2
            refine RL.storeS rfl hb2 rfl rfl rfl rfl ?_
            intro w51 hu hb2
            replace hb10 := hb10.upd hu (fun j hj e => hb10.box_apart hb2_0 (by decide) (e ▸ hj))
            replace H := H.box hu hb2.old; replace hb1 := hb1.upd hu ne1_2
            refine RL.nil ?_
            refine AL.nil (by kernel_rfl) ?_
            refine ⟨⟨s.name, a10, c10, s.topics, s.timeout, s.seen⟩, Head.intro (by repeat (first | with_reducible exact AgreeOff.refl _ _ | with_reducible exact AgreeOff.mix _ _ _ | refine AgreeOff.look rfl ?_ | refine AgreeOff.mixs rfl ?_)) trivial, H, hb1, hb2, rfl, hb10⟩
          · refine ⟨_, rfl, ?_⟩
            refine RL.appendS rfl hb6 H.size rfl (hl.ext H) rfl rfl (by decide) rfl cell1 (by rw [List.length_nil]; omega) (by rw [List.length_nil]; simp only [maxLen]; omega) rfl ?_
            intro w52 a10 c10 hu hb10 hfr10
            replace hb1 := hb1.upd hu (fun h => hb6.box_apart hb1 (by decide) h)
            replace hb2 := hb2.upd hu (fun h => hb6.box_apart hb2 (by decide) h)
            replace H := Ext.own H hb6 hu; clear hu
            refine RL.nil ?_
            refine AL.m 2 (by kernel_rfl) rfl (ld_box rfl hb1 rfl) rfl ?_
            refine AL.p 8 (by kernel_rfl) rfl (bld rfl rfl) rfl ?_
            refine AL.p 13 (by kernel_rfl) rfl (bld rfl rfl) rfl ?_
            refine AL.o 14 (by kernel_rfl) rfl ?_
            have hb2_0 := hb2
            refine RL.storeS rfl hb2 rfl rfl rfl rfl ?_
            intro w53 hu hb2
            replace hb10 := hb10.upd hu (fun j hj e => hb10.box_apart hb2_0 (by decide) (e ▸ hj))
            replace H := H.box hu hb2.old; replace hb1 := hb1.upd hu ne1_2
            refine RL.nil ?_
            refine AL.nil (by kernel_rfl) ?_
            refine ⟨⟨s.name, a10, c10, s.topics, s.timeout, s.seen⟩, Head.intro (by repeat (first | with_reducible exact AgreeOff.refl _ _ | with_reducible exact AgreeOff.mix _ _ _ | refine AgreeOff.look rfl ?_ | refine AgreeOff.mixs rfl ?_)) trivial, H, hb1, hb2, rfl, hb10⟩
      · refine ⟨_, rfl, ?_⟩
        refine RL.m (ld_box rfl hb1 rfl) rfl ?_
        refine RL.nil ?_
        refine AL.all (rs := [2, 7, 10]) (by kernel_rfl) rfl ?_
        rintro i hi; simp only [List.mem_cons, List.not_mem_nil, or_false] at hi; rcases hi with rfl | rfl | rfl
        · refine ⟨_, rfl, ?_⟩
          refine RL.m (ld_box rfl hb1 rfl) rfl ?_
          refine RL.nil ?_
          refine AL.all (rs := [7, 10]) (by kernel_rfl) rfl ?_
          rintro i hi; simp only [List.mem_cons, List.not_mem_nil, or_false] at hi; rcases hi with rfl | rfl
          · refine ⟨_, rfl, ?_⟩
            refine RL.appendS rfl hb6 H.size rfl (hl.ext H) rfl rfl (by decide) rfl cell1 (by rw [List.length_nil]; omega) (by rw [List.length_nil]; simp only [maxLen]; omega) rfl ?_
            intro w54 a10 c10 hu hb10 hfr10
            replace hb1 := hb1.upd hu (fun h => hb6.box_apart hb1 (by decide) h)
            replace hb2 := hb2.upd hu (fun h => hb6.box_apart hb2 (by decide) h)
            replace H := Ext.own H hb6 hu; clear hu
            refine RL.nil ?_
            refine AL.p 8 (by kernel_rfl) rfl (bld rfl rfl) rfl ?_
            refine AL.m 10 (by kernel_rfl) rfl (ld_box rfl hb1 rfl) rfl ?_
            refine AL.p 13 (by kernel_rfl) rfl (bld rfl rfl) rfl ?_
            refine AL.o 14 (by kernel_rfl) rfl ?_
            have hb2_0 := hb2
            refine RL.storeS rfl hb2 rfl rfl rfl rfl ?_
            intro w55 hu hb2
            replace hb10 := hb10.upd hu (fun j hj e => hb10.box_apart hb2_0 (by decide) (e ▸ hj))
            replace H := H.box hu hb2.old; replace hb1 := hb1.upd hu ne1_2
            refine RL.nil ?_
            refine AL.nil (by kernel_rfl) ?_
            refine ⟨⟨s.name, a10, c10, s.topics, s.timeout, s.seen⟩, Head.intro (by repeat (first | with_reducible exact AgreeOff.refl _ _ | with_reducible exact AgreeOff.mix _ _ _ | refine AgreeOff.look rfl ?_ | refine AgreeOff.mixs rfl ?_)) trivial, H, hb1, hb2, rfl, hb10⟩
          · refine ⟨_, rfl, ?_⟩
            refine RL.m (ld_box rfl hb1 rfl) rfl ?_
            refine RL.nil ?_
            refine AL.o 7 (by kernel_rfl) rfl ?_
            refine RL.appendS rfl hb6 H.size rfl (hl.ext H) rfl rfl (by decide) rfl cell1 (by rw [List.length_nil]; omega) (by rw [List.length_nil]; simp only [maxLen]; omega) rfl ?_
            intro w56 a10 c10 hu hb10 hfr10
            replace hb1 := hb1.upd hu (fun h => hb6.box_apart hb1 (by decide) h)
            replace hb2 := hb2.upd hu (fun h => hb6.box_apart hb2 (by decide) h)
            replace H := Ext.own H hb6 hu; clear hu
            refine RL.nil ?_
            refine AL.p 8 (by kernel_rfl) rfl (bld rfl rfl) rfl ?_
            refine AL.p 13 (by kernel_rfl) rfl (bld rfl rfl) rfl ?_
            refine AL.o 14 (by kernel_rfl) rfl ?_
            have hb2_0 := hb2
            refine RL.storeS rfl hb2 rfl rfl rfl rfl ?_
            intro w57 hu hb2
            replace hb10 := hb10.upd hu (fun j hj e => hb10.box_apart hb2_0 (by decide) (e ▸ hj))
            replace H := H.box hu hb2.old; replace hb1 := hb1.upd hu ne1_2
            refine RL.nil ?_
            refine AL.nil (by kernel_rfl) ?_
            refine ⟨⟨s.name, a10, c10, s.topics, s.timeout, s.seen⟩, Head.intro (by repeat (first | with_reducible exact AgreeOff.refl _ _ | with_reducible exact AgreeOff.mix _ _ _ | refine AgreeOff.look rfl ?_ | refine AgreeOff.mixs rfl ?_)) trivial, H, hb1, hb2, rfl, hb10⟩
        · refine ⟨_, rfl, ?_⟩
          refine RL.appendS rfl hb6 H.size rfl (hl.ext H) rfl rfl (by decide) rfl cell1 (by rw [List.length_nil]; omega) (by rw [List.length_nil]; simp only [maxLen]; omega) rfl ?_
          intro w58 a10 c10 hu hb10 hfr10
          replace hb1 := hb1.upd hu (fun h => hb6.box_apart hb1 (by decide) h)
          replace hb2 := hb2.upd hu (fun h => hb6.box_apart hb2 (by decide) h)
          replace H := Ext.own H hb6 hu; clear hu
          refine RL.nil ?_
          refine AL.m 2 (by kernel_rfl) rfl (ld_box rfl hb1 rfl) rfl ?_
          refine AL.p 8 (by kernel_rfl) rfl (bld rfl rfl) rfl ?_
          refine AL.m 10 (by kernel_rfl) rfl (ld_box rfl hb1 rfl) rfl ?_
          refine AL.p 13 (by kernel_rfl) rfl (bld rfl rfl) rfl ?_
          refine AL.o 14 (by kernel_rfl) rfl ?_
          have hb2_0 := hb2
          refine RL.storeS rfl hb2 rfl rfl rfl rfl ?_
          intro w59 hu hb2
          replace hb10 := hb10.upd hu (fun j hj e => hb10.box_apart hb2_0 (by decide) (e ▸ hj))
          replace H := H.box hu hb2.old; replace hb1 := hb1.upd hu ne1_2
          refine RL.nil ?_
          refine AL.nil (by kernel_rfl) ?_
          refine ⟨⟨s.name, a10, c10, s.topics, s.timeout, s.seen⟩, Head.intro (by repeat (first | with_reducible exact AgreeOff.refl _ _ | with_reducible exact AgreeOff.mix _ _ _ | refine AgreeOff.look rfl ?_ | refine AgreeOff.mixs rfl ?_)) trivial, H, hb1, hb2, rfl, hb10⟩
        · refine ⟨_, rfl, ?_⟩
          refine RL.m (ld_box rfl hb1 rfl) rfl ?_
          refine RL.nil ?_
          refine AL.all (rs := [2, 7]) (by kernel_rfl) rfl ?_
          rintro i hi; simp only [List.mem_cons, List.not_mem_nil, or_false] at hi; rcases hi with rfl | rfl
          · refine ⟨_, rfl, ?_⟩
            refine RL.m (ld_box rfl hb1 rfl) rfl ?_
            refine RL.nil ?_
            refine AL.o 7 (by kernel_rfl) rfl ?_
            refine RL.appendS rfl hb6 H.size rfl (hl.ext H) rfl rfl (by decide) rfl cell1 (by rw [List.length_nil]; omega) (by rw [List.length_nil]; simp only [maxLen]; omega) rfl ?_
            intro w60 a10 c10 hu hb10 hfr10
            replace hb1 := hb1.upd hu (fun h => hb6.box_apart hb1 (by decide) h)
            replace hb2 := hb2.upd hu (fun h => hb6.box_apart hb2 (by decide) h)
            replace H := Ext.own H hb6 hu; clear hu
            refine RL.nil ?_
            refine AL.p 8 (by kernel_rfl) rfl (bld rfl rfl) rfl ?_
            refine AL.p 13 (by kernel_rfl) rfl (bld rfl rfl) rfl ?_
            refine AL.o 14 (by kernel_rfl) rfl ?_
            have hb2_0 := hb2
            refine RL.storeS rfl hb2 rfl rfl rfl rfl ?_
            intro w61 hu hb2
            replace hb10 := hb10.upd hu (fun j hj e => hb10.box_apart hb2_0 (by decide) (e ▸ hj))
            replace H := H.box hu hb2.old; replace hb1 := hb1.upd hu ne1_2
            refine RL.nil ?_
            refine AL.nil (by kernel_rfl) ?_
            refine ⟨⟨s.name, a10, c10, s.topics, s.timeout, s.seen⟩, Head.intro (by repeat (first | with_reducible exact AgreeOff.refl _ _ | with_reducible exact AgreeOff.mix _ _ _ | refine AgreeOff.look rfl ?_ | refine AgreeOff.mixs rfl ?_)) trivial, H, hb1, hb2, rfl, hb10⟩
          · refine ⟨_, rfl, ?_⟩
            refine RL.appendS rfl hb6 H.size rfl (hl.ext H) rfl rfl (by decide) rfl cell1 (by rw [List.length_nil]; omega) (by rw [List.length_nil]; simp only [maxLen]; omega) rfl ?_
            intro w62 a10 c10 hu hb10 hfr10
            replace hb1 := hb1.upd hu (fun h => hb6.box_apart hb1 (by decide) h)
            replace hb2 := hb2.upd hu (fun h => hb6.box_apart hb2 (by decide) h)
            replace H := Ext.own H hb6 hu; clear hu
            refine RL.nil ?_
            refine AL.m 2 (by kernel_rfl) rfl (ld_box rfl hb1 rfl) rfl ?_
            refine AL.p 8 (by kernel_rfl) rfl (bld rfl rfl) rfl ?_
            refine AL.p 13 (by kernel_rfl) rfl (bld rfl rfl) rfl ?_
            refine AL.o 14 (by kernel_rfl) rfl ?_
            have hb2_0 := hb2
            refine RL.storeS rfl hb2 rfl rfl rfl rfl ?_
            intro w63 hu hb2
            replace hb10 := hb10.upd hu (fun j hj e => hb10.box_apart hb2_0 (by decide) (e ▸ hj))
            replace H := H.box hu hb2.old; replace hb1 := hb1.upd hu ne1_2
            refine RL.nil ?_
            refine AL.nil (by kernel_rfl) ?_
            refine ⟨⟨s.name, a10, c10, s.topics, s.timeout, s.seen⟩, Head.intro (by repeat (first | with_reducible exact AgreeOff.refl _ _ | with_reducible exact AgreeOff.mix _ _ _ | refine AgreeOff.look rfl ?_ | refine AgreeOff.mixs rfl ?_)) trivial, H, hb1, hb2, rfl, hb10⟩
    · refine ⟨_, rfl, ?_⟩
      refine RL.m (ld_box rfl hb1 rfl) rfl ?_
      refine RL.nil ?_
      refine AL.all (rs := [2, 3, 12]) (by kernel_rfl) rfl ?_
      rintro i hi; simp only [List.mem_cons, List.not_mem_nil, or_false] at hi; rcases hi with rfl | rfl | rfl
      · refine ⟨_, rfl, ?_⟩
        refine RL.m (ld_box rfl hb1 rfl) rfl ?_
        refine RL.nil ?_
        refine AL.all (rs := [3, 12]) (by kernel_rfl) rfl ?_
        rintro i hi; simp only [List.mem_cons, List.not_mem_nil, or_false] at hi; rcases hi with rfl | rfl
        · refine ⟨_, rfl, ?_⟩
          refine RL.build0 (α := ByteArray) w0.heap.size H.size rfl ?_
          intro w64 i6 hi6 hx hb6
          replace H := H.ext hx; replace hb1 := hb1.ext hx; replace hb2 := hb2.ext hx; clear hx
          refine RL.nil ?_
          refine AL.all (rs := [7, 12]) (by kernel_rfl) rfl ?_
          rintro i hi; simp only [List.mem_cons, List.not_mem_nil, or_false] at hi; rcases hi with rfl | rfl
          · refine ⟨_, rfl, ?_⟩
            refine RL.appendS rfl hb6 H.size rfl (hl.ext H) rfl rfl (by decide) rfl cell1 (by rw [List.length_nil]; omega) (by rw [List.length_nil]; simp only [maxLen]; omega) rfl ?_
            intro w65 a10 c10 hu hb10 hfr10
            replace hb1 := hb1.upd hu (fun h => hb6.box_apart hb1 (by decide) h)
            replace hb2 := hb2.upd hu (fun h => hb6.box_apart hb2 (by decide) h)
            replace H := Ext.own H hb6 hu; clear hu
            refine RL.nil ?_
            refine AL.p 8 (by kernel_rfl) rfl (bld rfl rfl) rfl ?_
            refine AL.m 12 (by kernel_rfl) rfl (ld_box rfl hb1 rfl) rfl ?_
            refine AL.p 13 (by kernel_rfl) rfl (bld rfl rfl) rfl ?_
            refine AL.o 14 (by kernel_rfl) rfl ?_
            have hb2_0 := hb2
            refine RL.storeS rfl hb2 rfl rfl rfl rfl ?_
            intro w66 hu hb2
            replace hb10 := hb10.upd hu (fun j hj e => hb10.box_apart hb2_0 (by decide) (e ▸ hj))
            replace H := H.box hu hb2.old; replace hb1 := hb1.upd hu ne1_2
            refine RL.nil ?_
            refine AL.nil (by kernel_rfl) ?_
            refine ⟨⟨s.name, a10, c10, s.topics, s.timeout, s.seen⟩, Head.intro (by repeat (first | with_reducible exact AgreeOff.refl _ _ | with_reducible exact AgreeOff.mix _ _ _ | refine AgreeOff.look rfl ?_ | refine AgreeOff.mixs rfl ?_)) trivial, H, hb1, hb2, rfl, hb10⟩
          · refine ⟨_, rfl, ?_⟩
            refine RL.m (ld_box rfl hb1 rfl) rfl ?_
            refine RL.nil ?_
            refine AL.o 7 (by kernel_rfl) rfl ?_
            refine RL.appendS rfl hb6 H.size rfl (hl.ext H) rfl rfl (by decide) rfl cell1 (by rw [List.length_nil]; omega) (by rw [List.length_nil]; simp only [maxLen]; omega) rfl ?_
            intro w67 a10 c10 hu hb10 hfr10
            replace hb1 := hb1.upd hu (fun h => hb6.box_apart hb1 (by decide) h)
            replace hb2 := hb2.upd hu (fun h => hb6.box_apart hb2 (by decide) h)
            replace H := Ext.own H hb6 hu; clear hu
            refine RL.nil ?_
            refine AL.p 8 (by kernel_rfl) rfl (bld rfl rfl) rfl ?_
            refine AL.p 13 (by kernel_rfl) rfl (bld rfl rfl) rfl ?_
            refine AL.o 14 (by kernel_rfl) rfl ?_
            have hb2_0 := hb2
            refine RL.storeS rfl hb2 rfl rfl rfl rfl ?_
            intro w68 hu hb2
            replace hb10 := hb10.upd hu (fun j hj e => hb10.box_apart hb2_0 (by decide) (e ▸ hj))
            replace H := H.box hu hb2.old; replace hb1 := hb1.upd hu ne1_2
            refine RL.nil ?_
            refine AL.nil (by kernel_rfl) ?_
            refine ⟨⟨s.name, a10, c10, s.topics, s.timeout, s.seen⟩, Head.intro (by repeat (first | with_reducible exact AgreeOff.refl _ _ | with_reducible exact AgreeOff.mix _ _ _ | refine AgreeOff.look rfl ?_ | refine AgreeOff.mixs rfl ?_)) trivial, H, hb1, hb2, rfl, hb10⟩
        · refine ⟨_, rfl, ?_⟩
          refine RL.m (ld_box rfl hb1 rfl) rfl ?_
          refine RL.nil ?_
          refine AL.o 3 (by kernel_rfl) rfl ?_
          refine RL.build0 (α := ByteArray) w0.heap.size H.size rfl ?_
          intro w69 i6 hi6 hx hb6
          replace H := H.ext hx; replace hb1 := hb1.ext hx; replace hb2 := hb2.ext hx; clear hx
          refine RL.nil ?_
          refine AL.o 7 (by kernel_rfl) rfl ?_
          refine RL.appendS rfl hb6 H.size rfl (hl.ext H) rfl rfl (by decide) rfl cell1 (by rw [List.length_nil]; omega) (by rw [List.length_nil]; simp only [maxLen]; omega) rfl ?_
          intro w70 a10 c10 hu hb10 hfr10
          replace hb1 := hb1.upd hu (fun h => hb6.box_apart hb1 (by decide) h)
          replace hb2 := hb2.upd hu (fun h => hb6.box_apart hb2 (by decide) h)
          replace H := Ext.own H hb6 hu; clear hu
          refine RL.nil ?_
          refine AL.p 8 (by kernel_rfl) rfl (bld rfl rfl) rfl ?_
          refine AL.p 13 (by kernel_rfl) rfl (bld rfl rfl) rfl ?_
          refine AL.o 14 (by kernel_rfl) rfl ?_
          have hb2_0 := hb2
          refine RL.storeS rfl hb2 rfl rfl rfl rfl ?_
          intro w71 hu hb2
          replace hb10 := hb10.upd hu (fun j hj e => hb10.box_apart hb2_0 (by decide) (e ▸ hj))
          replace H := H.box hu hb2.old; replace hb1 := hb1.upd hu ne1_2
          refine RL.nil ?_
          refine AL.nil (by kernel_rfl) ?_
          refine ⟨⟨s.name, a10, c10, s.topics, s.timeout, s.seen⟩, Head.intro (by repeat (first | with_reducible exact AgreeOff.refl _ _ | with_reducible exact AgreeOff.mix _ _ _ | refine AgreeOff.look rfl ?_ | refine AgreeOff.mixs rfl ?_)) trivial, H, hb1, hb2, rfl, hb10⟩
      · refine ⟨_, rfl, ?_⟩
        refine RL.build0 (α := ByteArray) w0.heap.size H.size rfl ?_
        intro w72 i6 hi6 hx hb6
        replace H := H.ext hx; replace hb1 := hb1.ext hx; replace hb2 := hb2.ext hx; clear hx
        refine RL.nil ?_
        refine AL.all (rs := [2, 7, 12]) (by kernel_rfl) rfl ?_
        rintro i hi; simp only [List.mem_cons, List.not_mem_nil, or_false] at hi; rcases hi with rfl | rfl | rfl
        · refine ⟨_, rfl, ?_⟩
          refine RL.m (ld_box rfl hb1 rfl) rfl ?_
          refine RL.nil ?_
          refine AL.all (rs := [7, 12]) (by kernel_rfl) rfl ?_
          rintro i hi; simp only [List.mem_cons, List.not_mem_nil, or_false] at hi; rcases hi with rfl | rfl
          · refine ⟨_, rfl, ?_⟩
            refine RL.appendS rfl hb6 H.size rfl (hl.ext H) rfl rfl (by decide) rfl cell1 (by rw [List.length_nil]; omega) (by rw [List.length_nil]; simp only [maxLen]; omega) rfl ?_
            intro w73 a10 c10 hu hb10 hfr10
            replace hb1 := hb1.upd hu (fun h => hb6.box_apart hb1 (by decide) h)
            replace hb2 := hb2.upd hu (fun h => hb6.box_apart hb2 (by decide) h)
            replace H := Ext.own H hb6 hu; clear hu
            refine RL.nil ?_
            refine AL.p 8 (by kernel_rfl) rfl (bld rfl rfl) rfl ?_
            refine AL.m 12 (by kernel_rfl) rfl (ld_box rfl hb1 rfl) rfl ?_
            refine AL.p 13 (by kernel_rfl) rfl (bld rfl rfl) rfl ?_
            refine AL.o 14 (by kernel_rfl) rfl ?_
            have hb2_0 := hb2
            refine RL.storeS rfl hb2 rfl rfl rfl rfl ?_
            intro w74 hu hb2
            replace hb10 := hb10.upd hu (fun j hj e => hb10.box_apart hb2_0 (by decide) (e ▸ hj))
            replace H := H.box hu hb2.old; replace hb1 := hb1.upd hu ne1_2
            refine RL.nil ?_
            refine AL.nil (by kernel_rfl) ?_
            refine ⟨⟨s.name, a10, c10, s.topics, s.timeout, s.seen⟩, Head.intro (by repeat (first | with_reducible exact AgreeOff.refl _ _ | with_reducible exact AgreeOff.mix _ _ _ | refine AgreeOff.look rfl ?_ | refine AgreeOff.mixs rfl ?_)) trivial, H, hb1, hb2, rfl, hb10⟩
          · refine ⟨_, rfl, ?_⟩
            refine RL.m (ld_box rfl hb1 rfl) rfl ?_
            refine RL.nil ?_
            refine AL.o 7 (by kernel_rfl) rfl ?_
            refine RL.appendS rfl hb6 H.size rfl (hl.ext H) rfl rfl (by decide) rfl cell1 (by rw [List.length_nil]; omega) (by rw [List.length_nil]; simp only [maxLen]; omega) rfl ?_
            intro w75 a10 c10 hu hb10 hfr10
            replace hb1 := hb1.upd hu (fun h => hb6.box_apart hb1 (by decide) h)
            replace hb2 := hb2.upd hu (fun h => hb6.box_apart hb2 (by decide) h)
            replace H := Ext.own H hb6 hu; clear hu
            refine RL.nil ?_
            refine AL.p 8 (by kernel_rfl) rfl (bld rfl rfl) rfl ?_
            refine AL.p 13 (by kernel_rfl) rfl (bld rfl rfl) rfl ?_
            refine AL.o 14 (by kernel_rfl) rfl ?_
            have hb2_0 := hb2
            refine RL.storeS rfl hb2 rfl rfl rfl rfl ?_
            intro w76 hu hb2
            replace hb10 := hb10.upd hu (fun j hj e => hb10.box_apart hb2_0 (by decide) (e ▸ hj))
            replace H := H.box hu hb2.old; replace hb1 := hb1.upd hu ne1_2
            refine RL.nil ?_
            refine AL.nil (by kernel_rfl) ?_
            refine ⟨⟨s.name, a10, c10, s.topics, s.timeout, s.seen⟩, Head.intro (by repeat (first | with_reducible exact AgreeOff.refl _ _ | with_reducible exact AgreeOff.mix _ _ _ | refine AgreeOff.look rfl ?_ | refine AgreeOff.mixs rfl ?_)) trivial, H, hb1, hb2, rfl, hb10⟩
        · refine ⟨_, rfl, ?_⟩
          refine RL.appendS rfl hb6 H.size rfl (hl.ext H) rfl rfl (by decide) rfl cell1 (by rw [List.length_nil]; omega) (by rw [List.length_nil]; simp only [maxLen]; omega) rfl ?_
          intro w77 a10 c10 hu hb10 hfr10
          replace hb1 := hb1.upd hu (fun h => hb6.box_apart hb1 (by decide) h)
          replace hb2 := hb2.upd hu (fun h => hb6.box_apart hb2 (by decide) h)
          replace H := Ext.own H hb6 hu; clear hu
          refine RL.nil ?_
          refine AL.m 2 (by kernel_rfl) rfl (ld_box rfl hb1 rfl) rfl ?_
          refine AL.p 8 (by kernel_rfl) rfl (bld rfl rfl) rfl ?_
          refine AL.m 12 (by kernel_rfl) rfl (ld_box rfl hb1 rfl) rfl ?_
          refine AL.p 13 (by kernel_rfl) rfl (bld rfl rfl) rfl ?_
          refine AL.o 14 (by kernel_rfl) rfl ?_
          have hb2_0 := hb2
          refine RL.storeS rfl hb2 rfl rfl rfl rfl ?_
          intro w78 hu hb2
          replace hb10 := hb10.upd hu (fun j hj e => hb10.box_apart hb2_0 (by decide) (e ▸ hj))
          replace H := H.box hu hb2.old; replace hb1 := hb1.upd hu ne1_2
          refine RL.nil ?_
          refine AL.nil (by kernel_rfl) ?_
          refine ⟨⟨s.name, a10, c10, s.topics, s.timeout, s.seen⟩, Head.intro (by repeat (first | with_reducible exact AgreeOff.refl _ _ | with_reducible exact AgreeOff.mix _ _ _ | refine AgreeOff.look rfl ?_ | refine AgreeOff.mixs rfl ?_)) trivial, H, hb1, hb2, rfl, hb10⟩
        · refine ⟨_, rfl, ?_⟩
          refine RL.m (ld_box rfl hb1 rfl) rfl ?_
          refine RL.nil ?_
          refine AL.all (rs := [2, 7]) (by kernel_rfl) rfl ?_
          rintro i hi; simp only [List.mem_cons, List.not_mem_nil, or_false] at hi; rcases hi with rfl | rfl
          · refine ⟨_, rfl, ?_⟩
            refine RL.m (ld_box rfl hb1 rfl) rfl ?_
            refine RL.nil ?_
            refine AL.o 7 (by kernel_rfl) rfl ?_
            refine RL.appendS rfl hb6 H.size rfl (hl.ext H) rfl rfl (by decide) rfl cell1 (by rw [List.length_nil]; omega) (by rw [List.length_nil]; simp only [maxLen]; omega) rfl ?_
            intro w79 a10 c10 hu hb10 hfr10
            replace hb1 := hb1.upd hu (fun h => hb6.box_apart hb1 (by decide) h)
            replace hb2 := hb2.upd hu (fun h => hb6.box_apart hb2 (by decide) h)
            replace H := Ext.own H hb6 hu; clear hu
            refine RL.nil ?_
            refine AL.p 8 (by kernel_rfl) rfl (bld rfl rfl) rfl ?_
            refine AL.p 13 (by kernel_rfl) rfl (bld rfl rfl) rfl ?_
            refine AL.o 14 (by kernel_rfl) rfl ?_
            have hb2_0 := hb2
            refine RL.storeS rfl hb2 rfl rfl rfl rfl ?_
            intro w80 hu hb2
            replace hb10 := hb10.upd hu (fun j hj e => hb10.box_apart hb2_0 (by decide) (e ▸ hj))
            replace H := H.box hu hb2.old; replace hb1 := hb1.upd hu ne1_2
            refine RL.nil ?_
            refine AL.nil (by kernel_rfl) ?_
            refine ⟨⟨s.name, a10, c10, s.topics, s.timeout, s.seen⟩, Head.intro (by repeat (first | with_reducible exact AgreeOff.refl _ _ | with_reducible exact AgreeOff.mix _ _ _ | refine AgreeOff.look rfl ?_ | refine AgreeOff.mixs rfl ?_)) trivial, H, hb1, hb2, rfl, hb10⟩
          · refine ⟨_, rfl, ?_⟩
            refine RL.appendS rfl hb6 H.size rfl (hl.ext H) rfl rfl (by decide) rfl cell1 (by rw [List.length_nil]; omega) (by rw [List.length_nil]; simp only [maxLen]; omega) rfl ?_
            intro w81 a10 c10 hu hb10 hfr10
            replace hb1 := hb1.upd hu (fun h => hb6.box_apart hb1 (by decide) h)
            replace hb2 := hb2.upd hu (fun h => hb6.box_apart hb2 (by decide) h)
            replace H := Ext.own H hb6 hu; clear hu
            refine RL.nil ?_
            refine AL.m 2 (by kernel_rfl) rfl (ld_box rfl hb1 rfl) rfl ?_
            refine AL.p 8 (by kernel_rfl) rfl (bld rfl rfl) rfl ?_
            refine AL.p 13 (by kernel_rfl) rfl (bld rfl rfl) rfl ?_
            refine AL.o 14 (by kernel_rfl) rfl ?_
            have hb2_0 := hb2
            refine RL.storeS rfl hb2 rfl rfl rfl rfl ?_
            intro w82 hu hb2
            replace hb10 := hb10.upd hu (fun j hj e => hb10.box_apart hb2_0 (by decide) (e ▸ hj))
            replace H := H.box hu hb2.old; replace hb1 := hb1.upd hu ne1_2
            refine RL.nil ?_
            refine AL.nil (by kernel_rfl) ?_
            refine ⟨⟨s.name, a10, c10, s.topics, s.timeout, s.seen⟩, Head.intro (by repeat (first | with_reducible exact AgreeOff.refl _ _ | with_reducible exact AgreeOff.mix _ _ _ | refine AgreeOff.look rfl ?_ | refine AgreeOff.mixs rfl ?_)) trivial, H, hb1, hb2, rfl, hb10⟩
      · refine ⟨_, rfl, ?_⟩
        refine RL.m (ld_box rfl hb1 rfl) rfl ?_
        refine RL.nil ?_
        refine AL.all (rs := [2, 3]) (by kernel_rfl) rfl ?_
        rintro i hi; simp only [List.mem_cons, List.not_mem_nil, or_false] at hi; rcases hi with rfl | rfl
        · refine ⟨_, rfl, ?_⟩
          refine RL.m (ld_box rfl hb1 rfl) rfl ?_
          refine RL.nil ?_
          refine AL.o 3 (by kernel_rfl) rfl ?_
          refine RL.build0 (α := ByteArray) w0.heap.size H.size rfl ?_
          intro w83 i6 hi6 hx hb6
          replace H := H.ext hx; replace hb1 := hb1.ext hx; replace hb2 := hb2.ext hx; clear hx
          refine RL.nil ?_
          refine AL.o 7 (by kernel_rfl) rfl ?_
          refine RL.appendS rfl hb6 H.size rfl (hl.ext H) rfl rfl (by decide) rfl cell1 (by rw [List.length_nil]; omega) (by rw [List.length_nil]; simp only [maxLen]; omega) rfl ?_
          intro w84 a10 c10 hu hb10 hfr10
          replace hb1 := hb1.upd hu (fun h => hb6.box_apart hb1 (by decide) h)
          replace hb2 := hb2.upd hu (fun h => hb6.box_apart hb2 (by decide) h)
          replace H := Ext.own H hb6 hu; clear hu
          refine RL.nil ?_
          refine AL.p 8 (by kernel_rfl) rfl (bld rfl rfl) rfl ?_
          refine AL.p 13 (by kernel_rfl) rfl (bld rfl rfl) rfl ?_
          refine AL.o 14 (by kernel_rfl) rfl ?_
          have hb2_0 := hb2
          refine RL.storeS rfl hb2 rfl rfl rfl rfl ?_
          intro w85 hu hb2
          replace hb10 := hb10.upd hu (fun j hj e => hb10.box_apart hb2_0 (by decide) (e ▸ hj))
          replace H := H.box hu hb2.old; replace hb1 := hb1.upd hu ne1_2
          refine RL.nil ?_
          refine AL.nil (by kernel_rfl) ?_
          refine ⟨⟨s.name, a10, c10, s.topics, s.timeout, s.seen⟩, Head.intro (by repeat (first | with_reducible exact AgreeOff.refl _ _ | with_reducible exact AgreeOff.mix _ _ _ | refine AgreeOff.look rfl ?_ | refine AgreeOff.mixs rfl ?_)) trivial, H, hb1, hb2, rfl, hb10⟩
        · refine ⟨_, rfl, ?_⟩
          refine RL.build0 (α := ByteArray) w0.heap.size H.size rfl ?_
          intro w86 i6 hi6 hx hb6
          replace H := H.ext hx; replace hb1 := hb1.ext hx; replace hb2 := hb2.ext hx; clear hx
          refine RL.nil ?_
          refine AL.all (rs := [2, 7]) (by kernel_rfl) rfl ?_
          rintro i hi; simp only [List.mem_cons, List.not_mem_nil, or_false] at hi; rcases hi with rfl | rfl
          · refine ⟨_, rfl, ?_⟩
            refine RL.m (ld_box rfl hb1 rfl) rfl ?_
            refine RL.nil ?_
            refine AL.o 7 (by kernel_rfl) rfl ?_
            refine RL.appendS rfl hb6 H.size rfl (hl.ext H) rfl rfl (by decide) rfl cell1 (by rw [List.length_nil]; omega) (by rw [List.length_nil]; simp only [maxLen]; omega) rfl ?_
            intro w87 a10 c10 hu hb10 hfr10
            replace hb1 := hb1.upd hu (fun h => hb6.box_apart hb1 (by decide) h)
            replace hb2 := hb2.upd hu (fun h => hb6.box_apart hb2 (by decide) h)
            replace H := Ext.own H hb6 hu; clear hu
            refine RL.nil ?_
            refine AL.p 8 (by kernel_rfl) rfl (bld rfl rfl) rfl ?_
            refine AL.p 13 (by kernel_rfl) rfl (bld rfl rfl) rfl ?_
            refine AL.o 14 (by kernel_rfl) rfl ?_
            have hb2_0 := hb2
            refine RL.storeS rfl hb2 rfl rfl rfl rfl ?_
            intro w88 hu hb2
            replace hb10 := hb10.upd hu (fun j hj e => hb10.box_apart hb2_0 (by decide) (e ▸ hj))
            replace H := H.box hu hb2.old; replace hb1 := hb1.upd hu ne1_2
            refine RL.nil ?_
            refine AL.nil (by kernel_rfl) ?_
            refine ⟨⟨s.name, a10, c10, s.topics, s.timeout, s.seen⟩, Head.intro (by repeat (first | with_reducible exact AgreeOff.refl _ _ | with_reducible exact AgreeOff.mix _ _ _ | refine AgreeOff.look rfl ?_ | refine AgreeOff.mixs rfl ?_)) trivial, H, hb1, hb2, rfl, hb10⟩
          · refine ⟨_, rfl, ?_⟩
            refine RL.appendS rfl hb6 H.size rfl (hl.ext H) rfl rfl (by decide) rfl cell1 (by rw [List.length_nil]; omega) (by rw [List.length_nil]; simp only [maxLen]; omega) rfl ?_
            intro w89 a10 c10 hu hb10 hfr10
            replace hb1 := hb1.upd hu (fun h => hb6.box_apart hb1 (by decide) h)
            replace hb2 := hb2.upd hu (fun h => hb6.box_apart hb2 (by decide) h)
            replace H := Ext.own H hb6 hu; clear hu
            refine RL.nil ?_
            refine AL.m 2 (by kernel_rfl) rfl (ld_box rfl hb1 rfl) rfl ?_
            refine AL.p 8 (by kernel_rfl) rfl (bld rfl rfl) rfl ?_
            refine AL.p 13 (by kernel_rfl) rfl (bld rfl rfl) rfl ?_
            refine AL.o 14 (by kernel_rfl) rfl ?_
            have hb2_0 := hb2
            refine RL.storeS rfl hb2 rfl rfl rfl rfl ?_
            intro w90 hu hb2
            replace hb10 := hb10.upd hu (fun j hj e => hb10.box_apart hb2_0 (by decide) (e ▸ hj))
            replace H := H.box hu hb2.old; replace hb1 := hb1.upd hu ne1_2
            refine RL.nil ?_
            refine AL.nil (by kernel_rfl) ?_
            refine ⟨⟨s.name, a10, c10, s.topics, s.timeout, s.seen⟩, Head.intro (by repeat (first | with_reducible exact AgreeOff.refl _ _ | with_reducible exact AgreeOff.mix _ _ _ | refine AgreeOff.look rfl ?_ | refine AgreeOff.mixs rfl ?_)) trivial, H, hb1, hb2, rfl, hb10⟩
    · refine ⟨_, rfl, ?_⟩
      refine RL.m (ld_box rfl hb1 rfl) rfl ?_
      refine RL.nil ?_
      refine AL.all (rs := [2, 3, 10]) (by kernel_rfl) rfl ?_
      rintro i hi; simp only [List.mem_cons, List.not_mem_nil, or_false] at hi; rcases hi with rfl | rfl | rfl
      · refine ⟨_, rfl, ?_⟩
        refine RL.m (ld_box rfl hb1 rfl) rfl ?_
        refine RL.nil ?_
        refine AL.all (rs := [3, 10]) (by kernel_rfl) rfl ?_
        rintro i hi; simp only [List.mem_cons, List.not_mem_nil, or_false] at hi; rcases hi with rfl | rfl
        · refine ⟨_, rfl, ?_⟩
          refine RL.build0 (α := ByteArray) w0.heap.size H.size rfl ?_
          intro w91 i6 hi6 hx hb6
          replace H := H.ext hx; replace hb1 := hb1.ext hx; replace hb2 := hb2.ext hx; clear hx
          refine RL.nil ?_
          refine AL.all (rs := [7, 10]) (by kernel_rfl) rfl ?_
          rintro i hi; simp only [List.mem_cons, List.not_mem_nil, or_false] at hi; rcases hi with rfl | rfl
          · refine ⟨_, rfl, ?_⟩
            refine RL.appendS rfl hb6 H.size rfl (hl.ext H) rfl rfl (by decide) rfl cell1 (by rw [List.length_nil]; omega) (by rw [List.length_nil]; simp only [maxLen]; omega) rfl ?_
            intro w92 a10 c10 hu hb10 hfr10
            replace hb1 := hb1.upd hu (fun h => hb6.box_apart hb1 (by decide) h)
            replace hb2 := hb2.upd hu (fun h => hb6.box_apart hb2 (by decide) h)
            replace H := Ext.own H hb6 hu; clear hu
            refine RL.nil ?_
            refine AL.p 8 (by kernel_rfl) rfl (bld rfl rfl) rfl ?_
            refine AL.m 10 (by kernel_rfl) rfl (ld_box rfl hb1 rfl) rfl ?_
            refine AL.p 13 (by kernel_rfl) rfl (bld rfl rfl) rfl ?_
            refine AL.o 14 (by kernel_rfl) rfl ?_
            have hb2_0 := hb2
            refine RL.storeS rfl hb2 rfl rfl rfl rfl ?_
            intro w93 hu hb2
            replace hb10 := hb10.upd hu (fun j hj e => hb10.box_apart hb2_0 (by decide) (e ▸ hj))
            replace H := H.box hu hb2.old; replace hb1 := hb1.upd hu ne1_2
            refine RL.nil ?_
            refine AL.nil (by kernel_rfl) ?_
            refine ⟨⟨s.name, a10, c10, s.topics, s.timeout, s.seen⟩, Head.intro (by repeat (first | with_reducible exact AgreeOff.refl _ _ | with_reducible exact AgreeOff.mix _ _ _ | refine AgreeOff.look rfl ?_ | refine AgreeOff.mixs rfl ?_)) trivial, H, hb1, hb2, rfl, hb10⟩
          · refine ⟨_, rfl, ?_⟩
            refine RL.m (ld_box rfl hb1 rfl) rfl ?_
            refine RL.nil ?_
            refine AL.o 7 (by kernel_rfl) rfl ?_
            refine RL.appendS rfl hb6 H.size rfl (hl.ext H) rfl rfl (by decide) rfl cell1 (by rw [List.length_nil]; omega) (by rw [List.length_nil]; simp only [maxLen]; omega) rfl ?_
            intro w94 a10 c10 hu hb10 hfr10
            replace hb1 := hb1.upd hu (fun h => hb6.box_apart hb1 (by decide) h)
            replace hb2 := hb2.upd hu (fun h => hb6.box_apart hb2 (by decide) h)
            replace H := Ext.own H hb6 hu; clear hu
            refine RL.nil ?_
            refine AL.p 8 (by kernel_rfl) rfl (bld rfl rfl) rfl ?_
            refine AL.p 13 (by kernel_rfl) rfl (bld rfl rfl) rfl ?_
            refine AL.o 14 (by kernel_rfl) rfl ?_
            have hb2_0 := hb2
            refine RL.storeS rfl hb2 rfl rfl rfl rfl ?_
            intro w95 hu hb2
            replace hb10 := hb10.upd hu (fun j hj e => hb10.box_apart hb2_0 (by decide) (e ▸ hj))
            replace H := H.box hu hb2.old; replace hb1 := hb1.upd hu ne1_2
            refine RL.nil ?_
            refine AL.nil (by kernel_rfl) ?_
            refine ⟨⟨s.name, a10, c10, s.topics, s.timeout, s.seen⟩, Head.intro (by repeat (first | with_reducible exact AgreeOff.refl _ _ | with_reducible exact AgreeOff.mix _ _ _ | refine AgreeOff.look rfl ?_ | refine AgreeOff.mixs rfl ?_)) trivial, H, hb1, hb2, rfl, hb10⟩
        · refine ⟨_, rfl, ?_⟩
          refine RL.m (ld_box rfl hb1 rfl) rfl ?_
          refine RL.nil ?_
          refine AL.o 3 (by kernel_rfl) rfl ?_
          refine RL.build0 (α := ByteArray) w0.heap.size H.size rfl ?_
          intro w96 i6 hi6 hx hb6
          replace H := H.ext hx; replace hb1 := hb1.ext hx; replace hb2 := hb2.ext hx; clear hx
          refine RL.nil ?_
          refine AL.o 7 (by kernel_rfl) rfl ?_
          refine RL.appendS rfl hb6 H.size rfl (hl.ext H) rfl rfl (by decide) rfl cell1 (by rw [List.length_nil]; omega) (by rw [List.length_nil]; simp only [maxLen]; omega) rfl ?_
          intro w97 a10 c10 hu hb10 hfr10
          replace hb1 := hb1.upd hu (fun h => hb6.box_apart hb1 (by decide) h)
          replace hb2 := hb2.upd hu (fun h => hb6.box_apart hb2 (by decide) h)
          replace H := Ext.own H hb6 hu; clear hu
          refine RL.nil ?_
          refine AL.p 8 (by kernel_rfl) rfl (bld rfl rfl) rfl ?_
          refine AL.p 13 (by kernel_rfl) rfl (bld rfl rfl) rfl ?_
          refine AL.o 14 (by kernel_rfl) rfl ?_
          have hb2_0 := hb2
          refine RL.storeS rfl hb2 rfl rfl rfl rfl ?_
          intro w98 hu hb2
          replace hb10 := hb10.upd hu (fun j hj e => hb10.box_apart hb2_0 (by decide) (e ▸ hj))
          replace H := H.box hu hb2.old; replace hb1 := hb1.upd hu ne1_2
          refine RL.nil ?_
          refine AL.nil (by kernel_rfl) ?_
          refine ⟨⟨s.name, a10, c10, s.topics, s.timeout, s.seen⟩, Head.intro (by repeat (first | with_reducible exact AgreeOff.refl _ _ | with_reducible exact AgreeOff.mix _ _ _ | refine AgreeOff.look rfl ?_ | refine AgreeOff.mixs rfl ?_)) trivial, H, hb1, hb2, rfl, hb10⟩
      · refine ⟨_, rfl, ?_⟩
        refine RL.build0 (α := ByteArray) w0.heap.size H.size rfl ?_
        intro w99 i6 hi6 hx hb6
        replace H := H.ext hx; replace hb1 := hb1.ext hx; replace hb2 := hb2.ext hx; clear hx
        refine RL.nil ?_
        refine AL.all (rs := [2, 7, 10]) (by kernel_rfl) rfl ?_
        rintro i hi; simp only [List.mem_cons, List.not_mem_nil, or_false] at hi; rcases hi with rfl | rfl | rfl
        · refine ⟨_, rfl, ?_⟩
          refine RL.m (ld_box rfl hb1 rfl) rfl ?_
          refine RL.nil ?_
          refine AL.all (rs := [7, 10]) (by kernel_rfl) rfl ?_
          rintro i hi; simp only [List.mem_cons, List.not_mem_nil, or_false] at hi; rcases hi with rfl | rfl
          · refine ⟨_, rfl, ?_⟩
            refine RL.appendS rfl hb6 H.size rfl (hl.ext H) rfl rfl (by decide) rfl cell1 (by rw [List.length_nil]; omega) (by rw [List.length_nil]; simp only [maxLen]; omega) rfl ?_
            intro w100 a10 c10 hu hb10 hfr10
            replace hb1 := hb1.upd hu (fun h => hb6.box_apart hb1 (by decide) h)
            replace hb2 := hb2.upd hu (fun h => hb6.box_apart hb2 (by decide) h)
            replace H := Ext.own H hb6 hu; clear hu
            refine RL.nil ?_
            refine AL.p 8 (by kernel_rfl) rfl (bld rfl rfl) rfl ?_
            refine AL.m 10 (by kernel_rfl) rfl (ld_box rfl hb1 rfl) rfl ?_
            refine AL.p 13 (by kernel_rfl) rfl (bld rfl rfl) rfl ?_
            refine AL.o 14 (by kernel_rfl) rfl ?_
            have hb2_0 := hb2
            refine RL.storeS rfl hb2 rfl rfl rfl rfl ?_
            intro w101 hu hb2
            replace hb10 := hb10.upd hu (fun j hj e => hb10.box_apart hb2_0 (by decide) (e ▸ hj))
            replace H := H.box hu hb2.old; replace hb1 := hb1.upd hu ne1_2
            refine RL.nil ?_
            refine AL.nil (by kernel_rfl) ?_
            refine ⟨⟨s.name, a10, c10, s.topics, s.timeout, s.seen⟩, Head.intro (by repeat (first | with_reducible exact AgreeOff.refl _ _ | with_reducible exact AgreeOff.mix _ _ _ | refine AgreeOff.look rfl ?_ | refine AgreeOff.mixs rfl ?_)) trivial, H, hb1, hb2, rfl, hb10⟩
          · refine ⟨_, rfl, ?_⟩
            refine RL.m (ld_box rfl hb1 rfl) rfl ?_
            refine RL.nil ?_
            refine AL.o 7 (by kernel_rfl) rfl ?_
            refine RL.appendS rfl hb6 H.size rfl (hl.ext H) rfl rfl (by decide) rfl cell1 (by rw [List.length_nil]; omega) (by rw [List.length_nil]; simp only [maxLen]; omega) rfl ?_
            intro w102 a10 c10 hu hb10 hfr10
            replace hb1 := hb1.upd hu (fun h => hb6.box_apart hb1 (by decide) h)
            replace hb2 := hb2.upd hu (fun h => hb6.box_apart hb2 (by decide) h)
            replace H := Ext.own H hb6 hu; clear hu
            refine RL.nil ?_
            refine AL.p 8 (by kernel_rfl) rfl (bld rfl rfl) rfl ?_
            refine AL.p 13 (by kernel_rfl) rfl (bld rfl rfl) rfl ?_
            refine AL.o 14 (by kernel_rfl) rfl ?_
            have hb2_0 := hb2
            refine RL.storeS rfl hb2 rfl rfl rfl rfl ?_
            intro w103 hu hb2
            replace hb10 := hb10.upd hu (fun j hj e => hb10.box_apart hb2_0 (by decide) (e ▸ hj))
            replace H := H.box hu hb2.old; replace hb1 := hb1.upd hu ne1_2
            refine RL.nil ?_
            refine AL.nil (by kernel_rfl) ?_
            refine ⟨⟨s.name, a10, c10, s.topics, s.timeout, s.seen⟩, Head.intro (by repeat (first | with_reducible exact AgreeOff.refl _ _ | with_reducible exact AgreeOff.mix _ _ _ | refine AgreeOff.look rfl ?_ | refine AgreeOff.mixs rfl ?_)) trivial, H, hb1, hb2, rfl, hb10⟩
        · refine ⟨_, rfl, ?_⟩
          refine RL.appendS rfl hb6 H.size rfl (hl.ext H) rfl rfl (by decide) rfl cell1 (by rw [List.length_nil]; omega) (by rw [List.length_nil]; simp only [maxLen]; omega) rfl ?_
          intro w104 a10 c10 hu hb10 hfr10
          replace hb1 := hb1.upd hu (fun h => hb6.box_apart hb1 (by decide) h)
          replace hb2 := hb2.upd hu (fun h => hb6.box_apart hb2 (by decide) h)
          replace H := Ext.own H hb6 hu; clear hu
          refine RL.nil ?_
          refine AL.m 2 (by kernel_rfl) rfl (ld_box rfl hb1 rfl) rfl ?_
          refine AL.p 8 (by kernel_rfl) rfl (bld rfl rfl) rfl ?_
          refine AL.m 10 (by kernel_rfl) rfl (ld_box rfl hb1 rfl) rfl ?_
          refine AL.p 13 (by kernel_rfl) rfl (bld rfl rfl) rfl ?_
          refine AL.o 14 (by kernel_rfl) rfl ?_
          have hb2_0 := hb2
          refine RL.storeS rfl hb2 rfl rfl rfl rfl ?_
          intro w105 hu hb2
          replace hb10 := hb10.upd hu (fun j hj e => hb10.box_apart hb2_0 (by decide) (e ▸ hj))
          replace H := H.box hu hb2.old; replace hb1 := hb1.upd hu ne1_2
          refine RL.nil ?_
          refine AL.nil (by kernel_rfl) ?_
          refine ⟨⟨s.name, a10, c10, s.topics, s.timeout, s.seen⟩, Head.intro (by repeat (first | with_reducible exact AgreeOff.refl _ _ | with_reducible exact AgreeOff.mix _ _ _ | refine AgreeOff.look rfl ?_ | refine AgreeOff.mixs rfl ?_)) trivial, H, hb1, hb2, rfl, hb10⟩
        · refine ⟨_, rfl, ?_⟩
          refine RL.m (ld_box rfl hb1 rfl) rfl ?_
          refine RL.nil ?_
          refine AL.all (rs := [2, 7]) (by kernel_rfl) rfl ?_
          rintro i hi; simp only [List.mem_cons, List.not_mem_nil, or_false] at hi; rcases hi with rfl | rfl
          · refine ⟨_, rfl, ?_⟩
            refine RL.m (ld_box rfl hb1 rfl) rfl ?_
            refine RL.nil ?_
            refine AL.o 7 (by kernel_rfl) rfl ?_
            refine RL.appendS rfl hb6 H.size rfl (hl.ext H) rfl rfl (by decide) rfl cell1 (by rw [List.length_nil]; omega) (by rw [List.length_nil]; simp only [maxLen]; omega) rfl ?_
            intro w106 a10 c10 hu hb10 hfr10
            replace hb1 := hb1.upd hu (fun h => hb6.box_apart hb1 (by decide) h)
            replace hb2 := hb2.upd hu (fun h => hb6.box_apart hb2 (by decide) h)
            replace H := Ext.own H hb6 hu; clear hu
            refine RL.nil ?_
            refine AL.p 8 (by kernel_rfl) rfl (bld rfl rfl) rfl ?_
            refine AL.p 13 (by kernel_rfl) rfl (bld rfl rfl) rfl ?_
            refine AL.o 14 (by kernel_rfl) rfl ?_
            have hb2_0 := hb2
            refine RL.storeS rfl hb2 rfl rfl rfl rfl ?_
            intro w107 hu hb2
            replace hb10 := hb10.upd hu (fun j hj e => hb10.box_apart hb2_0 (by decide) (e ▸ hj))
            replace H := H.box hu hb2.old; replace hb1 := hb1.upd hu ne1_2
            refine RL.nil ?_
            refine AL.nil (by kernel_rfl) ?_
            refine ⟨⟨s.name, a10, c10, s.topics, s.timeout, s.seen⟩, Head.intro (by repeat (first | with_reducible exact AgreeOff.refl _ _ | with_reducible exact AgreeOff.mix _ _ _ | refine AgreeOff.look rfl ?_ | refine AgreeOff.mixs rfl ?_)) trivial, H, hb1, hb2, rfl, hb10⟩
          · refine ⟨_, rfl, ?_⟩
            refine RL.appendS rfl hb6 H.size rfl (hl.ext H) rfl rfl (by decide) rfl cell1 (by rw [List.length_nil]; omega) (by rw [List.length_nil]; simp only [maxLen]; omega) rfl ?_
            intro w108 a10 c10 hu hb10 hfr10
            replace hb1 := hb1.upd hu (fun h => hb6.box_apart hb1 (by decide) h)
            replace hb2 := hb2.upd hu (fun h => hb6.box_apart hb2 (by decide) h)
            replace H := Ext.own H hb6 hu; clear hu
            refine RL.nil ?_
            refine AL.m 2 (by kernel_rfl) rfl (ld_box rfl hb1 rfl) rfl ?_
            refine AL.p 8 (by kernel_rfl) rfl (bld rfl rfl) rfl ?_
            refine AL.p 13 (by kernel_rfl) rfl (bld rfl rfl) rfl ?_
            refine AL.o 14 (by kernel_rfl) rfl ?_
            have hb2_0 := hb2
            refine RL.storeS rfl hb2 rfl rfl rfl rfl ?_
            intro w109 hu hb2
            replace hb10 := hb10.upd hu (fun j hj e => hb10.box_apart hb2_0 (by decide) (e ▸ hj))
            replace H := H.box hu hb2.old; replace hb1 := hb1.upd hu ne1_2
            refine RL.nil ?_
            refine AL.nil (by kernel_rfl) ?_
            refine ⟨⟨s.name, a10, c10, s.topics, s.timeout, s.seen⟩, Head.intro (by repeat (first | with_reducible exact AgreeOff.refl _ _ | with_reducible exact AgreeOff.mix _ _ _ | refine AgreeOff.look rfl ?_ | refine AgreeOff.mixs rfl ?_)) trivial, H, hb1, hb2, rfl, hb10⟩
      · refine ⟨_, rfl, ?_⟩
        refine RL.m (ld_box rfl hb1 rfl) rfl ?_
        refine RL.nil ?_
        refine AL.all (rs := [2, 3]) (by kernel_rfl) rfl ?_
        rintro i hi; simp only [List.mem_cons, List.not_mem_nil, or_false] at hi; rcases hi with rfl | rfl
        · refine ⟨_, rfl, ?_⟩
          refine RL.m (ld_box rfl hb1 rfl) rfl ?_
          refine RL.nil ?_
          refine AL.o 3 (by kernel_rfl) rfl ?_
          refine RL.build0 (α := ByteArray) w0.heap.size H.size rfl ?_
          intro w110 i6 hi6 hx hb6
          replace H := H.ext hx; replace hb1 := hb1.ext hx; replace hb2 := hb2.ext hx; clear hx
          refine RL.nil ?_
          refine AL.o 7 (by kernel_rfl) rfl ?_
          refine RL.appendS rfl hb6 H.size rfl (hl.ext H) rfl rfl (by decide) rfl cell1 (by rw [List.length_nil]; omega) (by rw [List.length_nil]; simp only [maxLen]; omega) rfl ?_
          intro w111 a10 c10 hu hb10 hfr10
          replace hb1 := hb1.upd hu (fun h => hb6.box_apart hb1 (by decide) h)
          replace hb2 := hb2.upd hu (fun h => hb6.box_apart hb2 (by decide) h)
          replace H := Ext.own H hb6 hu; clear hu
          refine RL.nil ?_
          refine AL.p 8 (by kernel_rfl) rfl (bld rfl rfl) rfl ?_
          refine AL.p 13 (by kernel_rfl) rfl (bld rfl rfl) rfl ?_
          refine AL.o 14 (by kernel_rfl) rfl ?_
          have hb2_0 := hb2
          refine RL.storeS rfl hb2 rfl rfl rfl rfl ?_
          intro w112 hu hb2
          replace hb10 := hb10.upd hu (fun j hj e => hb10.box_apart hb2_0 (by decide) (e ▸ hj))
          replace H := H.box hu hb2.old; replace hb1 := hb1.upd hu ne1_2
          refine RL.nil ?_
          refine AL.nil (by kernel_rfl) ?_
          refine ⟨⟨s.name, a10, c10, s.topics, s.timeout, s.seen⟩, Head.intro (by repeat (first | with_reducible exact AgreeOff.refl _ _ | with_reducible exact AgreeOff.mix _ _ _ | refine AgreeOff.look rfl ?_ | refine AgreeOff.mixs rfl ?_)) trivial, H, hb1, hb2, rfl, hb10⟩
        · refine ⟨_, rfl, ?_⟩
          refine RL.build0 (α := ByteArray) w0.heap.size H.size rfl ?_
          intro w113 i6 hi6 hx hb6
          replace H := H.ext hx; replace hb1 := hb1.ext hx; replace hb2 := hb2.ext hx; clear hx
          refine RL.nil ?_
          refine AL.all (rs := [2, 7]) (by kernel_rfl) rfl ?_
          rintro i hi; simp only [List.mem_cons, List.not_mem_nil, or_false] at hi; rcases hi with rfl | rfl
          · refine ⟨_, rfl, ?_⟩
            refine RL.m (ld_box rfl hb1 rfl) rfl ?_
            refine RL.nil ?_
            refine AL.o 7 (by kernel_rfl) rfl ?_
            refine RL.appendS rfl hb6 H.size rfl (hl.ext H) rfl rfl (by decide) rfl cell1 (by rw [List.length_nil]; omega) (by rw [List.length_nil]; simp only [maxLen]; omega) rfl ?_
            intro w114 a10 c10 hu hb10 hfr10
            replace hb1 := hb1.upd hu (fun h => hb6.box_apart hb1 (by decide) h)
            replace hb2 := hb2.upd hu (fun h => hb6.box_apart hb2 (by decide) h)
            replace H := Ext.own H hb6 hu; clear hu
            refine RL.nil ?_
            refine AL.p 8 (by kernel_rfl) rfl (bld rfl rfl) rfl ?_
            refine AL.p 13 (by kernel_rfl) rfl (bld rfl rfl) rfl ?_
            refine AL.o 14 (by kernel_rfl) rfl ?_
            have hb2_0 := hb2
            refine RL.storeS rfl hb2 rfl rfl rfl rfl ?_
            intro w115 hu hb2
            replace hb10 := hb10.upd hu (fun j hj e => hb10.box_apart hb2_0 (by decide) (e ▸ hj))
            replace H := H.box hu hb2.old; replace hb1 := hb1.upd hu ne1_2
            refine RL.nil ?_
            refine AL.nil (by kernel_rfl) ?_
            refine ⟨⟨s.name, a10, c10, s.topics, s.timeout, s.seen⟩, Head.intro (by repeat (first | with_reducible exact AgreeOff.refl _ _ | with_reducible exact AgreeOff.mix _ _ _ | refine AgreeOff.look rfl ?_ | refine AgreeOff.mixs rfl ?_)) trivial, H, hb1, hb2, rfl, hb10⟩
          · refine ⟨_, rfl, ?_⟩
            refine RL.appendS rfl hb6 H.size rfl (hl.ext H) rfl rfl (by decide) rfl cell1 (by rw [List.length_nil]; omega) (by rw [List.length_nil]; simp only [maxLen]; omega) rfl ?_
            intro w116 a10 c10 hu hb10 hfr10
            replace hb1 := hb1.upd hu (fun h => hb6.box_apart hb1 (by decide) h)
            replace hb2 := hb2.upd hu (fun h => hb6.box_apart hb2 (by decide) h)
            replace H := Ext.own H hb6 hu; clear hu
            refine RL.nil ?_
            refine AL.m 2 (by kernel_rfl) rfl (ld_box rfl hb1 rfl) rfl ?_
            refine AL.p 8 (by kernel_rfl) rfl (bld rfl rfl) rfl ?_
            refine AL.p 13 (by kernel_rfl) rfl (bld rfl rfl) rfl ?_
            refine AL.o 14 (by kernel_rfl) rfl ?_
            have hb2_0 := hb2
            refine RL.storeS rfl hb2 rfl rfl rfl rfl ?_
            intro w117 hu hb2
            replace hb10 := hb10.upd hu (fun j hj e => hb10.box_apart hb2_0 (by decide) (e ▸ hj))
            replace H := H.box hu hb2.old; replace hb1 := hb1.upd hu ne1_2
            refine RL.nil ?_
            refine AL.nil (by kernel_rfl) ?_
            refine ⟨⟨s.name, a10, c10, s.topics, s.timeout, s.seen⟩, Head.intro (by repeat (first | with_reducible exact AgreeOff.refl _ _ | with_reducible exact AgreeOff.mix _ _ _ | refine AgreeOff.look rfl ?_ | refine AgreeOff.mixs rfl ?_)) trivial, H, hb1, hb2, rfl, hb10⟩
  rintro s2 jc w118 ⟨H, hb1, hb2, hss, hO⟩
  refine WP.ret ?_
  refine finC_ret rfl hb2 ⟨⟨_, rfl, rfl⟩, ⟨⟨s2, rfl, hss, hO⟩, H⟩⟩
end Go.Proofs.Ytlkpgeopcdhgjaa
