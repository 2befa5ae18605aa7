/-
  DedupApart: the walk.
-/
import Derived.Test.YtbggmjnhfacjpaaArr08
set_option linter.unusedVariables false
namespace Go.Proofs.Ytbggmjnhfacjpaa
open Go Go.Eng Go.RowKit
abbrev FB : Ds := ⟨[0, 0], []⟩
theorem o10 : openA F1 0 = (2, 0, 0) := rfl
theorem o10' : openD F1 0 = FB := rfl
theorem k4 : okD 0 0 FB := o10' ▸ okD_open k1 0
/-- what the table holds while one producer sends to one partition -/
structure ApI (p : Part) (j : Nat) (seq : Int) (D : Ds) : Prop where
  ok : okD (8 * (j : Int)) j D
  E : D.E = [0, 0]
  due : dueL (lastD D.S ⟨1, p⟩) = seq
  oth : ∀ k, k ≠ ⟨1, p⟩ → lastD D.S k = []
  lo : 0 ≤ seq
  hi : seq ≤ 8 * (j : Int)
theorem apI0 (p : Part) : ApI p 0 0 FB := ⟨k4, rfl, rfl, fun _ _ => rfl, by decide, by decide⟩
theorem ApI.is1 {p : Part} {j : Nat} {seq : Int} {D : Ds} (h : ApI p j seq D) : isD D.E 1 ∧ isD D.E 2 ∧ ep D.E 1 = 0 ∧ ep D.E 2 = 0 := by
  rw [h.E]
  exact ⟨by decide, by decide, rfl, rfl⟩
theorem ApI.done {p : Part} {j : Nat} {seq : Int} {D : Ds} (h : ApI p j seq D) {n : Nat} (h1 : 1 ≤ n) (h8 : n ≤ 8) (hj : j ≤ 1000) : doneEN D p 1 0 seq n (j : Int) = 0 ∧ ApI p (j + 1) (seq + (n : Int)) (doneDN D p 1 0 seq n (j : Int)) := by
  have hE : doneEN D p 1 0 seq n (j : Int) = 0 := done_due (by decide) h.is1.1 h.is1.2.2.1.symm h.due.symm h1 ⟨by omega, by omega⟩
  have hl := fun k => done_last h.ok hE (by decide) k
  have hlo := h.lo
  have hhi := h.hi
  refine ⟨hE, (okD_done h.ok (by omega) p 1 0 seq n (j : Int)).mono (by omega) (Nat.le_refl _), done_E.trans h.E, ?_, fun k hk => ?_, by omega, by omega⟩
  · rw [hl, if_pos rfl, dueL_push]
  · rw [hl, if_neg hk]; exact h.oth k hk
theorem ApI.ask2 {p : Part} {j : Nat} {seq : Int} {D : Ds} (h : ApI p j seq D) : askN D p 2 0 0 1 = (0, false, 0) :=
  ask_due (by decide) h.is1.2.1 h.is1.2.2.2.symm (by rw [h.oth _ (by intro e; injection e with e; exact absurd e (by decide))]; rfl)
theorem ApI.ask1 {p q : Part} {j : Nat} {seq : Int} {D : Ds} (h : ApI p j seq D) (hc : p ≠ q ∨ seq = 0) : askN D q 1 0 0 1 = (0, false, 0) := by
  refine ask_due (by decide) h.is1.1 h.is1.2.2.1.symm ?_
  by_cases hq : p = q
  · subst hq
    rw [h.due]
    rcases hc with hc | hc
    · exact absurd rfl hc
    · exact hc.symm
  · rw [h.oth _ (by intro e; injection e with _ e; exact hq e.symm)]; rfl
set_option maxRecDepth 20000 in
set_option maxHeartbeats 1600000 in
theorem lApart (w0 : World) (a : Option Addr) (c : Nat) (l : List Int) (x : Two) (hl : SlI w0 a l) :
    Ct Try.prog 6 #[.slice a l.length c, .agg (Lies.enc x).toArray] w0 fun v w' => v = .bool true ∧ Ext w0 w' := by
  refine Ct.intro1 Try.func6 Try.ntmps6 rfl rfl (by decide) rfl ?_
  have H : Ext w0 w0 := Ext.refl w0
  refine WP.regionS ?_
  refine RL.boxS w0.heap.size H.size rfl rfl ?_
  intro w1 i3 hi3 hx hb3
  replace H := H.ext hx; clear hx
  refine RL.r (asgB rfl) rfl ?_
  refine RL.nil ?_
  refine WP.regionS ?_
  -- call stagecoach/dedup.New 
  have hs0 := H.size
  refine RL.call (pNew _) rfl rfl ?_
  rintro v w2 ⟨⟨it, m, rfl, hbt, hmm⟩, hx⟩
  replace H := H.ext hx; replace hb3 := hb3.ext hx
  have hT := tg_new hbt hmm
  replace hT := hT.mono hs0
  refine RL.r (asgP rfl) rfl ?_
  refine RL.nil ?_
  refine WP.seq ?_
  refine WP.regionS ?_
  refine RL.r (mvP rfl) rfl ?_
  refine RL.r (peqn rfl rfl) rfl ?_
  refine RL.nil ?_
  refine WP.cond rfl (fun hc => ?_) (fun hc => ?_)
  · refine WP.regionS ?_
    refine RL.r (asgB rfl) rfl ?_
    refine RL.nil ?_
    refine WP.ret ?_
    refine fin1_ret rfl ⟨absurd hc (by simp), H⟩
  · refine WP.skip ?_
    refine WP.seq ?_
    refine WP.cutN (α := Nat × Nat) [6, 7, 27, 28, 29, 30] (fun y => [(6, .pointer (some ⟨y.1, 0, none⟩)), (7, .pointer (some ⟨y.2, 0, none⟩))]) (fun y w' => Ext w0 w' ∧ Box w0.heap.size w' i3 55 (Lies.enc x) ∧ Box w0.heap.size w' y.1 25 (Lies.enc x.p) ∧ Box w0.heap.size w' y.2 25 (Lies.enc x.q) ∧ i3 ≠ y.1 ∧ i3 ≠ y.2 ∧ y.1 ≠ y.2 ∧ Tg w0.heap.size w' it (terr it m none []) d0) ?_ ?_
    · refine WP.any ?_
      intro w3 hx; replace H := H.ext hx; replace hb3 := hb3.ext hx; replace hT := hT.ext hx
      refine AL.p 0 (by kernel_rfl) rfl (ix_arr rfl rfl rfl (by decide)) rfl ?_
      refine AL.p 2 (by kernel_rfl) rfl (ix_arr rfl rfl rfl (by decide)) rfl ?_
      refine AL.m 1 (by kernel_rfl) rfl (ldS_box rfl hb3 (Nat.le_of_ble_eq_true rfl) rfl) rfl ?_
      refine AL.all (rs := [3, 4, 5]) (by kernel_rfl) rfl ?_
      rintro i hi; simp only [List.mem_cons, List.not_mem_nil, or_false] at hi; rcases hi with rfl | rfl | rfl
      · refine ⟨_, rfl, ?_⟩
        refine RL.m (ldS_box rfl hb3 (Nat.le_of_ble_eq_true rfl) rfl) rfl ?_
        refine RL.nil ?_
        refine AL.all (rs := [4, 5]) (by kernel_rfl) rfl ?_
        rintro i hi; simp only [List.mem_cons, List.not_mem_nil, or_false] at hi; rcases hi with rfl | rfl
        · refine ⟨_, rfl, ?_⟩
          refine RL.alloc w0.heap.size H.size rfl rfl ?_
          intro w4 i6 hi6 hx hb6
          have ne3_6 := hb3.ne hi6
          replace H := H.ext hx; replace hb3 := hb3.ext hx; replace hT := hT.ext hx; clear hx
          refine RL.nil ?_
          refine AL.o 5 (by kernel_rfl) rfl ?_
          refine RL.alloc w0.heap.size H.size rfl rfl ?_
          intro w5 i7 hi7 hx hb7
          have ne3_7 := hb3.ne hi7
          have ne6_7 := hb6.ne hi7
          replace H := H.ext hx; replace hb3 := hb3.ext hx; replace hb6 := hb6.ext hx; replace hT := hT.ext hx; clear hx
          refine RL.nil ?_
          refine AL.o 6 (by kernel_rfl) rfl ?_
          have hb6_0 := hb6
          refine RL.storeS rfl hb6 rfl rfl rfl rfl ?_
          intro w6 hu hb6
          replace hT := hT.bx hb6_0 (by decide) (by decide) (by decide) hu
          replace H := H.box hu hb6.old; replace hb3 := hb3.upd hu ne3_6; replace hb7 := hb7.upd hu (Ne.symm ne6_7)
          refine RL.nil ?_
          refine AL.o 7 (by kernel_rfl) rfl ?_
          have hb7_0 := hb7
          refine RL.storeS rfl hb7 rfl rfl rfl rfl ?_
          intro w7 hu hb7
          replace hT := hT.bx hb7_0 (by decide) (by decide) (by decide) hu
          replace H := H.box hu hb7.old; replace hb3 := hb3.upd hu ne3_7; replace hb6 := hb6.upd hu ne6_7
          refine RL.nil ?_
          refine AL.nil (by kernel_rfl) ?_
          refine ⟨(i6, i7), Head.intro (by repeat (first | with_reducible exact AgreeOff.refl _ _ | with_reducible exact AgreeOff.mix _ _ _ | refine AgreeOff.look rfl ?_ | refine AgreeOff.mixs rfl ?_)) ⟨rfl, rfl, trivial⟩, H, hb3, hb6, hb7, ne3_6, ne3_7, (by first | exact ne6_7 | exact Ne.symm ne7_6), hT⟩
        · refine ⟨_, rfl, ?_⟩
          refine RL.alloc w0.heap.size H.size rfl rfl ?_
          intro w8 i7 hi7 hx hb7
          have ne3_7 := hb3.ne hi7
          replace H := H.ext hx; replace hb3 := hb3.ext hx; replace hT := hT.ext hx; clear hx
          refine RL.nil ?_
          refine AL.o 4 (by kernel_rfl) rfl ?_
          refine RL.alloc w0.heap.size H.size rfl rfl ?_
          intro w9 i6 hi6 hx hb6
          have ne3_6 := hb3.ne hi6
          have ne7_6 := hb7.ne hi6
          replace H := H.ext hx; replace hb3 := hb3.ext hx; replace hb7 := hb7.ext hx; replace hT := hT.ext hx; clear hx
          refine RL.nil ?_
          refine AL.o 6 (by kernel_rfl) rfl ?_
          have hb6_0 := hb6
          refine RL.storeS rfl hb6 rfl rfl rfl rfl ?_
          intro w10 hu hb6
          replace hT := hT.bx hb6_0 (by decide) (by decide) (by decide) hu
          replace H := H.box hu hb6.old; replace hb3 := hb3.upd hu ne3_6; replace hb7 := hb7.upd hu ne7_6
          refine RL.nil ?_
          refine AL.o 7 (by kernel_rfl) rfl ?_
          have hb7_0 := hb7
          refine RL.storeS rfl hb7 rfl rfl rfl rfl ?_
          intro w11 hu hb7
          replace hT := hT.bx hb7_0 (by decide) (by decide) (by decide) hu
          replace H := H.box hu hb7.old; replace hb3 := hb3.upd hu ne3_7; replace hb6 := hb6.upd hu (Ne.symm ne7_6)
          refine RL.nil ?_
          refine AL.nil (by kernel_rfl) ?_
          refine ⟨(i6, i7), Head.intro (by repeat (first | with_reducible exact AgreeOff.refl _ _ | with_reducible exact AgreeOff.mix _ _ _ | refine AgreeOff.look rfl ?_ | refine AgreeOff.mixs rfl ?_)) ⟨rfl, rfl, trivial⟩, H, hb3, hb6, hb7, ne3_6, ne3_7, (by first | exact ne6_7 | exact Ne.symm ne7_6), hT⟩
      · refine ⟨_, rfl, ?_⟩
        refine RL.alloc w0.heap.size H.size rfl rfl ?_
        intro w12 i6 hi6 hx hb6
        have ne3_6 := hb3.ne hi6
        replace H := H.ext hx; replace hb3 := hb3.ext hx; replace hT := hT.ext hx; clear hx
        refine RL.nil ?_
        refine AL.all (rs := [3, 5]) (by kernel_rfl) rfl ?_
        rintro i hi; simp only [List.mem_cons, List.not_mem_nil, or_false] at hi; rcases hi with rfl | rfl
        · refine ⟨_, rfl, ?_⟩
          refine RL.m (ldS_box rfl hb3 (Nat.le_of_ble_eq_true rfl) rfl) rfl ?_
          refine RL.nil ?_
          refine AL.o 5 (by kernel_rfl) rfl ?_
          refine RL.alloc w0.heap.size H.size rfl rfl ?_
          intro w13 i7 hi7 hx hb7
          have ne3_7 := hb3.ne hi7
          have ne6_7 := hb6.ne hi7
          replace H := H.ext hx; replace hb3 := hb3.ext hx; replace hb6 := hb6.ext hx; replace hT := hT.ext hx; clear hx
          refine RL.nil ?_
          refine AL.o 6 (by kernel_rfl) rfl ?_
          have hb6_0 := hb6
          refine RL.storeS rfl hb6 rfl rfl rfl rfl ?_
          intro w14 hu hb6
          replace hT := hT.bx hb6_0 (by decide) (by decide) (by decide) hu
          replace H := H.box hu hb6.old; replace hb3 := hb3.upd hu ne3_6; replace hb7 := hb7.upd hu (Ne.symm ne6_7)
          refine RL.nil ?_
          refine AL.o 7 (by kernel_rfl) rfl ?_
          have hb7_0 := hb7
          refine RL.storeS rfl hb7 rfl rfl rfl rfl ?_
          intro w15 hu hb7
          replace hT := hT.bx hb7_0 (by decide) (by decide) (by decide) hu
          replace H := H.box hu hb7.old; replace hb3 := hb3.upd hu ne3_7; replace hb6 := hb6.upd hu ne6_7
          refine RL.nil ?_
          refine AL.nil (by kernel_rfl) ?_
          refine ⟨(i6, i7), Head.intro (by repeat (first | with_reducible exact AgreeOff.refl _ _ | with_reducible exact AgreeOff.mix _ _ _ | refine AgreeOff.look rfl ?_ | refine AgreeOff.mixs rfl ?_)) ⟨rfl, rfl, trivial⟩, H, hb3, hb6, hb7, ne3_6, ne3_7, (by first | exact ne6_7 | exact Ne.symm ne7_6), hT⟩
        · refine ⟨_, rfl, ?_⟩
          refine RL.alloc w0.heap.size H.size rfl rfl ?_
          intro w16 i7 hi7 hx hb7
          have ne3_7 := hb3.ne hi7
          have ne6_7 := hb6.ne hi7
          replace H := H.ext hx; replace hb3 := hb3.ext hx; replace hb6 := hb6.ext hx; replace hT := hT.ext hx; clear hx
          refine RL.nil ?_
          refine AL.all (rs := [3, 6]) (by kernel_rfl) rfl ?_
          rintro i hi; simp only [List.mem_cons, List.not_mem_nil, or_false] at hi; rcases hi with rfl | rfl
          · refine ⟨_, rfl, ?_⟩
            refine RL.m (ldS_box rfl hb3 (Nat.le_of_ble_eq_true rfl) rfl) rfl ?_
            refine RL.nil ?_
            refine AL.o 6 (by kernel_rfl) rfl ?_
            have hb6_0 := hb6
            refine RL.storeS rfl hb6 rfl rfl rfl rfl ?_
            intro w17 hu hb6
            replace hT := hT.bx hb6_0 (by decide) (by decide) (by decide) hu
            replace H := H.box hu hb6.old; replace hb3 := hb3.upd hu ne3_6; replace hb7 := hb7.upd hu (Ne.symm ne6_7)
            refine RL.nil ?_
            refine AL.o 7 (by kernel_rfl) rfl ?_
            have hb7_0 := hb7
            refine RL.storeS rfl hb7 rfl rfl rfl rfl ?_
            intro w18 hu hb7
            replace hT := hT.bx hb7_0 (by decide) (by decide) (by decide) hu
            replace H := H.box hu hb7.old; replace hb3 := hb3.upd hu ne3_7; replace hb6 := hb6.upd hu ne6_7
            refine RL.nil ?_
            refine AL.nil (by kernel_rfl) ?_
            refine ⟨(i6, i7), Head.intro (by repeat (first | with_reducible exact AgreeOff.refl _ _ | with_reducible exact AgreeOff.mix _ _ _ | refine AgreeOff.look rfl ?_ | refine AgreeOff.mixs rfl ?_)) ⟨rfl, rfl, trivial⟩, H, hb3, hb6, hb7, ne3_6, ne3_7, (by first | exact ne6_7 | exact Ne.symm ne7_6), hT⟩
          · refine ⟨_, rfl, ?_⟩
            have hb6_0 := hb6
            refine RL.storeS rfl hb6 rfl rfl rfl rfl ?_
            intro w19 hu hb6
            replace hT := hT.bx hb6_0 (by decide) (by decide) (by decide) hu
            replace H := H.box hu hb6.old; replace hb3 := hb3.upd hu ne3_6; replace hb7 := hb7.upd hu (Ne.symm ne6_7)
            refine RL.nil ?_
            refine AL.m 3 (by kernel_rfl) rfl (ldS_box rfl hb3 (Nat.le_of_ble_eq_true rfl) rfl) rfl ?_
            refine AL.o 7 (by kernel_rfl) rfl ?_
            have hb7_0 := hb7
            refine RL.storeS rfl hb7 rfl rfl rfl rfl ?_
            intro w20 hu hb7
            replace hT := hT.bx hb7_0 (by decide) (by decide) (by decide) hu
            replace H := H.box hu hb7.old; replace hb3 := hb3.upd hu ne3_7; replace hb6 := hb6.upd hu ne6_7
            refine RL.nil ?_
            refine AL.nil (by kernel_rfl) ?_
            refine ⟨(i6, i7), Head.intro (by repeat (first | with_reducible exact AgreeOff.refl _ _ | with_reducible exact AgreeOff.mix _ _ _ | refine AgreeOff.look rfl ?_ | refine AgreeOff.mixs rfl ?_)) ⟨rfl, rfl, trivial⟩, H, hb3, hb6, hb7, ne3_6, ne3_7, (by first | exact ne6_7 | exact Ne.symm ne7_6), hT⟩
      · refine ⟨_, rfl, ?_⟩
        refine RL.alloc w0.heap.size H.size rfl rfl ?_
        intro w21 i7 hi7 hx hb7
        have ne3_7 := hb3.ne hi7
        replace H := H.ext hx; replace hb3 := hb3.ext hx; replace hT := hT.ext hx; clear hx
        refine RL.nil ?_
        refine AL.all (rs := [3, 4]) (by kernel_rfl) rfl ?_
        rintro i hi; simp only [List.mem_cons, List.not_mem_nil, or_false] at hi; rcases hi with rfl | rfl
        · refine ⟨_, rfl, ?_⟩
          refine RL.m (ldS_box rfl hb3 (Nat.le_of_ble_eq_true rfl) rfl) rfl ?_
          refine RL.nil ?_
          refine AL.o 4 (by kernel_rfl) rfl ?_
          refine RL.alloc w0.heap.size H.size rfl rfl ?_
          intro w22 i6 hi6 hx hb6
          have ne3_6 := hb3.ne hi6
          have ne7_6 := hb7.ne hi6
          replace H := H.ext hx; replace hb3 := hb3.ext hx; replace hb7 := hb7.ext hx; replace hT := hT.ext hx; clear hx
          refine RL.nil ?_
          refine AL.o 6 (by kernel_rfl) rfl ?_
          have hb6_0 := hb6
          refine RL.storeS rfl hb6 rfl rfl rfl rfl ?_
          intro w23 hu hb6
          replace hT := hT.bx hb6_0 (by decide) (by decide) (by decide) hu
          replace H := H.box hu hb6.old; replace hb3 := hb3.upd hu ne3_6; replace hb7 := hb7.upd hu ne7_6
          refine RL.nil ?_
          refine AL.o 7 (by kernel_rfl) rfl ?_
          have hb7_0 := hb7
          refine RL.storeS rfl hb7 rfl rfl rfl rfl ?_
          intro w24 hu hb7
          replace hT := hT.bx hb7_0 (by decide) (by decide) (by decide) hu
          replace H := H.box hu hb7.old; replace hb3 := hb3.upd hu ne3_7; replace hb6 := hb6.upd hu (Ne.symm ne7_6)
          refine RL.nil ?_
          refine AL.nil (by kernel_rfl) ?_
          refine ⟨(i6, i7), Head.intro (by repeat (first | with_reducible exact AgreeOff.refl _ _ | with_reducible exact AgreeOff.mix _ _ _ | refine AgreeOff.look rfl ?_ | refine AgreeOff.mixs rfl ?_)) ⟨rfl, rfl, trivial⟩, H, hb3, hb6, hb7, ne3_6, ne3_7, (by first | exact ne6_7 | exact Ne.symm ne7_6), hT⟩
        · refine ⟨_, rfl, ?_⟩
          refine RL.alloc w0.heap.size H.size rfl rfl ?_
          intro w25 i6 hi6 hx hb6
          have ne3_6 := hb3.ne hi6
          have ne7_6 := hb7.ne hi6
          replace H := H.ext hx; replace hb3 := hb3.ext hx; replace hb7 := hb7.ext hx; replace hT := hT.ext hx; clear hx
          refine RL.nil ?_
          refine AL.all (rs := [3, 6]) (by kernel_rfl) rfl ?_
          rintro i hi; simp only [List.mem_cons, List.not_mem_nil, or_false] at hi; rcases hi with rfl | rfl
          · refine ⟨_, rfl, ?_⟩
            refine RL.m (ldS_box rfl hb3 (Nat.le_of_ble_eq_true rfl) rfl) rfl ?_
            refine RL.nil ?_
            refine AL.o 6 (by kernel_rfl) rfl ?_
            have hb6_0 := hb6
            refine RL.storeS rfl hb6 rfl rfl rfl rfl ?_
            intro w26 hu hb6
            replace hT := hT.bx hb6_0 (by decide) (by decide) (by decide) hu
            replace H := H.box hu hb6.old; replace hb3 := hb3.upd hu ne3_6; replace hb7 := hb7.upd hu ne7_6
            refine RL.nil ?_
            refine AL.o 7 (by kernel_rfl) rfl ?_
            have hb7_0 := hb7
            refine RL.storeS rfl hb7 rfl rfl rfl rfl ?_
            intro w27 hu hb7
            replace hT := hT.bx hb7_0 (by decide) (by decide) (by decide) hu
            replace H := H.box hu hb7.old; replace hb3 := hb3.upd hu ne3_7; replace hb6 := hb6.upd hu (Ne.symm ne7_6)
            refine RL.nil ?_
            refine AL.nil (by kernel_rfl) ?_
            refine ⟨(i6, i7), Head.intro (by repeat (first | with_reducible exact AgreeOff.refl _ _ | with_reducible exact AgreeOff.mix _ _ _ | refine AgreeOff.look rfl ?_ | refine AgreeOff.mixs rfl ?_)) ⟨rfl, rfl, trivial⟩, H, hb3, hb6, hb7, ne3_6, ne3_7, (by first | exact ne6_7 | exact Ne.symm ne7_6), hT⟩
          · refine ⟨_, rfl, ?_⟩
            have hb6_0 := hb6
            refine RL.storeS rfl hb6 rfl rfl rfl rfl ?_
            intro w28 hu hb6
            replace hT := hT.bx hb6_0 (by decide) (by decide) (by decide) hu
            replace H := H.box hu hb6.old; replace hb3 := hb3.upd hu ne3_6; replace hb7 := hb7.upd hu ne7_6
            refine RL.nil ?_
            refine AL.m 3 (by kernel_rfl) rfl (ldS_box rfl hb3 (Nat.le_of_ble_eq_true rfl) rfl) rfl ?_
            refine AL.o 7 (by kernel_rfl) rfl ?_
            have hb7_0 := hb7
            refine RL.storeS rfl hb7 rfl rfl rfl rfl ?_
            intro w29 hu hb7
            replace hT := hT.bx hb7_0 (by decide) (by decide) (by decide) hu
            replace H := H.box hu hb7.old; replace hb3 := hb3.upd hu ne3_7; replace hb6 := hb6.upd hu (Ne.symm ne7_6)
            refine RL.nil ?_
            refine AL.nil (by kernel_rfl) ?_
            refine ⟨(i6, i7), Head.intro (by repeat (first | with_reducible exact AgreeOff.refl _ _ | with_reducible exact AgreeOff.mix _ _ _ | refine AgreeOff.look rfl ?_ | refine AgreeOff.mixs rfl ?_)) ⟨rfl, rfl, trivial⟩, H, hb3, hb6, hb7, ne3_6, ne3_7, (by first | exact ne6_7 | exact Ne.symm ne7_6), hT⟩
    rintro ⟨i6, i7⟩ jc w30 ⟨H, hb3, hb6, hb7, ne3_6, ne3_7, ne6_7, hT⟩
    refine WP.regionS ?_
    refine RL.r (fa_box rfl) rfl ?_
    refine RL.m (ld_box rfl hb6 rfl) rfl ?_
    refine RL.r (fa_box rfl) rfl ?_
    refine RL.m (ld_box rfl hb6 rfl) rfl ?_
    refine RL.r (len_str rfl) rfl ?_
    refine RL.r (min_i rfl rfl) rfl ?_
    refine RL.r (slcS (n := min x.p.topic.size 40) rfl rfl (by omega) (by omega)) rfl ?_
    refine RL.r (fa_box rfl) rfl ?_
    have hb6_0 := hb6
    refine RL.store1 rfl hb6 rfl rfl rfl rfl ?_
    intro w31 hu hb6
    replace hT := hT.bx hb6_0 (by decide) (by decide) (by decide) hu
    replace H := H.box hu hb6.old; replace hb3 := hb3.upd hu ne3_6; replace hb7 := hb7.upd hu (Ne.symm ne6_7)
    refine RL.nil ?_
    refine WP.regionS ?_
    refine RL.r (fa_box rfl) rfl ?_
    refine RL.m (ld_box rfl hb7 rfl) rfl ?_
    refine RL.r (fa_box rfl) rfl ?_
    refine RL.m (ld_box rfl hb7 rfl) rfl ?_
    refine RL.r (len_str rfl) rfl ?_
    refine RL.r (min_i rfl rfl) rfl ?_
    refine RL.r (slcS (n := min x.q.topic.size 40) rfl rfl (by omega) (by omega)) rfl ?_
    refine RL.r (fa_box rfl) rfl ?_
    have hb7_0 := hb7
    refine RL.store1 rfl hb7 rfl rfl rfl rfl ?_
    intro w32 hu hb7
    replace hT := hT.bx hb7_0 (by decide) (by decide) (by decide) hu
    replace H := H.box hu hb7.old; replace hb3 := hb3.upd hu ne3_7; replace hb6 := hb6.upd hu ne6_7
    refine RL.nil ?_
    refine WP.regionS ?_
    refine RL.r (mvP rfl) rfl ?_
    -- call (*stagecoach/dedup.Table).Open (tmp 48) (const (int i64 0))
    refine RL.call (pOpenS _ _ it _ d0 hT 0 0 okD0 0 o1 o1') rfl rfl ?_
    rintro _ w33 ⟨⟨e1, he1, rfl, Z2, hT2, _⟩, hx⟩
    replace H := ext_z H hT (Nat.le_refl _) hx; replace hb3 := box_z hb3 hT (by decide) (by decide) (by decide) hx; replace hb6 := box_z hb6 hT (by decide) (by decide) (by decide) hx; replace hb7 := box_z hb7 hT (by decide) (by decide) (by decide) hx
    replace hT := hT2; clear hT2
    refine RL.r (mvU rfl) rfl ?_
    refine RL.r (ex0 rfl) rfl ?_
    refine RL.r (ex1 rfl) rfl ?_
    refine RL.r (ex2 rfl) rfl ?_
    refine RL.r (asgI rfl) rfl ?_
    refine RL.r (asgI rfl) rfl ?_
    refine RL.r (asgI rfl) rfl ?_
    refine RL.nil ?_
    refine WP.regionS ?_
    refine RL.r (mvP rfl) rfl ?_
    -- call (*stagecoach/dedup.Table).Open (tmp 54) (const (int i64 0))
    refine RL.call (pOpenS _ _ it _ F1 hT 0 0 k1 0 o10 o10') rfl rfl ?_
    rintro _ w34 ⟨⟨e2, he2, rfl, Z2, hT2, _⟩, hx⟩
    replace H := ext_z H hT (Nat.le_refl _) hx; replace hb3 := box_z hb3 hT (by decide) (by decide) (by decide) hx; replace hb6 := box_z hb6 hT (by decide) (by decide) (by decide) hx; replace hb7 := box_z hb7 hT (by decide) (by decide) (by decide) hx
    replace hT := hT2; clear hT2
    refine RL.r (mvU rfl) rfl ?_
    refine RL.r (ex0 rfl) rfl ?_
    refine RL.r (ex1 rfl) rfl ?_
    refine RL.r (ex2 rfl) rfl ?_
    refine RL.r (asgI rfl) rfl ?_
    refine RL.r (asgI rfl) rfl ?_
    refine RL.r (asgI rfl) rfl ?_
    refine RL.nil ?_
    refine WP.regionS ?_
    refine RL.r (asgI rfl) rfl ?_
    refine RL.nil ?_
    refine WP.seq ?_
    refine WP.regionS ?_
    refine RL.r (asgI rfl) rfl ?_
    refine RL.nil ?_
    refine WP.block ?_
    refine WP.loop (fun k e' w' => ∃ j : Nat, ∃ (D : Ds) (Z : Nat → Prop) (seq : Int),  j + k = min l.length 20 ∧ Head [4, 14, 15, 16, 59, 60, 61, 62, 63, 64, 65, 66, 67, 68, 69, 70, 71, 72, 73, 74, 75, 76, 77, 78, 79, 80, 81, 82, 83, 84, 85, 86] _ [(14, .int .i64 seq), (15, .int .i64 (j : Int))] e' ∧ Ext w0 w' ∧ Box w0.heap.size w' i3 55 (Lies.enc x) ∧ Box w0.heap.size w' i6 25 (Lies.enc (cutP x.p)) ∧ Box w0.heap.size w' i7 25 (Lies.enc (cutP x.q)) ∧ Tg w0.heap.size w' it Z D ∧ ApI (cutP x.p) j seq D) (min l.length 20)
      ⟨0, _, _, 0, by omega, Head.intro (AgreeOff.refl _ _) ⟨rfl, rfl, trivial⟩, H, hb3, hb6, hb7, hT, apI0 _⟩ ?_
    clear H hb3 hb6 hb7 hT
    rintro k e w35 ⟨j, D, Z, seq, hjk, ⟨jk, rfl⟩, H, hb3, hb6, hb7, hT, hA⟩
    have hlo := hA.lo
    have hhi := hA.hi
    refine WP.seq ?_
    refine WP.seq (WP.quiet ?_)
    refine QL.r (mvI rfl) rfl ?_
    refine QL.r (mvL rfl) rfl ?_
    refine QL.r (len_sl rfl) rfl ?_
    refine QL.r (lss rfl rfl) rfl ?_
    refine QL.r (mvB rfl) rfl ?_
    refine QL.gg (gwT rfl rfl) (fun hg => (mvI rfl).does _) rfl ?_
    refine QL.gg (gwT rfl rfl) (fun hg => (lss (gs hg rfl) rfl).does _) rfl ?_
    refine QL.r (pickAnd rfl (fun hn => gs hn rfl)) rfl ?_
    refine QL.nil ?_; intro w36 hx; replace H := H.ext hx; replace hb3 := hb3.ext hx; replace hb6 := hb6.ext hx; replace hb7 := hb7.ext hx; replace hT := hT.ext hx
    refine WP.cond rfl (fun hc => ?_) (fun hc => ?_)
    · refine WP.skip ?_
      refine WP.seq ?_
      refine WP.block ?_
      refine WP.regionS ?_
      refine RL.r (mvL rfl) rfl ?_
      refine RL.r (mvI rfl) rfl ?_
      have hj : j < l.length := by omega
      have hl := hl (List.ne_nil_of_length_pos (by omega))
      obtain ⟨q, hq⟩ := hl.isAddr (by decide) hj
      subst hq
      have hand := andv_le 7 (by decide) l[j]
      refine RL.r (ix rfl rfl rfl hj) rfl ?_
      refine RL.m (ld_e0 rfl hl H rfl hj rfl) rfl ?_
      refine RL.r (andk (K := 7) rfl rfl (by decide)) rfl ?_
      refine RL.r (add rfl rfl (by omega)) rfl ?_
      refine RL.r (asgI rfl) rfl ?_
      refine RL.nil ?_
      refine WP.seq ?_
      refine WP.seq ?_
      refine WP.any ?_
      intro w37 hx; replace H := H.ext hx; replace hb3 := hb3.ext hx; replace hb6 := hb6.ext hx; replace hb7 := hb7.ext hx; replace hT := hT.ext hx
      refine AL.p 0 (by kernel_rfl) rfl (mvP rfl) rfl ?_
      refine AL.p 2 (by kernel_rfl) rfl (mvI rfl) rfl ?_
      refine AL.p 3 (by kernel_rfl) rfl (mvI rfl) rfl ?_
      refine AL.p 4 (by kernel_rfl) rfl (mvI rfl) rfl ?_
      refine AL.p 6 (by kernel_rfl) rfl (mvI rfl) rfl ?_
      -- call stagecoach/stagecoachlaw08.of (tmp 77) (const (int i64 0)) (tmp 78) (tmp 79)
      have hOf : ∀ w', Ct Try.prog 19 #[.int .i64 1, .int .i64 0, .int .i64 seq, .int .i64 (1 + ((andv 7 l[j] : Nat) : Int))] w' fun v w'' => (∃ (ra : Option Addr) (rc : Nat) (recs : List Rec), v = .agg (Lies.enc (⟨1, 0, seq, ra, rc, recs⟩ : Bat)).toArray ∧ recs.length = (1 + ((andv 7 l[j] : Nat) : Int)).toNat) ∧ Ext w' w'' := fun w' => pOf w' 1 0 seq _ (by omega)
      refine AL.x 5 (by kernel_rfl) rfl rfl (fun w' hw' => hOf w') ?_
      refine AX.m 1 (by kernel_rfl) rfl rfl (ldS_box rfl hb6 (Nat.le_of_ble_eq_true rfl) rfl) rfl ?_
      refine AX.o (by kernel_rfl) rfl ?_
      rintro v w38 ⟨⟨ra, rc, recs, rfl, hrl⟩, hx⟩
      replace H := H.ext hx; replace hb3 := hb3.ext hx; replace hb6 := hb6.ext hx; replace hb7 := hb7.ext hx; replace hT := hT.ext hx
      refine AL.o 7 (by kernel_rfl) rfl ?_
      -- call (*stagecoach/dedup.Table).Done (tmp 75) (tmp 76) (tmp 80) (tmp 81)
      have hdn := hA.done (n := (1 + andv 7 l[j])) (by omega) (by omega) (by omega)
      refine RL.call (pDoneN _ _ it _ D hT _ _ hA.ok (by omega) (cutP x.p) 1 0 seq ra rc recs (j : Int) (n := (1 + andv 7 l[j])) (by omega) hdn.1 rfl) rfl rfl ?_
      rintro _ w39 ⟨⟨rfl, Z2, hT2, _⟩, hx⟩
      replace H := ext_z H hT (Nat.le_refl _) hx; replace hb3 := box_z hb3 hT (by decide) (by decide) (by decide) hx; replace hb6 := box_z hb6 hT (by decide) (by decide) (by decide) hx; replace hb7 := box_z hb7 hT (by decide) (by decide) (by decide) hx
      replace hT := hT2; clear hT2
      refine RL.nil ?_
      refine AL.p 8 (by kernel_rfl) rfl (neq rfl rfl) rfl ?_
      refine AL.nil (by kernel_rfl) ?_
      refine WP.cond rfl (fun hc => ?_) (fun hc => ?_)
      · refine WP.regionS ?_
        refine RL.r (asgB rfl) rfl ?_
        refine RL.nil ?_
        refine WP.ret ?_
        refine fin1_ret rfl ⟨absurd rfl hc, H⟩
      · refine WP.skip ?_
        refine WP.region ?_
        refine RL.r (mvI rfl) rfl ?_
        refine RL.r (mvI rfl) rfl ?_
        refine RL.r (add rfl rfl (by omega)) rfl ?_
        refine RL.r (asgI rfl) rfl ?_
        refine RL.nil ?_
        refine WP.region ?_
        refine RL.r (mvI rfl) rfl ?_
        refine RL.r (add rfl rfl (by omega)) rfl ?_
        refine RL.r (asgI rfl) rfl ?_
        refine RL.nil ?_
        refine ⟨k - 1, by omega, j + 1, _, _, _, by omega, Head.intro (by repeat (first | with_reducible exact AgreeOff.mix _ _ _ | refine AgreeOff.look rfl ?_ | refine AgreeOff.mixs rfl ?_)) ⟨rfl, rfl, trivial⟩, H, hb3, hb6, hb7, hT, hdn.2⟩
    · refine WP.exit ?_
      refine WP.seq ?_
      refine WP.any ?_
      intro w40 hx; replace H := H.ext hx; replace hb3 := hb3.ext hx; replace hb6 := hb6.ext hx; replace hb7 := hb7.ext hx; replace hT := hT.ext hx
      refine AL.p 0 (by kernel_rfl) rfl (mvP rfl) rfl ?_
      refine AL.p 2 (by kernel_rfl) rfl (mvI rfl) rfl ?_
      -- call stagecoach/stagecoachlaw08.of (tmp 90) (const (int i64 0)) (const (int i64 0)) (const (int i64 1))
      refine AL.x 3 (by kernel_rfl) rfl rfl (fun w' hw' => pOf _ 1 0 0 1 (by decide)) ?_
      refine AX.m 1 (by kernel_rfl) rfl rfl (ldS_box rfl hb7 (Nat.le_of_ble_eq_true rfl) rfl) rfl ?_
      refine AX.o (by kernel_rfl) rfl ?_
      rintro v w41 ⟨⟨ra, rc, recs, rfl, hrl⟩, hx⟩
      replace H := H.ext hx; replace hb3 := hb3.ext hx; replace hb6 := hb6.ext hx; replace hb7 := hb7.ext hx; replace hT := hT.ext hx
      refine AL.o 4 (by kernel_rfl) rfl ?_
      -- call (*stagecoach/dedup.Table).Ask (tmp 88) (tmp 89) (tmp 91)
      refine RL.call (pAskS _ _ it _ D hT _ _ hA.ok (by omega) (cutP x.q) 1 0 0 ra rc recs hrl) rfl rfl ?_
      rintro v w42 ⟨⟨r3, t3, e3, ha3, rfl⟩, hx⟩
      replace H := H.ext hx; replace hb3 := hb3.ext hx; replace hb6 := hb6.ext hx; replace hb7 := hb7.ext hx; replace hT := hT.ext hx
      refine RL.nil ?_
      refine AL.p 5 (by kernel_rfl) rfl (mvU rfl) rfl ?_
      refine AL.p 6 (by kernel_rfl) rfl (ex0 rfl) rfl ?_
      refine AL.p 7 (by kernel_rfl) rfl (ex1 rfl) rfl ?_
      refine AL.p 8 (by kernel_rfl) rfl (ex2 rfl) rfl ?_
      refine AL.p 9 (by kernel_rfl) rfl (asgI rfl) rfl ?_
      refine AL.p 10 (by kernel_rfl) rfl (asgB rfl) rfl ?_
      refine AL.p 11 (by kernel_rfl) rfl (asgI rfl) rfl ?_
      refine AL.nil (by kernel_rfl) ?_
      refine WP.seq ?_
      refine WP.any ?_
      intro w43 hx; replace H := H.ext hx; replace hb3 := hb3.ext hx; replace hb6 := hb6.ext hx; replace hb7 := hb7.ext hx; replace hT := hT.ext hx
      refine AL.p 0 (by kernel_rfl) rfl (mvP rfl) rfl ?_
      refine AL.p 2 (by kernel_rfl) rfl (mvI rfl) rfl ?_
      -- call stagecoach/stagecoachlaw08.of (tmp 99) (const (int i64 0)) (const (int i64 0)) (const (int i64 1))
      refine AL.x 3 (by kernel_rfl) rfl rfl (fun w' hw' => pOf _ 2 0 0 1 (by decide)) ?_
      refine AX.m 1 (by kernel_rfl) rfl rfl (ldS_box rfl hb6 (Nat.le_of_ble_eq_true rfl) rfl) rfl ?_
      refine AX.o (by kernel_rfl) rfl ?_
      rintro v w44 ⟨⟨ra, rc, recs, rfl, hrl⟩, hx⟩
      replace H := H.ext hx; replace hb3 := hb3.ext hx; replace hb6 := hb6.ext hx; replace hb7 := hb7.ext hx; replace hT := hT.ext hx
      refine AL.o 4 (by kernel_rfl) rfl ?_
      -- call (*stagecoach/dedup.Table).Ask (tmp 97) (tmp 98) (tmp 100)
      refine RL.call (pAskS _ _ it _ D hT _ _ hA.ok (by omega) (cutP x.p) 2 0 0 ra rc recs hrl) rfl rfl ?_
      rintro v w45 ⟨⟨r4, t4, e4, ha4, rfl⟩, hx⟩
      replace H := H.ext hx; replace hb3 := hb3.ext hx; replace hb6 := hb6.ext hx; replace hb7 := hb7.ext hx; replace hT := hT.ext hx
      refine RL.nil ?_
      refine AL.p 5 (by kernel_rfl) rfl (mvU rfl) rfl ?_
      refine AL.p 6 (by kernel_rfl) rfl (ex0 rfl) rfl ?_
      refine AL.p 7 (by kernel_rfl) rfl (ex1 rfl) rfl ?_
      refine AL.p 8 (by kernel_rfl) rfl (ex2 rfl) rfl ?_
      refine AL.p 9 (by kernel_rfl) rfl (asgI rfl) rfl ?_
      refine AL.p 10 (by kernel_rfl) rfl (asgB rfl) rfl ?_
      refine AL.p 11 (by kernel_rfl) rfl (asgI rfl) rfl ?_
      refine AL.nil (by kernel_rfl) ?_
      refine WP.seq (WP.quiet ?_)
      refine QL.m (ldS_box rfl hb6 (Nat.le_of_ble_eq_true rfl) rfl) rfl ?_
      refine QL.m (ldS_box rfl hb7 (Nat.le_of_ble_eq_true rfl) rfl) rfl ?_
      refine QL.r (aneq (α := Part) (p := cutP x.p) (q := cutP x.q) rfl rfl) rfl ?_
      refine QL.r (mvB rfl) rfl ?_
      refine QL.gg (gwF rfl rfl) (fun hg => (mvI rfl).does _) rfl ?_
      refine QL.gg (gwF rfl rfl) (fun hg => (eql (gs hg rfl) rfl).does _) rfl ?_
      refine QL.r (pickOr rfl (fun hn => gs hn rfl)) rfl ?_
      refine QL.r (asgB rfl) rfl ?_
      refine QL.nil ?_; intro w46 hx; replace H := H.ext hx; replace hb3 := hb3.ext hx; replace hb6 := hb6.ext hx; replace hb7 := hb7.ext hx; replace hT := hT.ext hx
      refine WP.seq (WP.quiet ?_)
      refine QL.r (mvI rfl) rfl ?_
      refine QL.r (eql rfl rfl) rfl ?_
      refine QL.r (mvB rfl) rfl ?_
      refine QL.gg (gwT rfl rfl) (fun hg => (mvI rfl).does _) rfl ?_
      refine QL.gg (gwT rfl rfl) (fun hg => (eql (gs hg rfl) rfl).does _) rfl ?_
      refine QL.r (pickAnd rfl (fun hn => gs hn rfl)) rfl ?_
      refine QL.r (mvB rfl) rfl ?_
      refine QL.gg (gwT rfl rfl) (fun hg => (mvB rfl).does _) rfl ?_
      first | refine QL.gg (gwT rfl rfl) (fun hg => (notD (gs hg rfl)).does _) rfl ?_ | refine QL.gg (gwT rfl rfl) (fun hg => (not_ (gs hg rfl)).does _) rfl ?_
      refine QL.r (pickAnd rfl (fun hn => gs hn rfl)) rfl ?_
      refine QL.r (mvB rfl) rfl ?_
      refine QL.gg (gwT rfl rfl) (fun hg => (mvI rfl).does _) rfl ?_
      refine QL.gg (gwT rfl rfl) (fun hg => (eql (gs hg rfl) rfl).does _) rfl ?_
      refine QL.r (pickAnd rfl (fun hn => gs hn rfl)) rfl ?_
      refine QL.r (mvB rfl) rfl ?_
      refine QL.gg (gwT rfl rfl) (fun hg => (mvB rfl).does _) rfl ?_
      first | refine QL.gg (gwT rfl rfl) (fun hg => (notD (gs hg rfl)).does _) rfl ?_ | refine QL.gg (gwT rfl rfl) (fun hg => (not_ (gs hg rfl)).does _) rfl ?_
      refine QL.gg (gwT rfl rfl) (fun hg => (mvv (gs hg rfl)).does _) rfl ?_
      refine QL.gg (gwTF rfl rfl) (fun hg => (mvB rfl).does _) rfl ?_
      first | refine QL.gg (gwTF rfl rfl) (fun hg => (notD (gs hg rfl)).does _) rfl ?_ | refine QL.gg (gwTF rfl rfl) (fun hg => (not_ (gs hg rfl)).does _) rfl ?_
      refine QL.gg (gwTF rfl rfl) (fun hg => (mvv (gs hg rfl)).does _) rfl ?_
      refine QL.gg (gwTT rfl rfl) (fun hg => (mvI rfl).does _) rfl ?_
      refine QL.gg (gwTT rfl rfl) (fun hg => (eql (gs hg rfl) rfl).does _) rfl ?_
      refine QL.gg (gwTF rfl rfl) (fun hg => (pickAnd (gs hg rfl) (fun hn => gs ⟨hg, hn⟩ rfl)).does _) rfl ?_
      refine QL.gg (gwT rfl rfl) (fun hg => (pickOr (gs hg rfl) (fun hn => gs ⟨hg, hn⟩ rfl)).does _) rfl ?_
      refine QL.r (pickAnd rfl (fun hn => gs hn rfl)) rfl ?_
      refine QL.r (mvB rfl) rfl ?_
      -- call stagecoach/stagecoachlaw08.fixed 
      refine QL.gcall (gwT rfl rfl) (fun hg w' hw' => lFixedD w') (fun hg => EvL.nil) rfl ?_
      refine QL.r (pickAnd rfl (fun hn => gs hn rfl)) rfl ?_
      refine QL.r (asgB rfl) rfl ?_
      refine QL.nil ?_; intro w48 hx; replace H := H.ext hx; replace hb3 := hb3.ext hx; replace hb6 := hb6.ext hx; replace hb7 := hb7.ext hx; replace hT := hT.ext hx
      refine WP.ret ?_
      have hlast : (cutP x.p ≠ cutP x.q ∨ seq = 0) → (r3, t3, e3) = (0, false, 0) := fun h => ha3.symm.trans (hA.ask1 h)
      have ha4 := ha4.symm.trans hA.ask2
      refine fin1_ret rfl ⟨congrArg Value.bool (decide_eq_true ?_), H⟩
      simp only [Prod.mk.injEq] at ha4
      refine ⟨⟨⟨⟨⟨he1, he2⟩, by rw [ha4.2.1]; decide⟩, ha4.2.2⟩, ?_⟩, rfl⟩
      by_cases h : cutP x.p ≠ cutP x.q ∨ seq = 0
      · have h2 := hlast h
        simp only [Prod.mk.injEq] at h2
        exact .inr ⟨by rw [h2.2.1]; decide, h2.2.2⟩
      · exact .inl h
end Go.Proofs.Ytbggmjnhfacjpaa
