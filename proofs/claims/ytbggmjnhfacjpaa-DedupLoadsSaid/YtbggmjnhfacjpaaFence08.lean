/-
  DedupFences: the walk.
-/
import Derived.Test.YtbggmjnhfacjpaaApart08
set_option linter.unusedVariables false
namespace Go.Proofs.Ytbggmjnhfacjpaa
open Go Go.Eng Go.RowKit
theorem ask_old {D : Ds} {p : Part} {id epoch seq : Int} {n : Nat} (h0 : id ≠ 0) (h1 : isD D.E id) (h2 : epoch < ep D.E id) : askN D p id epoch seq n = (0, false, 81) := by
  unfold askN
  rw [if_neg h0, if_neg (not_not_intro h1), if_pos h2]
theorem ask_nil {D : Ds} {p : Part} {id epoch seq : Int} {n : Nat} (h0 : id ≠ 0) (h1 : isD D.E id) (h2 : epoch = ep D.E id) (h3 : lastD D.S ⟨id, p⟩ = []) (h4 : seq ≠ 0) : askN D p id epoch seq n = (0, false, 82) := by
  unfold askN
  rw [if_neg h0, if_neg (not_not_intro h1), if_neg (by omega), if_neg (by omega), h3, dueL_nil, if_neg h4]
  rfl
theorem ask_had {D : Ds} {p : Part} {id epoch seq : Int} {n i : Nat} (h0 : id ≠ 0) (h1 : isD D.E id) (h2 : epoch = ep D.E id) (h3 : seq ≠ dueL (lastD D.S ⟨id, p⟩)) (h4 : idxN (lastD D.S ⟨id, p⟩) seq n = some i) (hi : i < (lastD D.S ⟨id, p⟩).length) : askN D p id epoch seq n = ((lastD D.S ⟨id, p⟩)[i].off, true, 0) := by
  unfold askN
  rw [if_neg h0, if_neg (not_not_intro h1), if_neg (by omega), if_neg (by omega), if_neg h3, h4]
  simp only [List.getElem?_eq_getElem hi]
  rfl
def fC (p : Part) (n : Nat) : Ds := doneDN FB p 1 0 0 n 5
def fD (p : Part) (n : Nat) : Ds := doneDN (fC p n) p 2 0 0 1 6
theorem fC_e (p : Part) {n : Nat} (h : 1 ≤ n) : doneEN FB p 1 0 0 n 5 = 0 := done_due (by decide) (by decide) rfl rfl h ⟨by decide, by decide⟩
theorem fC_ok (p : Part) {n : Nat} (h8 : n ≤ 8) : okD 8 1 (fC p n) := (okD_done k4 (by decide) p 1 0 0 n 5).mono (by omega) (by omega)
theorem fC_E (p : Part) (n : Nat) : (fC p n).E = [0, 0] := done_E
theorem fC_last (p : Part) {n : Nat} (h : 1 ≤ n) (k : DKey) : lastD (fC p n).S k = if k = ⟨1, p⟩ then [⟨0, (n : Int), 5⟩] else [] := by
  unfold fC
  rw [done_last k4 (fC_e p h) (by decide)]
  rfl
theorem key21 (p q : Part) : (⟨2, p⟩ : DKey) ≠ ⟨1, q⟩ := by intro e; injection e with e; exact absurd e (by decide)
theorem fD_e (p : Part) {n : Nat} (h : 1 ≤ n) : doneEN (fC p n) p 2 0 0 1 6 = 0 := by
  refine done_due (by decide) (by rw [fC_E]; decide) (by rw [fC_E]; rfl) ?_ (by decide) ⟨by decide, by decide⟩
  rw [fC_last p h, if_neg (key21 p p)]
  rfl
theorem fD_ok (p : Part) {n : Nat} (h8 : n ≤ 8) : okD 16 2 (fD p n) := (okD_done (fC_ok p h8) (by decide) p 2 0 0 1 6).mono (by omega) (by omega)
theorem fD_E (p : Part) (n : Nat) : (fD p n).E = [0, 0] := done_E.trans (fC_E p n)
theorem fD_2 (p : Part) {n : Nat} (h : 1 ≤ n) (h8 : n ≤ 8) : lastD (fD p n).S ⟨2, p⟩ = [⟨0, 1, 6⟩] := by
  unfold fD
  rw [done_last (fC_ok p h8) (fD_e p h) (by decide), if_pos rfl, fC_last p h, if_neg (key21 p p)]
  rfl
/-- what the table holds behind j further epochs -/
structure FeI (p : Part) (j : Nat) (D : Ds) : Prop where
  ok : okD 16 2 D
  E : D.E = [(j : Int), 0]
  l1 : 0 < j → ∀ q, lastD D.S ⟨1, q⟩ = []
  l2 : lastD D.S ⟨2, p⟩ = [⟨0, 1, 6⟩]
theorem feI0 (p : Part) {n : Nat} (h : 1 ≤ n) (h8 : n ≤ 8) : FeI p 0 (fD p n) := ⟨fD_ok p h8, fD_E p n, fun h => absurd h (by decide), fD_2 p h h8⟩
theorem FeI.is {p : Part} {j : Nat} {D : Ds} (h : FeI p j D) : isD D.E 1 ∧ isD D.E 2 ∧ ep D.E 1 = (j : Int) ∧ ep D.E 2 = 0 := by
  rw [h.E]
  exact ⟨by unfold isD; simp, by unfold isD; simp, rfl, rfl⟩
theorem FeI.step {p : Part} {j : Nat} {D : Ds} (h : FeI p j D) (hj : j ≤ 100) : openA D 1 = (1, (j : Int) + 1, 0) ∧ FeI p (j + 1) (openD D 1) := by
  obtain ⟨h1, h2, h3, h4⟩ := h.is
  have hlt : ep D.E 1 < 1099511627776 := by rw [h3]; omega
  obtain ⟨u1, u2⟩ := open_up h1 hlt
  have hl := open_last h1 hlt
  refine ⟨by rw [u1, h3], okD_open h.ok 1, ?_, fun _ q => by rw [hl, if_pos rfl], ?_⟩
  · rw [u2, h3, h.E]
    rfl
  · rw [hl, if_neg (show ¬ (2 : Int) = 1 by decide)]; exact h.l2
theorem FeI.g {p : Part} {j : Nat} {D : Ds} (h : FeI p j D) {e seq : Int} {n : Nat} (he : e < (j : Int)) : askN D p 1 e seq n = (0, false, 81) :=
  ask_old (by decide) h.is.1 (by rw [h.is.2.2.1]; exact he)
theorem FeI.h {p : Part} {j : Nat} {D : Ds} (h : FeI p j D) (h0 : 0 < j) {e : Int} {n : Nat} (he : e = (j : Int)) (q : Part) : askN D q 1 e 0 n = (0, false, 0) :=
  ask_due (by decide) h.is.1 (by rw [h.is.2.2.1]; exact he) (by rw [h.l1 h0]; rfl)
theorem FeI.i {p : Part} {j : Nat} {D : Ds} (h : FeI p j D) (h0 : 0 < j) {e seq : Int} {n : Nat} (he : e = (j : Int)) (hs : seq ≠ 0) (q : Part) : askN D q 1 e seq n = (0, false, 82) :=
  ask_nil (by decide) h.is.1 (by rw [h.is.2.2.1]; exact he) (h.l1 h0 q) hs
theorem FeI.j {p : Part} {j : Nat} {D : Ds} (h : FeI p j D) : askN D p 2 0 0 1 = (6, true, 0) := by
  have hl := h.l2
  have h1 := ask_had (p := p) (seq := 0) (n := 1) (i := 0) (by decide) h.is.2.1 h.is.2.2.2.symm (by rw [hl]; decide) (by rw [hl]; decide) (by rw [hl]; decide)
  rw [h1]
  simp only [hl]
  rfl
set_option maxRecDepth 20000 in
set_option maxHeartbeats 3200000 in
theorem lFences (w0 : World) (n mq : Int) (x : Two) :
    Ct Try.prog 5 #[.int .i64 n, .int .i64 mq, .agg (Lies.enc x).toArray] w0 fun v w' => v = .bool true ∧ Ext w0 w' := by
  refine Ct.intro1 Try.func5 Try.ntmps5 rfl rfl (by decide) rfl ?_
  have H : Ext w0 w0 := Ext.refl w0
  refine WP.regionS ?_
  refine RL.boxS w0.heap.size H.size rfl rfl ?_
  intro w1 i5 hi5 hx hb5
  replace H := H.ext hx; clear hx
  refine RL.r (asgB rfl) rfl ?_
  refine RL.nil ?_
  refine WP.regionS ?_
  -- call stagecoach/dedup.New 
  have hs0 := H.size
  refine RL.call (pNew _) rfl rfl ?_
  rintro v w2 ⟨⟨it, m, rfl, hbt, hmm⟩, hx⟩
  replace H := H.ext hx; replace hb5 := hb5.ext hx
  have hT := tg_new hbt hmm
  replace hT := hT.mono hs0
  refine RL.r (asgP rfl) rfl ?_
  refine RL.nil ?_
  refine WP.seq ?_
  refine WP.regionS ?_
  refine RL.r (mvP rfl) rfl ?_
  refine RL.r (peqn rfl rfl) rfl ?_
  refine RL.nil ?_
  refine WP.cond rfl (fun hc => ?_) (fun hc => ?_)
  · refine WP.regionS ?_
    refine RL.r (asgB rfl) rfl ?_
    refine RL.nil ?_
    refine WP.ret ?_
    refine fin1_ret rfl ⟨absurd hc (by simp), H⟩
  · refine WP.skip ?_
    refine WP.seq ?_
    refine WP.cutN (α := Nat × Nat) [8, 9, 36, 37, 38, 39] (fun y => [(8, .pointer (some ⟨y.1, 0, none⟩)), (9, .pointer (some ⟨y.2, 0, none⟩))]) (fun y w' => Ext w0 w' ∧ Box w0.heap.size w' i5 55 (Lies.enc x) ∧ Box w0.heap.size w' y.1 25 (Lies.enc x.p) ∧ Box w0.heap.size w' y.2 25 (Lies.enc x.q) ∧ i5 ≠ y.1 ∧ i5 ≠ y.2 ∧ y.1 ≠ y.2 ∧ Tg w0.heap.size w' it (terr it m none []) d0) ?_ ?_
    · refine WP.any ?_
      intro w3 hx; replace H := H.ext hx; replace hb5 := hb5.ext hx; replace hT := hT.ext hx
      refine AL.p 0 (by kernel_rfl) rfl (ix_arr rfl rfl rfl (by decide)) rfl ?_
      refine AL.p 2 (by kernel_rfl) rfl (ix_arr rfl rfl rfl (by decide)) rfl ?_
      refine AL.m 1 (by kernel_rfl) rfl (ldS_box rfl hb5 (Nat.le_of_ble_eq_true rfl) rfl) rfl ?_
      refine AL.all (rs := [3, 4, 5]) (by kernel_rfl) rfl ?_
      rintro i hi; simp only [List.mem_cons, List.not_mem_nil, or_false] at hi; rcases hi with rfl | rfl | rfl
      · refine ⟨_, rfl, ?_⟩
        refine RL.m (ldS_box rfl hb5 (Nat.le_of_ble_eq_true rfl) rfl) rfl ?_
        refine RL.nil ?_
        refine AL.all (rs := [4, 5]) (by kernel_rfl) rfl ?_
        rintro i hi; simp only [List.mem_cons, List.not_mem_nil, or_false] at hi; rcases hi with rfl | rfl
        · refine ⟨_, rfl, ?_⟩
          refine RL.alloc w0.heap.size H.size rfl rfl ?_
          intro w4 i8 hi8 hx hb8
          have ne5_8 := hb5.ne hi8
          replace H := H.ext hx; replace hb5 := hb5.ext hx; replace hT := hT.ext hx; clear hx
          refine RL.nil ?_
          refine AL.o 5 (by kernel_rfl) rfl ?_
          refine RL.alloc w0.heap.size H.size rfl rfl ?_
          intro w5 i9 hi9 hx hb9
          have ne5_9 := hb5.ne hi9
          have ne8_9 := hb8.ne hi9
          replace H := H.ext hx; replace hb5 := hb5.ext hx; replace hb8 := hb8.ext hx; replace hT := hT.ext hx; clear hx
          refine RL.nil ?_
          refine AL.o 6 (by kernel_rfl) rfl ?_
          have hb8_0 := hb8
          refine RL.storeS rfl hb8 rfl rfl rfl rfl ?_
          intro w6 hu hb8
          replace hT := hT.bx hb8_0 (by decide) (by decide) (by decide) hu
          replace H := H.box hu hb8.old; replace hb5 := hb5.upd hu ne5_8; replace hb9 := hb9.upd hu (Ne.symm ne8_9)
          refine RL.nil ?_
          refine AL.o 7 (by kernel_rfl) rfl ?_
          have hb9_0 := hb9
          refine RL.storeS rfl hb9 rfl rfl rfl rfl ?_
          intro w7 hu hb9
          replace hT := hT.bx hb9_0 (by decide) (by decide) (by decide) hu
          replace H := H.box hu hb9.old; replace hb5 := hb5.upd hu ne5_9; replace hb8 := hb8.upd hu ne8_9
          refine RL.nil ?_
          refine AL.nil (by kernel_rfl) ?_
          refine ⟨(i8, i9), Head.intro (by repeat (first | with_reducible exact AgreeOff.refl _ _ | with_reducible exact AgreeOff.mix _ _ _ | refine AgreeOff.look rfl ?_ | refine AgreeOff.mixs rfl ?_)) ⟨rfl, rfl, trivial⟩, H, hb5, hb8, hb9, ne5_8, ne5_9, (by first | exact ne8_9 | exact Ne.symm ne9_8), hT⟩
        · refine ⟨_, rfl, ?_⟩
          refine RL.alloc w0.heap.size H.size rfl rfl ?_
          intro w8 i9 hi9 hx hb9
          have ne5_9 := hb5.ne hi9
          replace H := H.ext hx; replace hb5 := hb5.ext hx; replace hT := hT.ext hx; clear hx
          refine RL.nil ?_
          refine AL.o 4 (by kernel_rfl) rfl ?_
          refine RL.alloc w0.heap.size H.size rfl rfl ?_
          intro w9 i8 hi8 hx hb8
          have ne5_8 := hb5.ne hi8
          have ne9_8 := hb9.ne hi8
          replace H := H.ext hx; replace hb5 := hb5.ext hx; replace hb9 := hb9.ext hx; replace hT := hT.ext hx; clear hx
          refine RL.nil ?_
          refine AL.o 6 (by kernel_rfl) rfl ?_
          have hb8_0 := hb8
          refine RL.storeS rfl hb8 rfl rfl rfl rfl ?_
          intro w10 hu hb8
          replace hT := hT.bx hb8_0 (by decide) (by decide) (by decide) hu
          replace H := H.box hu hb8.old; replace hb5 := hb5.upd hu ne5_8; replace hb9 := hb9.upd hu ne9_8
          refine RL.nil ?_
          refine AL.o 7 (by kernel_rfl) rfl ?_
          have hb9_0 := hb9
          refine RL.storeS rfl hb9 rfl rfl rfl rfl ?_
          intro w11 hu hb9
          replace hT := hT.bx hb9_0 (by decide) (by decide) (by decide) hu
          replace H := H.box hu hb9.old; replace hb5 := hb5.upd hu ne5_9; replace hb8 := hb8.upd hu (Ne.symm ne9_8)
          refine RL.nil ?_
          refine AL.nil (by kernel_rfl) ?_
          refine ⟨(i8, i9), Head.intro (by repeat (first | with_reducible exact AgreeOff.refl _ _ | with_reducible exact AgreeOff.mix _ _ _ | refine AgreeOff.look rfl ?_ | refine AgreeOff.mixs rfl ?_)) ⟨rfl, rfl, trivial⟩, H, hb5, hb8, hb9, ne5_8, ne5_9, (by first | exact ne8_9 | exact Ne.symm ne9_8), hT⟩
      · refine ⟨_, rfl, ?_⟩
        refine RL.alloc w0.heap.size H.size rfl rfl ?_
        intro w12 i8 hi8 hx hb8
        have ne5_8 := hb5.ne hi8
        replace H := H.ext hx; replace hb5 := hb5.ext hx; replace hT := hT.ext hx; clear hx
        refine RL.nil ?_
        refine AL.all (rs := [3, 5]) (by kernel_rfl) rfl ?_
        rintro i hi; simp only [List.mem_cons, List.not_mem_nil, or_false] at hi; rcases hi with rfl | rfl
        · refine ⟨_, rfl, ?_⟩
          refine RL.m (ldS_box rfl hb5 (Nat.le_of_ble_eq_true rfl) rfl) rfl ?_
          refine RL.nil ?_
          refine AL.o 5 (by kernel_rfl) rfl ?_
          refine RL.alloc w0.heap.size H.size rfl rfl ?_
          intro w13 i9 hi9 hx hb9
          have ne5_9 := hb5.ne hi9
          have ne8_9 := hb8.ne hi9
          replace H := H.ext hx; replace hb5 := hb5.ext hx; replace hb8 := hb8.ext hx; replace hT := hT.ext hx; clear hx
          refine RL.nil ?_
          refine AL.o 6 (by kernel_rfl) rfl ?_
          have hb8_0 := hb8
          refine RL.storeS rfl hb8 rfl rfl rfl rfl ?_
          intro w14 hu hb8
          replace hT := hT.bx hb8_0 (by decide) (by decide) (by decide) hu
          replace H := H.box hu hb8.old; replace hb5 := hb5.upd hu ne5_8; replace hb9 := hb9.upd hu (Ne.symm ne8_9)
          refine RL.nil ?_
          refine AL.o 7 (by kernel_rfl) rfl ?_
          have hb9_0 := hb9
          refine RL.storeS rfl hb9 rfl rfl rfl rfl ?_
          intro w15 hu hb9
          replace hT := hT.bx hb9_0 (by decide) (by decide) (by decide) hu
          replace H := H.box hu hb9.old; replace hb5 := hb5.upd hu ne5_9; replace hb8 := hb8.upd hu ne8_9
          refine RL.nil ?_
          refine AL.nil (by kernel_rfl) ?_
          refine ⟨(i8, i9), Head.intro (by repeat (first | with_reducible exact AgreeOff.refl _ _ | with_reducible exact AgreeOff.mix _ _ _ | refine AgreeOff.look rfl ?_ | refine AgreeOff.mixs rfl ?_)) ⟨rfl, rfl, trivial⟩, H, hb5, hb8, hb9, ne5_8, ne5_9, (by first | exact ne8_9 | exact Ne.symm ne9_8), hT⟩
        · refine ⟨_, rfl, ?_⟩
          refine RL.alloc w0.heap.size H.size rfl rfl ?_
          intro w16 i9 hi9 hx hb9
          have ne5_9 := hb5.ne hi9
          have ne8_9 := hb8.ne hi9
          replace H := H.ext hx; replace hb5 := hb5.ext hx; replace hb8 := hb8.ext hx; replace hT := hT.ext hx; clear hx
          refine RL.nil ?_
          refine AL.all (rs := [3, 6]) (by kernel_rfl) rfl ?_
          rintro i hi; simp only [List.mem_cons, List.not_mem_nil, or_false] at hi; rcases hi with rfl | rfl
          · refine ⟨_, rfl, ?_⟩
            refine RL.m (ldS_box rfl hb5 (Nat.le_of_ble_eq_true rfl) rfl) rfl ?_
            refine RL.nil ?_
            refine AL.o 6 (by kernel_rfl) rfl ?_
            have hb8_0 := hb8
            refine RL.storeS rfl hb8 rfl rfl rfl rfl ?_
            intro w17 hu hb8
            replace hT := hT.bx hb8_0 (by decide) (by decide) (by decide) hu
            replace H := H.box hu hb8.old; replace hb5 := hb5.upd hu ne5_8; replace hb9 := hb9.upd hu (Ne.symm ne8_9)
            refine RL.nil ?_
            refine AL.o 7 (by kernel_rfl) rfl ?_
            have hb9_0 := hb9
            refine RL.storeS rfl hb9 rfl rfl rfl rfl ?_
            intro w18 hu hb9
            replace hT := hT.bx hb9_0 (by decide) (by decide) (by decide) hu
            replace H := H.box hu hb9.old; replace hb5 := hb5.upd hu ne5_9; replace hb8 := hb8.upd hu ne8_9
            refine RL.nil ?_
            refine AL.nil (by kernel_rfl) ?_
            refine ⟨(i8, i9), Head.intro (by repeat (first | with_reducible exact AgreeOff.refl _ _ | with_reducible exact AgreeOff.mix _ _ _ | refine AgreeOff.look rfl ?_ | refine AgreeOff.mixs rfl ?_)) ⟨rfl, rfl, trivial⟩, H, hb5, hb8, hb9, ne5_8, ne5_9, (by first | exact ne8_9 | exact Ne.symm ne9_8), hT⟩
          · refine ⟨_, rfl, ?_⟩
            have hb8_0 := hb8
            refine RL.storeS rfl hb8 rfl rfl rfl rfl ?_
            intro w19 hu hb8
            replace hT := hT.bx hb8_0 (by decide) (by decide) (by decide) hu
            replace H := H.box hu hb8.old; replace hb5 := hb5.upd hu ne5_8; replace hb9 := hb9.upd hu (Ne.symm ne8_9)
            refine RL.nil ?_
            refine AL.m 3 (by kernel_rfl) rfl (ldS_box rfl hb5 (Nat.le_of_ble_eq_true rfl) rfl) rfl ?_
            refine AL.o 7 (by kernel_rfl) rfl ?_
            have hb9_0 := hb9
            refine RL.storeS rfl hb9 rfl rfl rfl rfl ?_
            intro w20 hu hb9
            replace hT := hT.bx hb9_0 (by decide) (by decide) (by decide) hu
            replace H := H.box hu hb9.old; replace hb5 := hb5.upd hu ne5_9; replace hb8 := hb8.upd hu ne8_9
            refine RL.nil ?_
            refine AL.nil (by kernel_rfl) ?_
            refine ⟨(i8, i9), Head.intro (by repeat (first | with_reducible exact AgreeOff.refl _ _ | with_reducible exact AgreeOff.mix _ _ _ | refine AgreeOff.look rfl ?_ | refine AgreeOff.mixs rfl ?_)) ⟨rfl, rfl, trivial⟩, H, hb5, hb8, hb9, ne5_8, ne5_9, (by first | exact ne8_9 | exact Ne.symm ne9_8), hT⟩
      · refine ⟨_, rfl, ?_⟩
        refine RL.alloc w0.heap.size H.size rfl rfl ?_
        intro w21 i9 hi9 hx hb9
        have ne5_9 := hb5.ne hi9
        replace H := H.ext hx; replace hb5 := hb5.ext hx; replace hT := hT.ext hx; clear hx
        refine RL.nil ?_
        refine AL.all (rs := [3, 4]) (by kernel_rfl) rfl ?_
        rintro i hi; simp only [List.mem_cons, List.not_mem_nil, or_false] at hi; rcases hi with rfl | rfl
        · refine ⟨_, rfl, ?_⟩
          refine RL.m (ldS_box rfl hb5 (Nat.le_of_ble_eq_true rfl) rfl) rfl ?_
          refine RL.nil ?_
          refine AL.o 4 (by kernel_rfl) rfl ?_
          refine RL.alloc w0.heap.size H.size rfl rfl ?_
          intro w22 i8 hi8 hx hb8
          have ne5_8 := hb5.ne hi8
          have ne9_8 := hb9.ne hi8
          replace H := H.ext hx; replace hb5 := hb5.ext hx; replace hb9 := hb9.ext hx; replace hT := hT.ext hx; clear hx
          refine RL.nil ?_
          refine AL.o 6 (by kernel_rfl) rfl ?_
          have hb8_0 := hb8
          refine RL.storeS rfl hb8 rfl rfl rfl rfl ?_
          intro w23 hu hb8
          replace hT := hT.bx hb8_0 (by decide) (by decide) (by decide) hu
          replace H := H.box hu hb8.old; replace hb5 := hb5.upd hu ne5_8; replace hb9 := hb9.upd hu ne9_8
          refine RL.nil ?_
          refine AL.o 7 (by kernel_rfl) rfl ?_
          have hb9_0 := hb9
          refine RL.storeS rfl hb9 rfl rfl rfl rfl ?_
          intro w24 hu hb9
          replace hT := hT.bx hb9_0 (by decide) (by decide) (by decide) hu
          replace H := H.box hu hb9.old; replace hb5 := hb5.upd hu ne5_9; replace hb8 := hb8.upd hu (Ne.symm ne9_8)
          refine RL.nil ?_
          refine AL.nil (by kernel_rfl) ?_
          refine ⟨(i8, i9), Head.intro (by repeat (first | with_reducible exact AgreeOff.refl _ _ | with_reducible exact AgreeOff.mix _ _ _ | refine AgreeOff.look rfl ?_ | refine AgreeOff.mixs rfl ?_)) ⟨rfl, rfl, trivial⟩, H, hb5, hb8, hb9, ne5_8, ne5_9, (by first | exact ne8_9 | exact Ne.symm ne9_8), hT⟩
        · refine ⟨_, rfl, ?_⟩
          refine RL.alloc w0.heap.size H.size rfl rfl ?_
          intro w25 i8 hi8 hx hb8
          have ne5_8 := hb5.ne hi8
          have ne9_8 := hb9.ne hi8
          replace H := H.ext hx; replace hb5 := hb5.ext hx; replace hb9 := hb9.ext hx; replace hT := hT.ext hx; clear hx
          refine RL.nil ?_
          refine AL.all (rs := [3, 6]) (by kernel_rfl) rfl ?_
          rintro i hi; simp only [List.mem_cons, List.not_mem_nil, or_false] at hi; rcases hi with rfl | rfl
          · refine ⟨_, rfl, ?_⟩
            refine RL.m (ldS_box rfl hb5 (Nat.le_of_ble_eq_true rfl) rfl) rfl ?_
            refine RL.nil ?_
            refine AL.o 6 (by kernel_rfl) rfl ?_
            have hb8_0 := hb8
            refine RL.storeS rfl hb8 rfl rfl rfl rfl ?_
            intro w26 hu hb8
            replace hT := hT.bx hb8_0 (by decide) (by decide) (by decide) hu
            replace H := H.box hu hb8.old; replace hb5 := hb5.upd hu ne5_8; replace hb9 := hb9.upd hu ne9_8
            refine RL.nil ?_
            refine AL.o 7 (by kernel_rfl) rfl ?_
            have hb9_0 := hb9
            refine RL.storeS rfl hb9 rfl rfl rfl rfl ?_
            intro w27 hu hb9
            replace hT := hT.bx hb9_0 (by decide) (by decide) (by decide) hu
            replace H := H.box hu hb9.old; replace hb5 := hb5.upd hu ne5_9; replace hb8 := hb8.upd hu (Ne.symm ne9_8)
            refine RL.nil ?_
            refine AL.nil (by kernel_rfl) ?_
            refine ⟨(i8, i9), Head.intro (by repeat (first | with_reducible exact AgreeOff.refl _ _ | with_reducible exact AgreeOff.mix _ _ _ | refine AgreeOff.look rfl ?_ | refine AgreeOff.mixs rfl ?_)) ⟨rfl, rfl, trivial⟩, H, hb5, hb8, hb9, ne5_8, ne5_9, (by first | exact ne8_9 | exact Ne.symm ne9_8), hT⟩
          · refine ⟨_, rfl, ?_⟩
            have hb8_0 := hb8
            refine RL.storeS rfl hb8 rfl rfl rfl rfl ?_
            intro w28 hu hb8
            replace hT := hT.bx hb8_0 (by decide) (by decide) (by decide) hu
            replace H := H.box hu hb8.old; replace hb5 := hb5.upd hu ne5_8; replace hb9 := hb9.upd hu ne9_8
            refine RL.nil ?_
            refine AL.m 3 (by kernel_rfl) rfl (ldS_box rfl hb5 (Nat.le_of_ble_eq_true rfl) rfl) rfl ?_
            refine AL.o 7 (by kernel_rfl) rfl ?_
            have hb9_0 := hb9
            refine RL.storeS rfl hb9 rfl rfl rfl rfl ?_
            intro w29 hu hb9
            replace hT := hT.bx hb9_0 (by decide) (by decide) (by decide) hu
            replace H := H.box hu hb9.old; replace hb5 := hb5.upd hu ne5_9; replace hb8 := hb8.upd hu (Ne.symm ne9_8)
            refine RL.nil ?_
            refine AL.nil (by kernel_rfl) ?_
            refine ⟨(i8, i9), Head.intro (by repeat (first | with_reducible exact AgreeOff.refl _ _ | with_reducible exact AgreeOff.mix _ _ _ | refine AgreeOff.look rfl ?_ | refine AgreeOff.mixs rfl ?_)) ⟨rfl, rfl, trivial⟩, H, hb5, hb8, hb9, ne5_8, ne5_9, (by first | exact ne8_9 | exact Ne.symm ne9_8), hT⟩
    rintro ⟨i8, i9⟩ jc w30 ⟨H, hb5, hb8, hb9, ne5_8, ne5_9, ne8_9, hT⟩
    refine WP.regionS ?_
    refine RL.r (fa_box rfl) rfl ?_
    refine RL.m (ld_box rfl hb8 rfl) rfl ?_
    refine RL.r (fa_box rfl) rfl ?_
    refine RL.m (ld_box rfl hb8 rfl) rfl ?_
    refine RL.r (len_str rfl) rfl ?_
    refine RL.r (min_i rfl rfl) rfl ?_
    refine RL.r (slcS (n := min x.p.topic.size 40) rfl rfl (by omega) (by omega)) rfl ?_
    refine RL.r (fa_box rfl) rfl ?_
    have hb8_0 := hb8
    refine RL.store1 rfl hb8 rfl rfl rfl rfl ?_
    intro w31 hu hb8
    replace hT := hT.bx hb8_0 (by decide) (by decide) (by decide) hu
    replace H := H.box hu hb8.old; replace hb5 := hb5.upd hu ne5_8; replace hb9 := hb9.upd hu (Ne.symm ne8_9)
    refine RL.nil ?_
    refine WP.regionS ?_
    refine RL.r (fa_box rfl) rfl ?_
    refine RL.m (ld_box rfl hb9 rfl) rfl ?_
    refine RL.r (fa_box rfl) rfl ?_
    refine RL.m (ld_box rfl hb9 rfl) rfl ?_
    refine RL.r (len_str rfl) rfl ?_
    refine RL.r (min_i rfl rfl) rfl ?_
    refine RL.r (slcS (n := min x.q.topic.size 40) rfl rfl (by omega) (by omega)) rfl ?_
    refine RL.r (fa_box rfl) rfl ?_
    have hb9_0 := hb9
    refine RL.store1 rfl hb9 rfl rfl rfl rfl ?_
    intro w32 hu hb9
    replace hT := hT.bx hb9_0 (by decide) (by decide) (by decide) hu
    replace H := H.box hu hb9.old; replace hb5 := hb5.upd hu ne5_9; replace hb8 := hb8.upd hu ne8_9
    refine RL.nil ?_
    refine WP.regionS ?_
    refine RL.r (mvP rfl) rfl ?_
    -- call (*stagecoach/dedup.Table).Open (tmp 57) (const (int i64 0))
    refine RL.call (pOpenS _ _ it _ d0 hT 0 0 okD0 0 o1 o1') rfl rfl ?_
    rintro _ w33 ⟨⟨e1, he1, rfl, Z2, hT2, _⟩, hx⟩
    replace H := ext_z H hT (Nat.le_refl _) hx; replace hb5 := box_z hb5 hT (by decide) (by decide) (by decide) hx; replace hb8 := box_z hb8 hT (by decide) (by decide) (by decide) hx; replace hb9 := box_z hb9 hT (by decide) (by decide) (by decide) hx
    replace hT := hT2; clear hT2
    refine RL.r (mvU rfl) rfl ?_
    refine RL.r (ex0 rfl) rfl ?_
    refine RL.r (ex1 rfl) rfl ?_
    refine RL.r (ex2 rfl) rfl ?_
    refine RL.r (asgI rfl) rfl ?_
    refine RL.r (asgI rfl) rfl ?_
    refine RL.r (asgI rfl) rfl ?_
    refine RL.nil ?_
    refine WP.regionS ?_
    refine RL.r (mvP rfl) rfl ?_
    -- call (*stagecoach/dedup.Table).Open (tmp 63) (const (int i64 0))
    have ha7 := andv_le 7 (by decide) n
    have ha3 := andv_le 3 (by decide) mq
    refine RL.call (pOpenS _ _ it _ F1 hT 0 0 k1 0 o10 o10') rfl rfl ?_
    rintro _ w34 ⟨⟨e2, he2, rfl, Z2, hT2, _⟩, hx⟩
    replace H := ext_z H hT (Nat.le_refl _) hx; replace hb5 := box_z hb5 hT (by decide) (by decide) (by decide) hx; replace hb8 := box_z hb8 hT (by decide) (by decide) (by decide) hx; replace hb9 := box_z hb9 hT (by decide) (by decide) (by decide) hx
    replace hT := hT2; clear hT2
    refine RL.r (mvU rfl) rfl ?_
    refine RL.r (ex0 rfl) rfl ?_
    refine RL.r (ex1 rfl) rfl ?_
    refine RL.r (ex2 rfl) rfl ?_
    refine RL.r (asgI rfl) rfl ?_
    refine RL.r (asgI rfl) rfl ?_
    refine RL.r (asgI rfl) rfl ?_
    refine RL.nil ?_
    refine WP.regionS ?_
    refine RL.r (mvI rfl) rfl ?_
    refine RL.r (andk (K := 7) rfl rfl (by decide)) rfl ?_
    refine RL.r (add rfl rfl (by omega)) rfl ?_
    refine RL.r (asgI rfl) rfl ?_
    refine RL.nil ?_
    refine WP.seq ?_
    refine WP.cutN (α := (Nat → Prop) × Int × Int) [17, 18, 71, 72, 73, 74, 75, 76, 77, 78, 79, 80, 81] (fun y => [(17, .int .i64 y.2.1), (18, .int .i64 y.2.2)]) (fun y w' => Ext w0 w' ∧ Box w0.heap.size w' i5 55 (Lies.enc x) ∧ Box w0.heap.size w' i8 25 (Lies.enc (cutP x.p)) ∧ Box w0.heap.size w' i9 25 (Lies.enc (cutP x.q)) ∧ Tg w0.heap.size w' it y.1 (fD (cutP x.p) (1 + andv 7 n)) ∧ y.2.1 = 0 ∧ y.2.2 = 0) ?_ ?_
    · refine WP.any ?_
      intro w35 hx; replace H := H.ext hx; replace hb5 := hb5.ext hx; replace hb8 := hb8.ext hx; replace hb9 := hb9.ext hx; replace hT := hT.ext hx
      refine AL.p 0 (by kernel_rfl) rfl (mvP rfl) rfl ?_
      refine AL.p 2 (by kernel_rfl) rfl (mvI rfl) rfl ?_
      refine AL.p 3 (by kernel_rfl) rfl (mvI rfl) rfl ?_
      refine AL.p 6 (by kernel_rfl) rfl (mvP rfl) rfl ?_
      refine AL.p 8 (by kernel_rfl) rfl (mvI rfl) rfl ?_
      refine AL.all (rs := [1, 4, 7]) (by kernel_rfl) rfl ?_
      rintro i hi; simp only [List.mem_cons, List.not_mem_nil, or_false] at hi; rcases hi with rfl | rfl | rfl
      · refine ⟨_, rfl, ?_⟩
        refine RL.m (ldS_box rfl hb8 (Nat.le_of_ble_eq_true rfl) rfl) rfl ?_
        refine RL.nil ?_
        refine AL.all (rs := [4, 7]) (by kernel_rfl) rfl ?_
        rintro i hi; simp only [List.mem_cons, List.not_mem_nil, or_false] at hi; rcases hi with rfl | rfl
        · refine ⟨_, rfl, ?_⟩
          -- call stagecoach/stagecoachlaw08.of (tmp 73) (const (int i64 0)) (const (int i64 0)) (tmp 74)
          have hOf : ∀ w', Ct Try.prog 19 #[.int .i64 1, .int .i64 0, .int .i64 0, .int .i64 (1 + ((andv 7 n : Nat) : Int))] w' fun v w'' => (∃ (ra : Option Addr) (rc : Nat) (recs : List Rec), v = .agg (Lies.enc (⟨1, 0, 0, ra, rc, recs⟩ : Bat)).toArray ∧ recs.length = (1 + ((andv 7 n : Nat) : Int)).toNat) ∧ Ext w' w'' := fun w' => pOf w' 1 0 0 _ (by omega)
          refine RL.call (hOf _) rfl rfl ?_
          rintro v w36 ⟨⟨ra, rc, recs, rfl, hrl⟩, hx⟩
          replace H := H.ext hx; replace hb5 := hb5.ext hx; replace hb8 := hb8.ext hx; replace hb9 := hb9.ext hx; replace hT := hT.ext hx
          refine RL.nil ?_
          refine AL.all (rs := [5, 7]) (by kernel_rfl) rfl ?_
          rintro i hi; simp only [List.mem_cons, List.not_mem_nil, or_false] at hi; rcases hi with rfl | rfl
          · refine ⟨_, rfl, ?_⟩
            -- call (*stagecoach/dedup.Table).Done (tmp 71) (tmp 72) (tmp 75) (const (int i64 5))
            refine RL.call (pDoneS _ _ it _ FB hT _ _ k4 (by decide) (cutP x.p) 1 0 0 ra rc recs 5 (n := (1 + andv 7 n)) (by omega)) rfl rfl ?_
            rintro _ w37 ⟨⟨x1, hx1, rfl, Z1, hT2, _⟩, hx⟩
            replace H := ext_z H hT (Nat.le_refl _) hx; replace hb5 := box_z hb5 hT (by decide) (by decide) (by decide) hx; replace hb8 := box_z hb8 hT (by decide) (by decide) (by decide) hx; replace hb9 := box_z hb9 hT (by decide) (by decide) (by decide) hx
            replace hT := hT2; clear hT2
            refine RL.nil ?_
            -- call stagecoach/stagecoachlaw08.of (tmp 79) (const (int i64 0)) (const (int i64 0)) (const (int i64 1))
            refine AL.x 9 (by kernel_rfl) rfl rfl (fun w' hw' => pOf _ 2 0 0 1 (by decide)) ?_
            refine AX.m 7 (by kernel_rfl) rfl rfl (ldS_box rfl hb8 (Nat.le_of_ble_eq_true rfl) rfl) rfl ?_
            refine AX.o (by kernel_rfl) rfl ?_
            rintro v w38 ⟨⟨ra, rc, recs, rfl, hrl⟩, hx⟩
            replace H := H.ext hx; replace hb5 := hb5.ext hx; replace hb8 := hb8.ext hx; replace hb9 := hb9.ext hx; replace hT := hT.ext hx
            refine AL.o 10 (by kernel_rfl) rfl ?_
            -- call (*stagecoach/dedup.Table).Done (tmp 77) (tmp 78) (tmp 80) (const (int i64 6))
            refine RL.call (pDoneS _ _ it _ (fC (cutP x.p) (1 + andv 7 n)) hT _ _ (fC_ok _ (by omega)) (by decide) (cutP x.p) 2 0 0 ra rc recs 6 (n := 1) hrl) rfl rfl ?_
            rintro _ w39 ⟨⟨x2, hx2, rfl, Z2, hT2, _⟩, hx⟩
            replace H := ext_z H hT (Nat.le_refl _) hx; replace hb5 := box_z hb5 hT (by decide) (by decide) (by decide) hx; replace hb8 := box_z hb8 hT (by decide) (by decide) (by decide) hx; replace hb9 := box_z hb9 hT (by decide) (by decide) (by decide) hx
            replace hT := hT2; clear hT2
            refine RL.nil ?_
            refine AL.p 11 (by kernel_rfl) rfl (asgI rfl) rfl ?_
            refine AL.p 12 (by kernel_rfl) rfl (asgI rfl) rfl ?_
            refine AL.nil (by kernel_rfl) ?_
            refine ⟨(Z2, x1, x2), Head.intro (by repeat (first | with_reducible exact AgreeOff.refl _ _ | with_reducible exact AgreeOff.mix _ _ _ | refine AgreeOff.look rfl ?_ | refine AgreeOff.mixs rfl ?_)) ⟨rfl, rfl, trivial⟩, H, hb5, hb8, hb9, hT, hx1.symm.trans (fC_e _ (by omega)), hx2.symm.trans (fD_e _ (by omega))⟩
          · refine ⟨_, rfl, ?_⟩
            refine RL.m (ldS_box rfl hb8 (Nat.le_of_ble_eq_true rfl) rfl) rfl ?_
            refine RL.nil ?_
            refine AL.o 5 (by kernel_rfl) rfl ?_
            -- call (*stagecoach/dedup.Table).Done (tmp 71) (tmp 72) (tmp 75) (const (int i64 5))
            refine RL.call (pDoneS _ _ it _ FB hT _ _ k4 (by decide) (cutP x.p) 1 0 0 ra rc recs 5 (n := (1 + andv 7 n)) (by omega)) rfl rfl ?_
            rintro _ w40 ⟨⟨x1, hx1, rfl, Z1, hT2, _⟩, hx⟩
            replace H := ext_z H hT (Nat.le_refl _) hx; replace hb5 := box_z hb5 hT (by decide) (by decide) (by decide) hx; replace hb8 := box_z hb8 hT (by decide) (by decide) (by decide) hx; replace hb9 := box_z hb9 hT (by decide) (by decide) (by decide) hx
            replace hT := hT2; clear hT2
            refine RL.nil ?_
            refine AL.o 9 (by kernel_rfl) rfl ?_
            -- call stagecoach/stagecoachlaw08.of (tmp 79) (const (int i64 0)) (const (int i64 0)) (const (int i64 1))
            refine RL.call (pOf _ 2 0 0 1 (by decide)) rfl rfl ?_
            rintro v w41 ⟨⟨ra, rc, recs, rfl, hrl⟩, hx⟩
            replace H := H.ext hx; replace hb5 := hb5.ext hx; replace hb8 := hb8.ext hx; replace hb9 := hb9.ext hx; replace hT := hT.ext hx
            refine RL.nil ?_
            refine AL.o 10 (by kernel_rfl) rfl ?_
            -- call (*stagecoach/dedup.Table).Done (tmp 77) (tmp 78) (tmp 80) (const (int i64 6))
            refine RL.call (pDoneS _ _ it _ (fC (cutP x.p) (1 + andv 7 n)) hT _ _ (fC_ok _ (by omega)) (by decide) (cutP x.p) 2 0 0 ra rc recs 6 (n := 1) hrl) rfl rfl ?_
            rintro _ w42 ⟨⟨x2, hx2, rfl, Z2, hT2, _⟩, hx⟩
            replace H := ext_z H hT (Nat.le_refl _) hx; replace hb5 := box_z hb5 hT (by decide) (by decide) (by decide) hx; replace hb8 := box_z hb8 hT (by decide) (by decide) (by decide) hx; replace hb9 := box_z hb9 hT (by decide) (by decide) (by decide) hx
            replace hT := hT2; clear hT2
            refine RL.nil ?_
            refine AL.p 11 (by kernel_rfl) rfl (asgI rfl) rfl ?_
            refine AL.p 12 (by kernel_rfl) rfl (asgI rfl) rfl ?_
            refine AL.nil (by kernel_rfl) ?_
            refine ⟨(Z2, x1, x2), Head.intro (by repeat (first | with_reducible exact AgreeOff.refl _ _ | with_reducible exact AgreeOff.mix _ _ _ | refine AgreeOff.look rfl ?_ | refine AgreeOff.mixs rfl ?_)) ⟨rfl, rfl, trivial⟩, H, hb5, hb8, hb9, hT, hx1.symm.trans (fC_e _ (by omega)), hx2.symm.trans (fD_e _ (by omega))⟩
        · refine ⟨_, rfl, ?_⟩
          refine RL.m (ldS_box rfl hb8 (Nat.le_of_ble_eq_true rfl) rfl) rfl ?_
          refine RL.nil ?_
          refine AL.o 4 (by kernel_rfl) rfl ?_
          -- call stagecoach/stagecoachlaw08.of (tmp 73) (const (int i64 0)) (const (int i64 0)) (tmp 74)
          have hOf : ∀ w', Ct Try.prog 19 #[.int .i64 1, .int .i64 0, .int .i64 0, .int .i64 (1 + ((andv 7 n : Nat) : Int))] w' fun v w'' => (∃ (ra : Option Addr) (rc : Nat) (recs : List Rec), v = .agg (Lies.enc (⟨1, 0, 0, ra, rc, recs⟩ : Bat)).toArray ∧ recs.length = (1 + ((andv 7 n : Nat) : Int)).toNat) ∧ Ext w' w'' := fun w' => pOf w' 1 0 0 _ (by omega)
          refine RL.call (hOf _) rfl rfl ?_
          rintro v w43 ⟨⟨ra, rc, recs, rfl, hrl⟩, hx⟩
          replace H := H.ext hx; replace hb5 := hb5.ext hx; replace hb8 := hb8.ext hx; replace hb9 := hb9.ext hx; replace hT := hT.ext hx
          refine RL.nil ?_
          refine AL.o 5 (by kernel_rfl) rfl ?_
          -- call (*stagecoach/dedup.Table).Done (tmp 71) (tmp 72) (tmp 75) (const (int i64 5))
          refine RL.call (pDoneS _ _ it _ FB hT _ _ k4 (by decide) (cutP x.p) 1 0 0 ra rc recs 5 (n := (1 + andv 7 n)) (by omega)) rfl rfl ?_
          rintro _ w44 ⟨⟨x1, hx1, rfl, Z1, hT2, _⟩, hx⟩
          replace H := ext_z H hT (Nat.le_refl _) hx; replace hb5 := box_z hb5 hT (by decide) (by decide) (by decide) hx; replace hb8 := box_z hb8 hT (by decide) (by decide) (by decide) hx; replace hb9 := box_z hb9 hT (by decide) (by decide) (by decide) hx
          replace hT := hT2; clear hT2
          refine RL.nil ?_
          refine AL.o 9 (by kernel_rfl) rfl ?_
          -- call stagecoach/stagecoachlaw08.of (tmp 79) (const (int i64 0)) (const (int i64 0)) (const (int i64 1))
          refine RL.call (pOf _ 2 0 0 1 (by decide)) rfl rfl ?_
          rintro v w45 ⟨⟨ra, rc, recs, rfl, hrl⟩, hx⟩
          replace H := H.ext hx; replace hb5 := hb5.ext hx; replace hb8 := hb8.ext hx; replace hb9 := hb9.ext hx; replace hT := hT.ext hx
          refine RL.nil ?_
          refine AL.o 10 (by kernel_rfl) rfl ?_
          -- call (*stagecoach/dedup.Table).Done (tmp 77) (tmp 78) (tmp 80) (const (int i64 6))
          refine RL.call (pDoneS _ _ it _ (fC (cutP x.p) (1 + andv 7 n)) hT _ _ (fC_ok _ (by omega)) (by decide) (cutP x.p) 2 0 0 ra rc recs 6 (n := 1) hrl) rfl rfl ?_
          rintro _ w46 ⟨⟨x2, hx2, rfl, Z2, hT2, _⟩, hx⟩
          replace H := ext_z H hT (Nat.le_refl _) hx; replace hb5 := box_z hb5 hT (by decide) (by decide) (by decide) hx; replace hb8 := box_z hb8 hT (by decide) (by decide) (by decide) hx; replace hb9 := box_z hb9 hT (by decide) (by decide) (by decide) hx
          replace hT := hT2; clear hT2
          refine RL.nil ?_
          refine AL.p 11 (by kernel_rfl) rfl (asgI rfl) rfl ?_
          refine AL.p 12 (by kernel_rfl) rfl (asgI rfl) rfl ?_
          refine AL.nil (by kernel_rfl) ?_
          refine ⟨(Z2, x1, x2), Head.intro (by repeat (first | with_reducible exact AgreeOff.refl _ _ | with_reducible exact AgreeOff.mix _ _ _ | refine AgreeOff.look rfl ?_ | refine AgreeOff.mixs rfl ?_)) ⟨rfl, rfl, trivial⟩, H, hb5, hb8, hb9, hT, hx1.symm.trans (fC_e _ (by omega)), hx2.symm.trans (fD_e _ (by omega))⟩
      · refine ⟨_, rfl, ?_⟩
        -- call stagecoach/stagecoachlaw08.of (tmp 73) (const (int i64 0)) (const (int i64 0)) (tmp 74)
        have hOf : ∀ w', Ct Try.prog 19 #[.int .i64 1, .int .i64 0, .int .i64 0, .int .i64 (1 + ((andv 7 n : Nat) : Int))] w' fun v w'' => (∃ (ra : Option Addr) (rc : Nat) (recs : List Rec), v = .agg (Lies.enc (⟨1, 0, 0, ra, rc, recs⟩ : Bat)).toArray ∧ recs.length = (1 + ((andv 7 n : Nat) : Int)).toNat) ∧ Ext w' w'' := fun w' => pOf w' 1 0 0 _ (by omega)
        refine RL.call (hOf _) rfl rfl ?_
        rintro v w47 ⟨⟨ra, rc, recs, rfl, hrl⟩, hx⟩
        replace H := H.ext hx; replace hb5 := hb5.ext hx; replace hb8 := hb8.ext hx; replace hb9 := hb9.ext hx; replace hT := hT.ext hx
        refine RL.nil ?_
        refine AL.m 1 (by kernel_rfl) rfl (ldS_box rfl hb8 (Nat.le_of_ble_eq_true rfl) rfl) rfl ?_
        refine AL.all (rs := [5, 7]) (by kernel_rfl) rfl ?_
        rintro i hi; simp only [List.mem_cons, List.not_mem_nil, or_false] at hi; rcases hi with rfl | rfl
        · refine ⟨_, rfl, ?_⟩
          -- call (*stagecoach/dedup.Table).Done (tmp 71) (tmp 72) (tmp 75) (const (int i64 5))
          refine RL.call (pDoneS _ _ it _ FB hT _ _ k4 (by decide) (cutP x.p) 1 0 0 ra rc recs 5 (n := (1 + andv 7 n)) (by omega)) rfl rfl ?_
          rintro _ w48 ⟨⟨x1, hx1, rfl, Z1, hT2, _⟩, hx⟩
          replace H := ext_z H hT (Nat.le_refl _) hx; replace hb5 := box_z hb5 hT (by decide) (by decide) (by decide) hx; replace hb8 := box_z hb8 hT (by decide) (by decide) (by decide) hx; replace hb9 := box_z hb9 hT (by decide) (by decide) (by decide) hx
          replace hT := hT2; clear hT2
          refine RL.nil ?_
          -- call stagecoach/stagecoachlaw08.of (tmp 79) (const (int i64 0)) (const (int i64 0)) (const (int i64 1))
          refine AL.x 9 (by kernel_rfl) rfl rfl (fun w' hw' => pOf _ 2 0 0 1 (by decide)) ?_
          refine AX.m 7 (by kernel_rfl) rfl rfl (ldS_box rfl hb8 (Nat.le_of_ble_eq_true rfl) rfl) rfl ?_
          refine AX.o (by kernel_rfl) rfl ?_
          rintro v w49 ⟨⟨ra, rc, recs, rfl, hrl⟩, hx⟩
          replace H := H.ext hx; replace hb5 := hb5.ext hx; replace hb8 := hb8.ext hx; replace hb9 := hb9.ext hx; replace hT := hT.ext hx
          refine AL.o 10 (by kernel_rfl) rfl ?_
          -- call (*stagecoach/dedup.Table).Done (tmp 77) (tmp 78) (tmp 80) (const (int i64 6))
          refine RL.call (pDoneS _ _ it _ (fC (cutP x.p) (1 + andv 7 n)) hT _ _ (fC_ok _ (by omega)) (by decide) (cutP x.p) 2 0 0 ra rc recs 6 (n := 1) hrl) rfl rfl ?_
          rintro _ w50 ⟨⟨x2, hx2, rfl, Z2, hT2, _⟩, hx⟩
          replace H := ext_z H hT (Nat.le_refl _) hx; replace hb5 := box_z hb5 hT (by decide) (by decide) (by decide) hx; replace hb8 := box_z hb8 hT (by decide) (by decide) (by decide) hx; replace hb9 := box_z hb9 hT (by decide) (by decide) (by decide) hx
          replace hT := hT2; clear hT2
          refine RL.nil ?_
          refine AL.p 11 (by kernel_rfl) rfl (asgI rfl) rfl ?_
          refine AL.p 12 (by kernel_rfl) rfl (asgI rfl) rfl ?_
          refine AL.nil (by kernel_rfl) ?_
          refine ⟨(Z2, x1, x2), Head.intro (by repeat (first | with_reducible exact AgreeOff.refl _ _ | with_reducible exact AgreeOff.mix _ _ _ | refine AgreeOff.look rfl ?_ | refine AgreeOff.mixs rfl ?_)) ⟨rfl, rfl, trivial⟩, H, hb5, hb8, hb9, hT, hx1.symm.trans (fC_e _ (by omega)), hx2.symm.trans (fD_e _ (by omega))⟩
        · refine ⟨_, rfl, ?_⟩
          refine RL.m (ldS_box rfl hb8 (Nat.le_of_ble_eq_true rfl) rfl) rfl ?_
          refine RL.nil ?_
          refine AL.o 5 (by kernel_rfl) rfl ?_
          -- call (*stagecoach/dedup.Table).Done (tmp 71) (tmp 72) (tmp 75) (const (int i64 5))
          refine RL.call (pDoneS _ _ it _ FB hT _ _ k4 (by decide) (cutP x.p) 1 0 0 ra rc recs 5 (n := (1 + andv 7 n)) (by omega)) rfl rfl ?_
          rintro _ w51 ⟨⟨x1, hx1, rfl, Z1, hT2, _⟩, hx⟩
          replace H := ext_z H hT (Nat.le_refl _) hx; replace hb5 := box_z hb5 hT (by decide) (by decide) (by decide) hx; replace hb8 := box_z hb8 hT (by decide) (by decide) (by decide) hx; replace hb9 := box_z hb9 hT (by decide) (by decide) (by decide) hx
          replace hT := hT2; clear hT2
          refine RL.nil ?_
          refine AL.o 9 (by kernel_rfl) rfl ?_
          -- call stagecoach/stagecoachlaw08.of (tmp 79) (const (int i64 0)) (const (int i64 0)) (const (int i64 1))
          refine RL.call (pOf _ 2 0 0 1 (by decide)) rfl rfl ?_
          rintro v w52 ⟨⟨ra, rc, recs, rfl, hrl⟩, hx⟩
          replace H := H.ext hx; replace hb5 := hb5.ext hx; replace hb8 := hb8.ext hx; replace hb9 := hb9.ext hx; replace hT := hT.ext hx
          refine RL.nil ?_
          refine AL.o 10 (by kernel_rfl) rfl ?_
          -- call (*stagecoach/dedup.Table).Done (tmp 77) (tmp 78) (tmp 80) (const (int i64 6))
          refine RL.call (pDoneS _ _ it _ (fC (cutP x.p) (1 + andv 7 n)) hT _ _ (fC_ok _ (by omega)) (by decide) (cutP x.p) 2 0 0 ra rc recs 6 (n := 1) hrl) rfl rfl ?_
          rintro _ w53 ⟨⟨x2, hx2, rfl, Z2, hT2, _⟩, hx⟩
          replace H := ext_z H hT (Nat.le_refl _) hx; replace hb5 := box_z hb5 hT (by decide) (by decide) (by decide) hx; replace hb8 := box_z hb8 hT (by decide) (by decide) (by decide) hx; replace hb9 := box_z hb9 hT (by decide) (by decide) (by decide) hx
          replace hT := hT2; clear hT2
          refine RL.nil ?_
          refine AL.p 11 (by kernel_rfl) rfl (asgI rfl) rfl ?_
          refine AL.p 12 (by kernel_rfl) rfl (asgI rfl) rfl ?_
          refine AL.nil (by kernel_rfl) ?_
          refine ⟨(Z2, x1, x2), Head.intro (by repeat (first | with_reducible exact AgreeOff.refl _ _ | with_reducible exact AgreeOff.mix _ _ _ | refine AgreeOff.look rfl ?_ | refine AgreeOff.mixs rfl ?_)) ⟨rfl, rfl, trivial⟩, H, hb5, hb8, hb9, hT, hx1.symm.trans (fC_e _ (by omega)), hx2.symm.trans (fD_e _ (by omega))⟩
      · refine ⟨_, rfl, ?_⟩
        refine RL.m (ldS_box rfl hb8 (Nat.le_of_ble_eq_true rfl) rfl) rfl ?_
        refine RL.nil ?_
        -- call stagecoach/stagecoachlaw08.of (tmp 73) (const (int i64 0)) (const (int i64 0)) (tmp 74)
        have hOf : ∀ w', Ct Try.prog 19 #[.int .i64 1, .int .i64 0, .int .i64 0, .int .i64 (1 + ((andv 7 n : Nat) : Int))] w' fun v w'' => (∃ (ra : Option Addr) (rc : Nat) (recs : List Rec), v = .agg (Lies.enc (⟨1, 0, 0, ra, rc, recs⟩ : Bat)).toArray ∧ recs.length = (1 + ((andv 7 n : Nat) : Int)).toNat) ∧ Ext w' w'' := fun w' => pOf w' 1 0 0 _ (by omega)
        refine AL.x 4 (by kernel_rfl) rfl rfl (fun w' hw' => hOf _) ?_
        refine AX.m 1 (by kernel_rfl) rfl rfl (ldS_box rfl hb8 (Nat.le_of_ble_eq_true rfl) rfl) rfl ?_
        refine AX.o (by kernel_rfl) rfl ?_
        rintro v w54 ⟨⟨ra, rc, recs, rfl, hrl⟩, hx⟩
        replace H := H.ext hx; replace hb5 := hb5.ext hx; replace hb8 := hb8.ext hx; replace hb9 := hb9.ext hx; replace hT := hT.ext hx
        refine AL.o 5 (by kernel_rfl) rfl ?_
        -- call (*stagecoach/dedup.Table).Done (tmp 71) (tmp 72) (tmp 75) (const (int i64 5))
        refine RL.call (pDoneS _ _ it _ FB hT _ _ k4 (by decide) (cutP x.p) 1 0 0 ra rc recs 5 (n := (1 + andv 7 n)) (by omega)) rfl rfl ?_
        rintro _ w55 ⟨⟨x1, hx1, rfl, Z1, hT2, _⟩, hx⟩
        replace H := ext_z H hT (Nat.le_refl _) hx; replace hb5 := box_z hb5 hT (by decide) (by decide) (by decide) hx; replace hb8 := box_z hb8 hT (by decide) (by decide) (by decide) hx; replace hb9 := box_z hb9 hT (by decide) (by decide) (by decide) hx
        replace hT := hT2; clear hT2
        refine RL.nil ?_
        refine AL.o 9 (by kernel_rfl) rfl ?_
        -- call stagecoach/stagecoachlaw08.of (tmp 79) (const (int i64 0)) (const (int i64 0)) (const (int i64 1))
        refine RL.call (pOf _ 2 0 0 1 (by decide)) rfl rfl ?_
        rintro v w56 ⟨⟨ra, rc, recs, rfl, hrl⟩, hx⟩
        replace H := H.ext hx; replace hb5 := hb5.ext hx; replace hb8 := hb8.ext hx; replace hb9 := hb9.ext hx; replace hT := hT.ext hx
        refine RL.nil ?_
        refine AL.o 10 (by kernel_rfl) rfl ?_
        -- call (*stagecoach/dedup.Table).Done (tmp 77) (tmp 78) (tmp 80) (const (int i64 6))
        refine RL.call (pDoneS _ _ it _ (fC (cutP x.p) (1 + andv 7 n)) hT _ _ (fC_ok _ (by omega)) (by decide) (cutP x.p) 2 0 0 ra rc recs 6 (n := 1) hrl) rfl rfl ?_
        rintro _ w57 ⟨⟨x2, hx2, rfl, Z2, hT2, _⟩, hx⟩
        replace H := ext_z H hT (Nat.le_refl _) hx; replace hb5 := box_z hb5 hT (by decide) (by decide) (by decide) hx; replace hb8 := box_z hb8 hT (by decide) (by decide) (by decide) hx; replace hb9 := box_z hb9 hT (by decide) (by decide) (by decide) hx
        replace hT := hT2; clear hT2
        refine RL.nil ?_
        refine AL.p 11 (by kernel_rfl) rfl (asgI rfl) rfl ?_
        refine AL.p 12 (by kernel_rfl) rfl (asgI rfl) rfl ?_
        refine AL.nil (by kernel_rfl) ?_
        refine ⟨(Z2, x1, x2), Head.intro (by repeat (first | with_reducible exact AgreeOff.refl _ _ | with_reducible exact AgreeOff.mix _ _ _ | refine AgreeOff.look rfl ?_ | refine AgreeOff.mixs rfl ?_)) ⟨rfl, rfl, trivial⟩, H, hb5, hb8, hb9, hT, hx1.symm.trans (fC_e _ (by omega)), hx2.symm.trans (fD_e _ (by omega))⟩
    rintro ⟨Z, x1, x2⟩ jc w58 ⟨H, hb5, hb8, hb9, hT, hx1, hx2⟩
    refine WP.seq ?_
    refine WP.regionS ?_
    refine RL.r (asgI rfl) rfl ?_
    refine RL.nil ?_
    refine WP.block ?_
    refine WP.loop (fun k e' w' => ∃ j : Nat, ∃ (D : Ds) (Z : Nat → Prop),  j + k = andv 3 mq + 1 ∧ Head [19, 82, 83, 84, 85, 86, 87, 88, 89, 90] _ [(19, .int .i64 (j : Int))] e' ∧ Ext w0 w' ∧ Box w0.heap.size w' i5 55 (Lies.enc x) ∧ Box w0.heap.size w' i8 25 (Lies.enc (cutP x.p)) ∧ Box w0.heap.size w' i9 25 (Lies.enc (cutP x.q)) ∧ Tg w0.heap.size w' it Z D ∧ FeI (cutP x.p) j D) (andv 3 mq + 1)
      ⟨0, _, _, by omega, Head.intro (AgreeOff.refl _ _) ⟨rfl, trivial⟩, H, hb5, hb8, hb9, hT, feI0 _ (by omega) (by omega)⟩ ?_
    clear H hb5 hb8 hb9 hT
    rintro k e w59 ⟨j, D, Z, hjk, ⟨jk, rfl⟩, H, hb5, hb8, hb9, hT, hF⟩
    refine WP.seq ?_
    refine WP.regionS ?_
    refine RL.r (mvI rfl) rfl ?_
    refine RL.r (mvI rfl) rfl ?_
    refine RL.r (andk (K := 3) rfl rfl (by decide)) rfl ?_
    refine RL.r (leq rfl rfl) rfl ?_
    refine RL.nil ?_
    refine WP.cond rfl (fun hc => ?_) (fun hc => ?_)
    · refine WP.skip ?_
      refine WP.seq ?_
      refine WP.block ?_
      refine WP.region ?_
      refine RL.r (mvP rfl) rfl ?_
      refine RL.r (mvI rfl) rfl ?_
      -- call (*stagecoach/dedup.Table).Open (tmp 88) (tmp 89)
      refine RL.call (pOpenN _ _ it _ D hT _ _ hF.ok 1 (hF.step (by omega)).1 rfl) rfl rfl ?_
      rintro _ w60 ⟨⟨rfl, Z2, hT2, _⟩, hx⟩
      replace H := ext_z H hT (Nat.le_refl _) hx; replace hb5 := box_z hb5 hT (by decide) (by decide) (by decide) hx; replace hb8 := box_z hb8 hT (by decide) (by decide) (by decide) hx; replace hb9 := box_z hb9 hT (by decide) (by decide) (by decide) hx
      replace hT := hT2; clear hT2
      refine RL.nil ?_
      refine WP.region ?_
      refine RL.r (mvI rfl) rfl ?_
      refine RL.r (add rfl rfl (by omega)) rfl ?_
      refine RL.r (asgI rfl) rfl ?_
      refine RL.nil ?_
      refine ⟨k - 1, by omega, j + 1, _, _, by omega, Head.intro (by repeat (first | with_reducible exact AgreeOff.mix _ _ _ | refine AgreeOff.look rfl ?_ | refine AgreeOff.mixs rfl ?_)) ⟨rfl, trivial⟩, H, hb5, hb8, hb9, hT, (hF.step (by omega)).2⟩
    · refine WP.exit ?_
      refine WP.regionS ?_
      refine RL.r (mvI rfl) rfl ?_
      refine RL.r (andk (K := 3) rfl rfl (by decide)) rfl ?_
      refine RL.r (add rfl rfl (by omega)) rfl ?_
      refine RL.r (asgI rfl) rfl ?_
      refine RL.nil ?_
      refine WP.seq ?_
      refine WP.any ?_
      intro w61 hx; replace H := H.ext hx; replace hb5 := hb5.ext hx; replace hb8 := hb8.ext hx; replace hb9 := hb9.ext hx; replace hT := hT.ext hx
      refine AL.p 0 (by kernel_rfl) rfl (mvP rfl) rfl ?_
      refine AL.p 2 (by kernel_rfl) rfl (mvI rfl) rfl ?_
      refine AL.p 3 (by kernel_rfl) rfl (mvI rfl) rfl ?_
      refine AL.p 4 (by kernel_rfl) rfl (sub rfl rfl (by omega)) rfl ?_
      refine AL.p 5 (by kernel_rfl) rfl (mvI rfl) rfl ?_
      -- call stagecoach/stagecoachlaw08.of (tmp 97) (tmp 99) (tmp 100) (const (int i64 1))
      refine AL.x 6 (by kernel_rfl) rfl rfl (fun w' hw' => pOf _ _ _ _ 1 (by decide)) ?_
      refine AX.m 1 (by kernel_rfl) rfl rfl (ldS_box rfl hb8 (Nat.le_of_ble_eq_true rfl) rfl) rfl ?_
      refine AX.o (by kernel_rfl) rfl ?_
      rintro v w62 ⟨⟨ra, rc, recs, rfl, hrl⟩, hx⟩
      replace H := H.ext hx; replace hb5 := hb5.ext hx; replace hb8 := hb8.ext hx; replace hb9 := hb9.ext hx; replace hT := hT.ext hx
      refine AL.o 7 (by kernel_rfl) rfl ?_
      -- call (*stagecoach/dedup.Table).Ask (tmp 95) (tmp 96) (tmp 101)
      refine RL.call (pAskS _ _ it _ D hT _ _ hF.ok (by decide) (cutP x.p) _ _ _ ra rc recs hrl) rfl rfl ?_
      rintro v w63 ⟨⟨r102, t102, e102, ha102, rfl⟩, hx⟩
      replace H := H.ext hx; replace hb5 := hb5.ext hx; replace hb8 := hb8.ext hx; replace hb9 := hb9.ext hx; replace hT := hT.ext hx
      refine RL.nil ?_
      refine AL.p 8 (by kernel_rfl) rfl (mvU rfl) rfl ?_
      refine AL.p 9 (by kernel_rfl) rfl (ex0 rfl) rfl ?_
      refine AL.p 10 (by kernel_rfl) rfl (ex1 rfl) rfl ?_
      refine AL.p 11 (by kernel_rfl) rfl (ex2 rfl) rfl ?_
      refine AL.p 12 (by kernel_rfl) rfl (asgI rfl) rfl ?_
      refine AL.p 13 (by kernel_rfl) rfl (asgB rfl) rfl ?_
      refine AL.p 14 (by kernel_rfl) rfl (asgI rfl) rfl ?_
      refine AL.nil (by kernel_rfl) ?_
      refine WP.seq ?_
      refine WP.any ?_
      intro w64 hx; replace H := H.ext hx; replace hb5 := hb5.ext hx; replace hb8 := hb8.ext hx; replace hb9 := hb9.ext hx; replace hT := hT.ext hx
      refine AL.p 0 (by kernel_rfl) rfl (mvP rfl) rfl ?_
      refine AL.p 2 (by kernel_rfl) rfl (mvI rfl) rfl ?_
      refine AL.p 3 (by kernel_rfl) rfl (mvI rfl) rfl ?_
      -- call stagecoach/stagecoachlaw08.of (tmp 109) (tmp 110) (const (int i64 0)) (const (int i64 1))
      refine AL.x 4 (by kernel_rfl) rfl rfl (fun w' hw' => pOf _ _ _ _ 1 (by decide)) ?_
      refine AX.m 1 (by kernel_rfl) rfl rfl (ldS_box rfl hb9 (Nat.le_of_ble_eq_true rfl) rfl) rfl ?_
      refine AX.o (by kernel_rfl) rfl ?_
      rintro v w65 ⟨⟨ra, rc, recs, rfl, hrl⟩, hx⟩
      replace H := H.ext hx; replace hb5 := hb5.ext hx; replace hb8 := hb8.ext hx; replace hb9 := hb9.ext hx; replace hT := hT.ext hx
      refine AL.o 5 (by kernel_rfl) rfl ?_
      -- call (*stagecoach/dedup.Table).Ask (tmp 107) (tmp 108) (tmp 111)
      refine RL.call (pAskS _ _ it _ D hT _ _ hF.ok (by decide) (cutP x.q) _ _ _ ra rc recs hrl) rfl rfl ?_
      rintro v w66 ⟨⟨r112, t112, e112, ha112, rfl⟩, hx⟩
      replace H := H.ext hx; replace hb5 := hb5.ext hx; replace hb8 := hb8.ext hx; replace hb9 := hb9.ext hx; replace hT := hT.ext hx
      refine RL.nil ?_
      refine AL.p 6 (by kernel_rfl) rfl (mvU rfl) rfl ?_
      refine AL.p 7 (by kernel_rfl) rfl (ex0 rfl) rfl ?_
      refine AL.p 8 (by kernel_rfl) rfl (ex1 rfl) rfl ?_
      refine AL.p 9 (by kernel_rfl) rfl (ex2 rfl) rfl ?_
      refine AL.p 10 (by kernel_rfl) rfl (asgI rfl) rfl ?_
      refine AL.p 11 (by kernel_rfl) rfl (asgB rfl) rfl ?_
      refine AL.p 12 (by kernel_rfl) rfl (asgI rfl) rfl ?_
      refine AL.nil (by kernel_rfl) ?_
      refine WP.seq ?_
      refine WP.any ?_
      intro w67 hx; replace H := H.ext hx; replace hb5 := hb5.ext hx; replace hb8 := hb8.ext hx; replace hb9 := hb9.ext hx; replace hT := hT.ext hx
      refine AL.p 0 (by kernel_rfl) rfl (mvP rfl) rfl ?_
      refine AL.p 2 (by kernel_rfl) rfl (mvI rfl) rfl ?_
      refine AL.p 3 (by kernel_rfl) rfl (mvI rfl) rfl ?_
      refine AL.p 4 (by kernel_rfl) rfl (mvI rfl) rfl ?_
      -- call stagecoach/stagecoachlaw08.of (tmp 119) (tmp 120) (tmp 121) (const (int i64 1))
      refine AL.x 5 (by kernel_rfl) rfl rfl (fun w' hw' => pOf _ _ _ _ 1 (by decide)) ?_
      refine AX.m 1 (by kernel_rfl) rfl rfl (ldS_box rfl hb8 (Nat.le_of_ble_eq_true rfl) rfl) rfl ?_
      refine AX.o (by kernel_rfl) rfl ?_
      rintro v w68 ⟨⟨ra, rc, recs, rfl, hrl⟩, hx⟩
      replace H := H.ext hx; replace hb5 := hb5.ext hx; replace hb8 := hb8.ext hx; replace hb9 := hb9.ext hx; replace hT := hT.ext hx
      refine AL.o 6 (by kernel_rfl) rfl ?_
      -- call (*stagecoach/dedup.Table).Ask (tmp 117) (tmp 118) (tmp 122)
      refine RL.call (pAskS _ _ it _ D hT _ _ hF.ok (by decide) (cutP x.p) _ _ _ ra rc recs hrl) rfl rfl ?_
      rintro v w69 ⟨⟨r123, t123, e123, ha123, rfl⟩, hx⟩
      replace H := H.ext hx; replace hb5 := hb5.ext hx; replace hb8 := hb8.ext hx; replace hb9 := hb9.ext hx; replace hT := hT.ext hx
      refine RL.nil ?_
      refine AL.p 7 (by kernel_rfl) rfl (mvU rfl) rfl ?_
      refine AL.p 8 (by kernel_rfl) rfl (ex0 rfl) rfl ?_
      refine AL.p 9 (by kernel_rfl) rfl (ex1 rfl) rfl ?_
      refine AL.p 10 (by kernel_rfl) rfl (ex2 rfl) rfl ?_
      refine AL.p 11 (by kernel_rfl) rfl (asgI rfl) rfl ?_
      refine AL.p 12 (by kernel_rfl) rfl (asgB rfl) rfl ?_
      refine AL.p 13 (by kernel_rfl) rfl (asgI rfl) rfl ?_
      refine AL.nil (by kernel_rfl) ?_
      refine WP.seq ?_
      refine WP.any ?_
      intro w70 hx; replace H := H.ext hx; replace hb5 := hb5.ext hx; replace hb8 := hb8.ext hx; replace hb9 := hb9.ext hx; replace hT := hT.ext hx
      refine AL.p 0 (by kernel_rfl) rfl (mvP rfl) rfl ?_
      refine AL.p 2 (by kernel_rfl) rfl (mvI rfl) rfl ?_
      -- call stagecoach/stagecoachlaw08.of (tmp 130) (const (int i64 0)) (const (int i64 0)) (const (int i64 1))
      refine AL.x 3 (by kernel_rfl) rfl rfl (fun w' hw' => pOf _ _ _ _ 1 (by decide)) ?_
      refine AX.m 1 (by kernel_rfl) rfl rfl (ldS_box rfl hb8 (Nat.le_of_ble_eq_true rfl) rfl) rfl ?_
      refine AX.o (by kernel_rfl) rfl ?_
      rintro v w71 ⟨⟨ra, rc, recs, rfl, hrl⟩, hx⟩
      replace H := H.ext hx; replace hb5 := hb5.ext hx; replace hb8 := hb8.ext hx; replace hb9 := hb9.ext hx; replace hT := hT.ext hx
      refine AL.o 4 (by kernel_rfl) rfl ?_
      -- call (*stagecoach/dedup.Table).Ask (tmp 128) (tmp 129) (tmp 131)
      refine RL.call (pAskS _ _ it _ D hT _ _ hF.ok (by decide) (cutP x.p) _ _ _ ra rc recs hrl) rfl rfl ?_
      rintro v w72 ⟨⟨r132, t132, e132, ha132, rfl⟩, hx⟩
      replace H := H.ext hx; replace hb5 := hb5.ext hx; replace hb8 := hb8.ext hx; replace hb9 := hb9.ext hx; replace hT := hT.ext hx
      refine RL.nil ?_
      refine AL.p 5 (by kernel_rfl) rfl (mvU rfl) rfl ?_
      refine AL.p 6 (by kernel_rfl) rfl (ex0 rfl) rfl ?_
      refine AL.p 7 (by kernel_rfl) rfl (ex1 rfl) rfl ?_
      refine AL.p 8 (by kernel_rfl) rfl (ex2 rfl) rfl ?_
      refine AL.p 9 (by kernel_rfl) rfl (asgI rfl) rfl ?_
      refine AL.p 10 (by kernel_rfl) rfl (asgB rfl) rfl ?_
      refine AL.p 11 (by kernel_rfl) rfl (asgI rfl) rfl ?_
      refine AL.nil (by kernel_rfl) ?_
      refine WP.seq (WP.quiet ?_)
      refine QL.r (mvI rfl) rfl ?_
      refine QL.r (eql rfl rfl) rfl ?_
      refine QL.r (mvB rfl) rfl ?_
      refine QL.gg (gwT rfl rfl) (fun hg => (mvI rfl).does _) rfl ?_
      refine QL.gg (gwT rfl rfl) (fun hg => (eql (gs hg rfl) rfl).does _) rfl ?_
      refine QL.r (pickAnd rfl (fun hn => gs hn rfl)) rfl ?_
      refine QL.r (mvB rfl) rfl ?_
      refine QL.gg (gwT rfl rfl) (fun hg => (mvI rfl).does _) rfl ?_
      refine QL.gg (gwT rfl rfl) (fun hg => (eql (gs hg rfl) rfl).does _) rfl ?_
      refine QL.r (pickAnd rfl (fun hn => gs hn rfl)) rfl ?_
      refine QL.r (mvB rfl) rfl ?_
      refine QL.gg (gwT rfl rfl) (fun hg => (mvI rfl).does _) rfl ?_
      refine QL.gg (gwT rfl rfl) (fun hg => (eql (gs hg rfl) rfl).does _) rfl ?_
      refine QL.r (pickAnd rfl (fun hn => gs hn rfl)) rfl ?_
      refine QL.r (mvB rfl) rfl ?_
      refine QL.gg (gwT rfl rfl) (fun hg => (mvI rfl).does _) rfl ?_
      refine QL.gg (gwT rfl rfl) (fun hg => (eql (gs hg rfl) rfl).does _) rfl ?_
      refine QL.r (pickAnd rfl (fun hn => gs hn rfl)) rfl ?_
      refine QL.r (mvB rfl) rfl ?_
      refine QL.gg (gwT rfl rfl) (fun hg => (mvB rfl).does _) rfl ?_
      first | refine QL.gg (gwT rfl rfl) (fun hg => (notD (gs hg rfl)).does _) rfl ?_ | refine QL.gg (gwT rfl rfl) (fun hg => (not_ (gs hg rfl)).does _) rfl ?_
      refine QL.r (pickAnd rfl (fun hn => gs hn rfl)) rfl ?_
      refine QL.r (mvB rfl) rfl ?_
      refine QL.gg (gwT rfl rfl) (fun hg => (mvI rfl).does _) rfl ?_
      refine QL.gg (gwT rfl rfl) (fun hg => (eql (gs hg rfl) rfl).does _) rfl ?_
      refine QL.r (pickAnd rfl (fun hn => gs hn rfl)) rfl ?_
      refine QL.r (mvB rfl) rfl ?_
      refine QL.gg (gwT rfl rfl) (fun hg => (mvI rfl).does _) rfl ?_
      refine QL.gg (gwT rfl rfl) (fun hg => (eql (gs hg rfl) rfl).does _) rfl ?_
      refine QL.r (pickAnd rfl (fun hn => gs hn rfl)) rfl ?_
      refine QL.r (mvB rfl) rfl ?_
      refine QL.gg (gwT rfl rfl) (fun hg => (mvI rfl).does _) rfl ?_
      refine QL.gg (gwT rfl rfl) (fun hg => (eql (gs hg rfl) rfl).does _) rfl ?_
      refine QL.r (pickAnd rfl (fun hn => gs hn rfl)) rfl ?_
      refine QL.r (mvB rfl) rfl ?_
      refine QL.gg (gwT rfl rfl) (fun hg => (mvB rfl).does _) rfl ?_
      refine QL.r (pickAnd rfl (fun hn => gs hn rfl)) rfl ?_
      refine QL.r (mvB rfl) rfl ?_
      refine QL.gg (gwT rfl rfl) (fun hg => (mvI rfl).does _) rfl ?_
      refine QL.gg (gwT rfl rfl) (fun hg => (eql (gs hg rfl) rfl).does _) rfl ?_
      refine QL.r (pickAnd rfl (fun hn => gs hn rfl)) rfl ?_
      refine QL.r (mvB rfl) rfl ?_
      -- call stagecoach/stagecoachlaw08.fixed 
      refine QL.gcall (gwT rfl rfl) (fun hg w' hw' => lFixedD w') (fun hg => EvL.nil) rfl ?_
      refine QL.r (pickAnd rfl (fun hn => gs hn rfl)) rfl ?_
      refine QL.r (asgB rfl) rfl ?_
      refine QL.nil ?_; intro w74 hx; replace H := H.ext hx; replace hb5 := hb5.ext hx; replace hb8 := hb8.ext hx; replace hb9 := hb9.ext hx; replace hT := hT.ext hx
      refine WP.ret ?_
      have q1 := ha102.symm.trans (hF.g (by omega))
      have q2 := ha112.symm.trans (hF.h (by omega) (by omega) _)
      have q3 := ha123.symm.trans (hF.i (by omega) (by omega) (by omega) _)
      have q4 := ha132.symm.trans hF.j
      simp only [Prod.mk.injEq] at q1 q2 q3 q4
      refine fin1_ret rfl ⟨congrArg Value.bool (decide_eq_true ?_), H⟩
      exact ⟨⟨⟨⟨⟨⟨⟨⟨⟨⟨⟨he1, he2⟩, hx1⟩, hx2⟩, q1.2.2⟩, by rw [q2.2.1]; decide⟩, q2.2.2⟩, q3.2.2⟩, q4.1⟩, q4.2.1⟩, q4.2.2⟩, rfl⟩
end Go.Proofs.Ytbggmjnhfacjpaa
