/-
  Fixed: walks and laws, written by gen/gen.py out of gen/thy/Fixed.py.
-/
import Derived.Test.YtoebejfffakjpaaTwo2
set_option linter.unusedVariables false
namespace Go.Proofs.Ytoebejfffakjpaa
open Go Go.Eng Go.RowKit
theorem rows_le {g : List (Rw Part)} {R : List (List Part)} {n : Nat} (h : rows g = R) (hR : ∀ x ∈ R, x.length ≤ n) : ∀ r ∈ g, r.l.length ≤ n := by
  intro r hr
  exact hR r.l (by rw [← h]; exact List.mem_map.2 ⟨r, hr, rfl⟩)
theorem two_ts {w : World} {p q : Option Addr} (hp : Sl w p [tS]) (hq : Sl w q [tS]) : ∀ x ∈ m1 p q, Sl w x.ta x.topics ∧ x.topics.length ≤ 1000 := by
  intro x hx
  simp only [m1, List.mem_cons, List.not_mem_nil, or_false] at hx
  rcases hx with rfl | rfl
  · exact ⟨hp, by simp⟩
  · exact ⟨hq, by simp⟩
theorem two_ts' {w : World} {p q : Option Addr} (hp : Sl w p [tS]) (hq : Sl w q [tS]) : ∀ x ∈ [(⟨nS, q, 1, [tS]⟩ : Mem), ⟨mS, p, 1, [tS]⟩], Sl w x.ta x.topics ∧ x.topics.length ≤ 1000 := by
  intro x hx
  simp only [List.mem_cons, List.not_mem_nil, or_false] at hx
  rcases hx with rfl | rfl
  · exact ⟨hq, by simp⟩
  · exact ⟨hp, by simp⟩
theorem two_gr {w : World} {a : Option Addr} {y z : List Part} {i j B : Nat} (h : Sl w a [(⟨some ⟨i, 0, none⟩, 2, y⟩ : Rw Part), ⟨some ⟨j, 0, none⟩, 1, z⟩]) (hy : Box B w i 27 (List.flatMap Lies.enc y)) (hz : Box B w j 27 (List.flatMap Lies.enc z)) : Gr w a [(⟨some ⟨i, 0, none⟩, 2, y⟩ : Rw Part), ⟨some ⟨j, 0, none⟩, 1, z⟩] := by
  refine ⟨h, fun r hr => ?_⟩
  simp only [List.mem_cons, List.not_mem_nil, or_false] at hr
  rcases hr with rfl | rfl
  · exact Box.sl hy
  · exact Box.sl hz
set_option maxRecDepth 20000 in
set_option maxHeartbeats 1600000 in
theorem lFixed (w0 : World) :
    Ct Try.prog 21 #[] w0 fun v w' => v = .bool true ∧ Ext w0 w' := by
  refine Ct.intro1 Try.func21 Try.ntmps21 rfl rfl (by decide) rfl ?_
  have H : Ext w0 w0 := Ext.refl w0
  refine WP.regionS ?_
  refine RL.r (asgB rfl) rfl ?_
  refine RL.nil ?_
  refine WP.regionS ?_
  -- call stagecoach/stagecoachlaw10.two 
  refine RL.call (lTwo _) rfl rfl ?_
  rintro _ w1 ⟨⟨a, b, p, q, rfl, hl, hm, hp, hq⟩, hx⟩
  replace H := H.ext hx
  refine RL.r (mvU rfl) rfl ?_
  refine RL.r (ex0 rfl) rfl ?_
  refine RL.r (ex1 rfl) rfl ?_
  refine RL.r (asgL rfl) rfl ?_
  refine RL.r (asgL rfl) rfl ?_
  refine RL.nil ?_
  refine WP.regionS ?_
  refine RL.r (mvL rfl) rfl ?_
  refine RL.r (mvL rfl) rfl ?_
  -- call stagecoach/assign.Range (tmp 17) (tmp 18)
  have H1 := Ext.refl w1
  have hk0 := two_check p q
  have hk1 := two_swap p q
  have hk2 := two_zero (m1 p q)
  refine RL.call (pRange _ _ _ 1 2 l1 (m1 p q) hl hm (two_ts hp hq)) rfl rfl ?_
  rintro _ w2 ⟨⟨qa, ca, ga, rfl, hGa, hra⟩, hx⟩
  replace H := H.ext hx; replace H1 := H1.ext hx
  refine RL.r (mvU rfl) rfl ?_
  refine RL.r (ex0 rfl) rfl ?_
  refine RL.r (ex1 rfl) rfl ?_
  refine RL.r (asgL rfl) rfl ?_
  refine RL.r (asgI rfl) rfl ?_
  refine RL.nil ?_
  refine WP.regionS ?_
  refine RL.r (mvL rfl) rfl ?_
  refine RL.r (mvL rfl) rfl ?_
  -- call stagecoach/assign.Robin (tmp 23) (tmp 24)
  rw [if_pos hk0, two_range] at hra
  refine RL.call (pRobin _ _ _ 1 2 l1 (m1 p q) (hl.ext H1) (hm.ext H1) (two_ts (hp.ext H1) (hq.ext H1))) rfl rfl ?_
  rintro _ w3 ⟨⟨qb, cb, gb, rfl, hGb, hrb⟩, hx⟩
  replace H := H.ext hx; replace H1 := H1.ext hx; replace hGa := hGa.ext hx
  refine RL.r (mvU rfl) rfl ?_
  refine RL.r (ex0 rfl) rfl ?_
  refine RL.r (ex1 rfl) rfl ?_
  refine RL.r (asgL rfl) rfl ?_
  refine RL.r (asgI rfl) rfl ?_
  refine RL.nil ?_
  refine WP.seq ?_
  refine WP.any ?_
  intro w4 hx; replace H := H.ext hx; replace H1 := H1.ext hx; replace hGa := hGa.ext hx; replace hGb := hGb.ext hx
  refine AL.p 0 (by kernel_rfl) rfl (mvL rfl) rfl ?_
  refine AL.p 1 (by kernel_rfl) rfl (mvL rfl) rfl ?_
  refine AL.p 2 (by kernel_rfl) rfl (ix rfl rfl rfl (Nat.le_of_ble_eq_true rfl)) rfl ?_
  refine AL.p 4 (by kernel_rfl) rfl (mvL rfl) rfl ?_
  refine AL.p 5 (by kernel_rfl) rfl (ix rfl rfl rfl (Nat.le_of_ble_eq_true rfl)) rfl ?_
  rw [if_pos hk0, two_robin] at hrb
  refine AL.m 3 (by kernel_rfl) rfl (ldS_el rfl hm H1 rfl rfl (Nat.le_of_ble_eq_true rfl)) rfl ?_
  refine AL.m 6 (by kernel_rfl) rfl (ldS_el rfl hm H1 rfl rfl (Nat.le_of_ble_eq_true rfl)) rfl ?_
  refine AL.o 7 (by kernel_rfl) rfl ?_
  refine RL.buildSlice w0.heap.size H.size rfl rfl rfl rfl rfl ?_
  intro w5 i36 hi36 hx hb36
  replace H := H.ext hx; replace H1 := H1.ext hx; replace hGa := hGa.ext hx; replace hGb := hGb.ext hx; clear hx
  refine RL.nil ?_
  refine AL.o 8 (by kernel_rfl) rfl ?_
  -- call stagecoach/assign.Range (tmp 29) (tmp 36)
  refine RL.call (pRange _ _ _ 1 2 l1 [⟨nS, q, 1, [tS]⟩, ⟨mS, p, 1, [tS]⟩] (hl.ext H1) (Box.sl (l := [(⟨nS, q, 1, [tS]⟩ : Mem), ⟨mS, p, 1, [tS]⟩]) hb36) (two_ts' (hp.ext H1) (hq.ext H1))) rfl rfl ?_
  rintro _ w6 ⟨⟨qc, cc, gc, rfl, hGc, hrc⟩, hx⟩
  replace H := H.ext hx; replace H1 := H1.ext hx; replace hGa := hGa.ext hx; replace hGb := hGb.ext hx
  refine RL.nil ?_
  refine AL.p 9 (by kernel_rfl) rfl (mvU rfl) rfl ?_
  refine AL.p 10 (by kernel_rfl) rfl (ex0 rfl) rfl ?_
  refine AL.p 11 (by kernel_rfl) rfl (ex1 rfl) rfl ?_
  refine AL.p 12 (by kernel_rfl) rfl (asgL rfl) rfl ?_
  refine AL.p 13 (by kernel_rfl) rfl (asgI rfl) rfl ?_
  refine AL.nil (by kernel_rfl) ?_
  refine WP.regionS ?_
  refine RL.r (bld rfl rfl) rfl ?_
  refine RL.buildSlice w0.heap.size H.size rfl rfl rfl rfl rfl ?_
  intro w7 i42 hi42 hx hb42
  replace H := H.ext hx; replace H1 := H1.ext hx; replace hGa := hGa.ext hx; replace hGb := hGb.ext hx; clear hx
  refine RL.r (mvL rfl) rfl ?_
  -- call stagecoach/assign.Robin (tmp 42) (tmp 43)
  refine RL.call (pRobin _ _ _ 1 2 [⟨tS, 0⟩] (m1 p q) (Box.sl1 hb42) (hm.ext H1) (two_ts (hp.ext H1) (hq.ext H1))) rfl rfl ?_
  rintro _ w8 ⟨⟨qd, cd, gd, rfl, hGd, hrd⟩, hx⟩
  replace H := H.ext hx; replace H1 := H1.ext hx; replace hGa := hGa.ext hx; replace hGb := hGb.ext hx
  refine RL.r (mvU rfl) rfl ?_
  refine RL.r (ex0 rfl) rfl ?_
  refine RL.r (ex1 rfl) rfl ?_
  refine RL.r (asgL rfl) rfl ?_
  refine RL.r (asgI rfl) rfl ?_
  refine RL.nil ?_
  refine WP.regionS ?_
  refine RL.r (bld rfl rfl) rfl ?_
  refine RL.r (bld rfl rfl) rfl ?_
  refine RL.r (bld rfl rfl) rfl ?_
  refine RL.buildSlice w0.heap.size H.size rfl rfl rfl rfl rfl ?_
  intro w9 i50 hi50 hx hb50
  replace H := H.ext hx; replace H1 := H1.ext hx; replace hGa := hGa.ext hx; replace hGb := hGb.ext hx; clear hx
  refine RL.r (asgL rfl) rfl ?_
  refine RL.nil ?_
  refine WP.seq ?_
  refine WP.any ?_
  intro w10 hx; replace H := H.ext hx; replace H1 := H1.ext hx; replace hGa := hGa.ext hx; replace hGb := hGb.ext hx; replace hb50 := hb50.ext hx
  refine AL.p 0 (by kernel_rfl) rfl (mvI rfl) rfl ?_
  refine AL.p 1 (by kernel_rfl) rfl (eql rfl rfl) rfl ?_
  have hX : ∀ w, Ext w10 w → Sl w (some ⟨i50, 0, none⟩) [x0, x1, x2] := fun w hw => Box.sl (l := [x0, x1, x2]) (hb50.ext hw)
  refine AL.mvT 2 (by kernel_rfl) rfl rfl hk0 rfl ?_
  refine AL.pg 3 (by kernel_rfl) rfl rfl rfl rfl (mvL rfl) rfl ?_
  refine AL.pg 4 (by kernel_rfl) rfl rfl rfl rfl (mvL rfl) rfl ?_
  refine AL.pg 5 (by kernel_rfl) rfl rfl rfl rfl (ix rfl rfl rfl (Nat.le_of_ble_eq_true rfl)) rfl ?_
  refine AL.pg 7 (by kernel_rfl) rfl rfl rfl rfl (mvL rfl) rfl ?_
  refine AL.pg 8 (by kernel_rfl) rfl rfl rfl rfl (ix rfl rfl rfl (Nat.le_of_ble_eq_true rfl)) rfl ?_
  refine AL.pg 11 (by kernel_rfl) rfl rfl rfl rfl (mvL rfl) rfl ?_
  refine AL.pg 12 (by kernel_rfl) rfl rfl rfl rfl (ix rfl rfl rfl (Nat.le_of_ble_eq_true rfl)) rfl ?_
  refine AL.mg 6 (by kernel_rfl) rfl rfl rfl rfl (ldS_el rfl (hX _ (Ext.refl _)) (Ext.refl _) rfl rfl (Nat.le_of_ble_eq_true rfl)) rfl ?_
  refine AL.mg 9 (by kernel_rfl) rfl rfl rfl rfl (ldS_el rfl (hX _ (Ext.refl _)) (Ext.refl _) rfl rfl (Nat.le_of_ble_eq_true rfl)) rfl ?_
  refine AL.mg 13 (by kernel_rfl) rfl rfl rfl rfl (ldS_el rfl (hX _ (Ext.refl _)) (Ext.refl _) rfl rfl (Nat.le_of_ble_eq_true rfl)) rfl ?_
  refine AL.two (di := 61) (dj := 65) 10 14 (fun u w' => ∃ r, u = .slice (some ⟨r, 0, none⟩) 2 2 ∧ Box w0.heap.size w' r 27 (List.flatMap Lies.enc [x0, x1])) (fun u w' => ∃ r, u = .slice (some ⟨r, 0, none⟩) 1 1 ∧ Box w0.heap.size w' r 27 (List.flatMap Lies.enc [x2])) (by kernel_rfl) (by kernel_rfl) (by kernel_rfl) rfl rfl rfl rfl (fun u w1 w2 ⟨r, h1, h2⟩ hx => ⟨r, h1, h2.ext hx⟩) (fun u w1 w2 ⟨r, h1, h2⟩ hx => ⟨r, h1, h2.ext hx⟩) ?_ ?_ ?_ ?_ ?_
  · refine RL.yes rfl rfl rfl ?_; refine RL.buildSlice w0.heap.size H.size rfl rfl rfl rfl rfl ?_; intro w2 r hr hx hb; exact RL.nil ⟨_, rfl, hx, r, rfl, hb⟩
  · intro u w1 hx1; refine RL.yes rfl rfl rfl ?_; refine RL.buildSlice w0.heap.size (H.ext hx1).size rfl rfl rfl rfl rfl ?_; intro w2 r hr hx hb; exact RL.nil ⟨_, rfl, hx, r, rfl, hb⟩
  · refine RL.yes rfl rfl rfl ?_; refine RL.buildSlice w0.heap.size H.size rfl rfl rfl rfl rfl ?_; intro w2 r hr hx hb; exact RL.nil ⟨_, rfl, hx, r, rfl, hb⟩
  · intro u w1 hx1; refine RL.yes rfl rfl rfl ?_; refine RL.buildSlice w0.heap.size (H.ext hx1).size rfl rfl rfl rfl rfl ?_; intro w2 r hr hx hb; exact RL.nil ⟨_, rfl, hx, r, rfl, hb⟩
  rintro _ _ w11 hx ⟨i61, rfl, hb61⟩ ⟨i65, rfl, hb65⟩; replace H := H.ext hx; replace H1 := H1.ext hx; replace hGa := hGa.ext hx; replace hGb := hGb.ext hx; replace hb50 := hb50.ext hx; clear hx
  refine AL.o 15 (by kernel_rfl) rfl ?_
  refine RL.yes rfl rfl rfl ?_
  refine RL.buildSlice w0.heap.size H.size rfl rfl rfl rfl rfl ?_
  intro w12 i66 hi66 hx hb66
  replace H := H.ext hx; replace H1 := H1.ext hx; replace hGa := hGa.ext hx; replace hGb := hGb.ext hx; replace hb50 := hb50.ext hx; replace hb61 := hb61.ext hx; replace hb65 := hb65.ext hx; clear hx
  refine RL.nil ?_
  refine AL.o 16 (by kernel_rfl) rfl ?_
  refine RL.yes rfl rfl rfl ?_
  -- call stagecoach/stagecoachref10.Same (tmp 54) (tmp 66)
  refine RL.call (rSame _ _ _ _ 2 ga [(⟨some ⟨i61, 0, none⟩, 2, [x0, x1]⟩ : Rw Part), ⟨some ⟨i65, 0, none⟩, 1, [x2]⟩] hGa.gr (two_gr (Box.sl (l := [(⟨some ⟨i61, 0, none⟩, 2, [x0, x1]⟩ : Rw Part), ⟨some ⟨i65, 0, none⟩, 1, [x2]⟩]) hb66) hb61 hb65) (by rw [rows_length hra]; decide) (rows_le hra (by decide))) rfl rfl ?_
  rintro _ w13 ⟨rfl, hx⟩
  replace H := H.ext hx; replace H1 := H1.ext hx; replace hGa := hGa.ext hx; replace hGb := hGb.ext hx; replace hb50 := hb50.ext hx; replace hb61 := hb61.ext hx; replace hb65 := hb65.ext hx
  refine RL.nil ?_
  refine AL.p 17 (by kernel_rfl) rfl (pickT rfl) rfl ?_
  refine AL.mvT 18 (by kernel_rfl) rfl rfl hra rfl ?_
  refine AL.pg 19 (by kernel_rfl) rfl rfl rfl rfl (mvI rfl) rfl ?_
  refine AL.pg 20 (by kernel_rfl) rfl rfl rfl rfl (eql rfl rfl) rfl ?_
  refine AL.p 21 (by kernel_rfl) rfl (pickT rfl) rfl ?_
  refine AL.mvT 22 (by kernel_rfl) rfl rfl hk0 rfl ?_
  refine AL.pg 23 (by kernel_rfl) rfl rfl rfl rfl (mvL rfl) rfl ?_
  refine AL.pg 24 (by kernel_rfl) rfl rfl rfl rfl (mvL rfl) rfl ?_
  refine AL.pg 25 (by kernel_rfl) rfl rfl rfl rfl (ix rfl rfl rfl (Nat.le_of_ble_eq_true rfl)) rfl ?_
  refine AL.pg 27 (by kernel_rfl) rfl rfl rfl rfl (mvL rfl) rfl ?_
  refine AL.pg 28 (by kernel_rfl) rfl rfl rfl rfl (ix rfl rfl rfl (Nat.le_of_ble_eq_true rfl)) rfl ?_
  refine AL.pg 31 (by kernel_rfl) rfl rfl rfl rfl (mvL rfl) rfl ?_
  refine AL.pg 32 (by kernel_rfl) rfl rfl rfl rfl (ix rfl rfl rfl (Nat.le_of_ble_eq_true rfl)) rfl ?_
  refine AL.mg 26 (by kernel_rfl) rfl rfl rfl rfl (ldS_el rfl (Box.sl (l := [x0, x1, x2]) hb50) (Ext.refl _) rfl rfl (Nat.le_of_ble_eq_true rfl)) rfl ?_
  refine AL.mg 29 (by kernel_rfl) rfl rfl rfl rfl (ldS_el rfl (Box.sl (l := [x0, x1, x2]) hb50) (Ext.refl _) rfl rfl (Nat.le_of_ble_eq_true rfl)) rfl ?_
  refine AL.mg 33 (by kernel_rfl) rfl rfl rfl rfl (ldS_el rfl (Box.sl (l := [x0, x1, x2]) hb50) (Ext.refl _) rfl rfl (Nat.le_of_ble_eq_true rfl)) rfl ?_
  refine AL.two (di := 81) (dj := 85) 30 34 (fun u w' => ∃ r, u = .slice (some ⟨r, 0, none⟩) 2 2 ∧ Box w0.heap.size w' r 27 (List.flatMap Lies.enc [x0, x2])) (fun u w' => ∃ r, u = .slice (some ⟨r, 0, none⟩) 1 1 ∧ Box w0.heap.size w' r 27 (List.flatMap Lies.enc [x1])) (by kernel_rfl) (by kernel_rfl) (by kernel_rfl) rfl rfl rfl rfl (fun u w1 w2 ⟨r, h1, h2⟩ hx => ⟨r, h1, h2.ext hx⟩) (fun u w1 w2 ⟨r, h1, h2⟩ hx => ⟨r, h1, h2.ext hx⟩) ?_ ?_ ?_ ?_ ?_
  · refine RL.yes rfl rfl rfl ?_; refine RL.buildSlice w0.heap.size H.size rfl rfl rfl rfl rfl ?_; intro w2 r hr hx hb; exact RL.nil ⟨_, rfl, hx, r, rfl, hb⟩
  · intro u w1 hx1; refine RL.yes rfl rfl rfl ?_; refine RL.buildSlice w0.heap.size (H.ext hx1).size rfl rfl rfl rfl rfl ?_; intro w2 r hr hx hb; exact RL.nil ⟨_, rfl, hx, r, rfl, hb⟩
  · refine RL.yes rfl rfl rfl ?_; refine RL.buildSlice w0.heap.size H.size rfl rfl rfl rfl rfl ?_; intro w2 r hr hx hb; exact RL.nil ⟨_, rfl, hx, r, rfl, hb⟩
  · intro u w1 hx1; refine RL.yes rfl rfl rfl ?_; refine RL.buildSlice w0.heap.size (H.ext hx1).size rfl rfl rfl rfl rfl ?_; intro w2 r hr hx hb; exact RL.nil ⟨_, rfl, hx, r, rfl, hb⟩
  rintro _ _ w14 hx ⟨i81, rfl, hb81⟩ ⟨i85, rfl, hb85⟩; replace H := H.ext hx; replace H1 := H1.ext hx; replace hGa := hGa.ext hx; replace hGb := hGb.ext hx; replace hb50 := hb50.ext hx; replace hb61 := hb61.ext hx; replace hb65 := hb65.ext hx; clear hx
  refine AL.o 35 (by kernel_rfl) rfl ?_
  refine RL.yes rfl rfl rfl ?_
  refine RL.buildSlice w0.heap.size H.size rfl rfl rfl rfl rfl ?_
  intro w15 i86 hi86 hx hb86
  replace H := H.ext hx; replace H1 := H1.ext hx; replace hGa := hGa.ext hx; replace hGb := hGb.ext hx; replace hb50 := hb50.ext hx; replace hb61 := hb61.ext hx; replace hb65 := hb65.ext hx; replace hb81 := hb81.ext hx; replace hb85 := hb85.ext hx; clear hx
  refine RL.nil ?_
  refine AL.o 36 (by kernel_rfl) rfl ?_
  refine RL.yes rfl rfl rfl ?_
  -- call stagecoach/stagecoachref10.Same (tmp 74) (tmp 86)
  refine RL.call (rSame _ _ _ _ 2 gb [(⟨some ⟨i81, 0, none⟩, 2, [x0, x2]⟩ : Rw Part), ⟨some ⟨i85, 0, none⟩, 1, [x1]⟩] hGb.gr (two_gr (Box.sl (l := [(⟨some ⟨i81, 0, none⟩, 2, [x0, x2]⟩ : Rw Part), ⟨some ⟨i85, 0, none⟩, 1, [x1]⟩]) hb86) hb81 hb85) (by rw [rows_length hrb]; decide) (rows_le hrb (by decide))) rfl rfl ?_
  rintro _ w16 ⟨rfl, hx⟩
  replace H := H.ext hx; replace H1 := H1.ext hx; replace hGa := hGa.ext hx; replace hGb := hGb.ext hx; replace hb50 := hb50.ext hx; replace hb61 := hb61.ext hx; replace hb65 := hb65.ext hx; replace hb81 := hb81.ext hx; replace hb85 := hb85.ext hx
  refine RL.nil ?_
  refine AL.p 37 (by kernel_rfl) rfl (pickT rfl) rfl ?_
  refine AL.mvT 38 (by kernel_rfl) rfl rfl hrb rfl ?_
  refine AL.pg 39 (by kernel_rfl) rfl rfl rfl rfl (mvI rfl) rfl ?_
  refine AL.pg 40 (by kernel_rfl) rfl rfl rfl rfl (eql rfl rfl) rfl ?_
  refine AL.p 41 (by kernel_rfl) rfl (pickT rfl) rfl ?_
  refine AL.mvT 42 (by kernel_rfl) rfl rfl hk1 rfl ?_
  refine AL.pg 43 (by kernel_rfl) rfl rfl rfl rfl (mvI rfl) rfl ?_
  refine AL.pg 44 (by kernel_rfl) rfl rfl rfl rfl (eql rfl rfl) rfl ?_
  refine AL.p 45 (by kernel_rfl) rfl (pickT rfl) rfl ?_
  refine AL.mvT 46 (by kernel_rfl) rfl rfl hk2 rfl ?_
  refine AL.pg 47 (by kernel_rfl) rfl rfl rfl rfl (mvL rfl) rfl ?_
  refine AL.pg 48 (by kernel_rfl) rfl rfl rfl rfl (mvL rfl) rfl ?_
  refine AL.pg 49 (by kernel_rfl) rfl rfl rfl rfl (ix rfl rfl rfl (Nat.le_of_ble_eq_true rfl)) rfl ?_
  refine AL.mg 50 (by kernel_rfl) rfl rfl rfl rfl (ldS_el rfl (Box.sl (l := [x0, x1, x2]) hb50) (Ext.refl _) rfl rfl (Nat.le_of_ble_eq_true rfl)) rfl ?_
  refine AL.o 51 (by kernel_rfl) rfl ?_
  refine RL.yes rfl rfl rfl ?_
  -- call stagecoach/assign.Whose (tmp 98) (tmp 101)
  refine RL.call (pWhose _ _ _ gb x1 hGb.gr (by rw [rows_length hrb]; decide) (rows_le hrb (by decide))) rfl rfl ?_
  rintro _ w17 ⟨rfl, hx⟩
  replace H := H.ext hx; replace H1 := H1.ext hx; replace hGa := hGa.ext hx; replace hGb := hGb.ext hx; replace hb50 := hb50.ext hx; replace hb61 := hb61.ext hx; replace hb65 := hb65.ext hx; replace hb81 := hb81.ext hx; replace hb85 := hb85.ext hx
  refine RL.nil ?_
  refine AL.pg 52 (by kernel_rfl) rfl rfl rfl rfl (eql rfl rfl) rfl ?_
  refine AL.p 53 (by kernel_rfl) rfl (pickT rfl) rfl ?_
  refine AL.mvT 54 (by kernel_rfl) rfl rfl (by rw [hrb]; exact two_whose1) rfl ?_
  refine AL.pg 55 (by kernel_rfl) rfl rfl rfl rfl (mvL rfl) rfl ?_
  refine AL.pg 56 (by kernel_rfl) rfl rfl rfl rfl (bld rfl rfl) rfl ?_
  refine AL.o 57 (by kernel_rfl) rfl ?_
  refine RL.yes rfl rfl rfl ?_
  -- call stagecoach/assign.Whose (tmp 106) (tmp 107)
  refine RL.call (pWhose _ _ _ gb ⟨uS, 0⟩ hGb.gr (by rw [rows_length hrb]; decide) (rows_le hrb (by decide))) rfl rfl ?_
  rintro _ w18 ⟨rfl, hx⟩
  replace H := H.ext hx; replace H1 := H1.ext hx; replace hGa := hGa.ext hx; replace hGb := hGb.ext hx; replace hb50 := hb50.ext hx; replace hb61 := hb61.ext hx; replace hb65 := hb65.ext hx; replace hb81 := hb81.ext hx; replace hb85 := hb85.ext hx
  refine RL.nil ?_
  refine AL.pg 58 (by kernel_rfl) rfl rfl rfl rfl (eql rfl rfl) rfl ?_
  refine AL.p 59 (by kernel_rfl) rfl (pickT rfl) rfl ?_
  refine AL.mvT 60 (by kernel_rfl) rfl rfl (by rw [hrb]; exact two_whoseu) rfl ?_
  refine AL.pg 61 (by kernel_rfl) rfl rfl rfl rfl (mvL rfl) rfl ?_
  refine AL.pg 62 (by kernel_rfl) rfl rfl rfl rfl (ix rfl rfl rfl (Nat.le_of_ble_eq_true rfl)) rfl ?_
  refine AL.mg 63 (by kernel_rfl) rfl rfl rfl rfl (ldS_el rfl hm H1 rfl rfl (Nat.le_of_ble_eq_true rfl)) rfl ?_
  refine AL.o 64 (by kernel_rfl) rfl ?_
  refine RL.yes rfl rfl rfl ?_
  -- call stagecoach/assign.Wants (tmp 114) (const (string {data:#[116]}))
  refine RL.call (pWants _ (m1 p q)[0] tS (hp.ext H1) (by show 1 ≤ 1000; decide)) rfl rfl ?_
  rintro _ w19 ⟨rfl, hx⟩
  replace H := H.ext hx; replace H1 := H1.ext hx; replace hGa := hGa.ext hx; replace hGb := hGb.ext hx; replace hb50 := hb50.ext hx; replace hb61 := hb61.ext hx; replace hb65 := hb65.ext hx; replace hb81 := hb81.ext hx; replace hb85 := hb85.ext hx
  refine RL.nil ?_
  refine AL.p 65 (by kernel_rfl) rfl (pickT rfl) rfl ?_
  refine AL.mvT 66 (by kernel_rfl) rfl rfl (show tS ∈ [tS] by simp) rfl ?_
  refine AL.pg 67 (by kernel_rfl) rfl rfl rfl rfl (mvL rfl) rfl ?_
  refine AL.pg 68 (by kernel_rfl) rfl rfl rfl rfl (ix rfl rfl rfl (Nat.le_of_ble_eq_true rfl)) rfl ?_
  refine AL.mg 69 (by kernel_rfl) rfl rfl rfl rfl (ldS_el rfl hm H1 rfl rfl (Nat.le_of_ble_eq_true rfl)) rfl ?_
  refine AL.o 70 (by kernel_rfl) rfl ?_
  refine RL.yes rfl rfl rfl ?_
  -- call stagecoach/assign.Wants (tmp 120) (const (string {data:#[117]}))
  refine RL.call (pWants _ (m1 p q)[0] uS (hp.ext H1) (by show 1 ≤ 1000; decide)) rfl rfl ?_
  rintro _ w20 ⟨rfl, hx⟩
  replace H := H.ext hx; replace H1 := H1.ext hx; replace hGa := hGa.ext hx; replace hGb := hGb.ext hx; replace hb50 := hb50.ext hx; replace hb61 := hb61.ext hx; replace hb65 := hb65.ext hx; replace hb81 := hb81.ext hx; replace hb85 := hb85.ext hx
  refine RL.nil ?_
  first | refine AL.pg 71 (by kernel_rfl) rfl rfl rfl rfl (notD rfl) rfl ?_ | refine AL.pg 71 (by kernel_rfl) rfl rfl rfl rfl (not_ rfl) rfl ?_
  refine AL.p 72 (by kernel_rfl) rfl (pickT rfl) rfl ?_
  refine AL.mvT 73 (by kernel_rfl) rfl rfl (show ¬ uS ∈ [tS] from fun h => absurd (List.mem_singleton.1 h) (by decide)) rfl ?_
  refine AL.pg 74 (by kernel_rfl) rfl rfl rfl rfl (mvL rfl) rfl ?_
  refine AL.o 75 (by kernel_rfl) rfl ?_
  refine RL.yes rfl rfl rfl ?_
  refine RL.makeSlice (m := 9) (⟨⟨#[]⟩, none, 0, []⟩ : Mem) w0.heap.size H.size rfl rfl rfl rfl (by omega) (by simp only [maxLen]; omega) rfl ?_
  intro w21 i126 hi126 hx hb126
  replace H := H.ext hx; replace H1 := H1.ext hx; replace hGa := hGa.ext hx; replace hGb := hGb.ext hx; replace hb50 := hb50.ext hx; replace hb61 := hb61.ext hx; replace hb65 := hb65.ext hx; replace hb81 := hb81.ext hx; replace hb85 := hb85.ext hx; clear hx
  refine RL.nil ?_
  refine AL.o 76 (by kernel_rfl) rfl ?_
  refine RL.yes rfl rfl rfl ?_
  -- call stagecoach/assign.Check (tmp 125) (tmp 126)
  refine RL.call (pCheck _ _ _ 1 9 l1 (List.replicate 9 ⟨⟨#[]⟩, none, 0, []⟩) (hl.ext H1) hb126.sl) rfl rfl ?_
  rintro _ w22 ⟨rfl, hx⟩
  replace H := H.ext hx; replace H1 := H1.ext hx; replace hGa := hGa.ext hx; replace hGb := hGb.ext hx; replace hb50 := hb50.ext hx; replace hb61 := hb61.ext hx; replace hb65 := hb65.ext hx; replace hb81 := hb81.ext hx; replace hb85 := hb85.ext hx
  refine RL.nil ?_
  refine AL.pg 77 (by kernel_rfl) rfl rfl rfl rfl (eql rfl rfl) rfl ?_
  refine AL.p 78 (by kernel_rfl) rfl (pickT rfl) rfl ?_
  refine AL.p 79 (by kernel_rfl) rfl (asgB rfl) rfl ?_
  refine AL.nil (by kernel_rfl) ?_
  refine WP.ret ?_
  refine fin1_ret rfl ⟨congrArg Value.bool (bT (two_nine _)).symm, H⟩
end Go.Proofs.Ytoebejfffakjpaa
