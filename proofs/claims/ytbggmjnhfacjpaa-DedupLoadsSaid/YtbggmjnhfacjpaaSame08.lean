/-
  The document's Same and Nums, at what is remembered.
-/
import Derived.Test.YtbggmjnhfacjpaaOnce08
set_option linter.unusedVariables false
namespace Go.Proofs.Ytbggmjnhfacjpaa
open Go Go.Eng Go.RowKit
theorem eqs_did {P : Program} {t : TypeId} {f0 f1 f2 : Field} (hu : P.underlying t = some (.struct #[f0, f1, f2])) (hp : P.stoodInHeld t = false) (hg : P.eqGuardType P.depth t = false)
    (h0 : P.underlying f0.type = some (.int .i64)) (h1 : P.underlying f1.type = some (.int .i64)) (h2 : P.underlying f2.type = some (.int .i64)) (o0 : f0.offset = 0) (o1 : f1.offset = 1) (o2 : f2.offset = 2) (m0 : f0.name ≠ "_") (m1 : f1.name ≠ "_") (m2 : f2.name ≠ "_") : EqS P t Did := by
  refine ⟨fun x y w => ?_, hg⟩
  have hfs : P.fieldsOf t = #[f0, f1, f2] := by simp [Program.fieldsOf, hu]
  have he : ∀ x : Did, Lies.enc x = [.int .i64 x.seq, .int .i64 x.n, .int .i64 x.off] := fun _ => rfl
  rw [he, he, run_equalIn_struct w 9999 t _ _ (by rw [hfs]; exact hu) hp, hfs]
  have p0 : ∀ (a b c : Int), (part f0.type [Value.int .i64 a, .int .i64 b, .int .i64 c].toArray f0.offset).run P w = .ok (.int .i64 a) w := by
    intro a b c
    simp [part, isAgg, run_und h0, o0]
  have p1 : ∀ (a b c : Int), (part f1.type [Value.int .i64 a, .int .i64 b, .int .i64 c].toArray f1.offset).run P w = .ok (.int .i64 b) w := by
    intro a b c
    simp [part, isAgg, run_und h1, o1]
  have p2 : ∀ (a b c : Int), (part f2.type [Value.int .i64 a, .int .i64 b, .int .i64 c].toArray f2.offset).run P w = .ok (.int .i64 c) w := by
    intro a b c
    simp [part, isAgg, run_und h2, o2]
  have q0 := fun (a b : Int) (w : World) => run_equalIn_int (P := P) w 9998 f0.type .i64 .i64 a b h0
  have q1 := fun (a b : Int) (w : World) => run_equalIn_int (P := P) w 9998 f1.type .i64 .i64 a b h1
  have q2 := fun (a b : Int) (w : World) => run_equalIn_int (P := P) w 9998 f2.type .i64 .i64 a b h2
  simp only [Op.eqFields, m0, m1, m2, ne_eq, not_false_eq_true, if_true, Sem.run_bind, p0, Result.andThen_ok, q0]
  by_cases e0 : x.seq = y.seq
  · by_cases e1 : x.n = y.n
    · by_cases e2 : x.off = y.off
      · have : x = y := by cases x; cases y; simp only at e0 e1 e2; subst e0 e1 e2; rfl
        subst this
        simp [p1, p2, q1, q2]
      · have : x ≠ y := fun e => e2 (by rw [e])
        have h3 : (x.off == y.off) = false := by simpa using e2
        simp [e0, e1, this, p1, q1, p2, q2, h3]
    · have : x ≠ y := fun e => e1 (by rw [e])
      have h3 : (x.n == y.n) = false := by simpa using e1
      simp [e0, this, p1, q1, h3]
  · have : x ≠ y := fun e => e0 (by rw [e])
    have h3 : (x.seq == y.seq) = false := by simpa using e0
    simp [this, h3]
instance eqDid : EqS Try.prog 53 Did := eqs_did Try.underlying53 (by kernel_rfl) (by kernel_rfl) Try.underlying3 Try.underlying3 Try.underlying3 rfl rfl rfl (by decide) (by decide) (by decide)
theorem mk_eq {x y : Maker} (h1 : x.id = y.id) (h2 : x.epoch = y.epoch) (h3 : x.part = y.part) (h4 : x.last = y.last) : x.mk' = y.mk' := by
  unfold Maker.mk'
  rw [h1, h2, h3, h4]
theorem rNums (w0 : World) (a b : Option Addr) (c d : Nat) (x y : List Int) (hx0 : Sl w0 a x) (hy0 : Sl w0 b y) (hlen : x.length ≤ 100000) :
    Ct Try.prog 41 #[.slice a x.length c, .slice b y.length d] w0 fun v w' => v = .bool (decide (x = y)) ∧ Ext w0 w' := by
  refine Ct.intro1 Try.func41 Try.ntmps41 rfl rfl (by decide) rfl ?_
  have H : Ext w0 w0 := Ext.refl w0
  refine WP.regionS ?_
  refine RL.r (asgB rfl) rfl ?_
  refine RL.nil ?_
  refine WP.seq ?_
  refine WP.regionS ?_
  refine RL.r (mvL rfl) rfl ?_
  refine RL.r (len_sl rfl) rfl ?_
  refine RL.r (mvL rfl) rfl ?_
  refine RL.r (len_sl rfl) rfl ?_
  refine RL.r (neq rfl rfl) rfl ?_
  refine RL.nil ?_
  refine WP.cond rfl (fun hc => ?_) (fun hc => ?_)
  · refine WP.regionS ?_
    refine RL.r (asgB rfl) rfl ?_
    refine RL.nil ?_
    refine WP.ret ?_
    refine fin1_ret rfl ⟨congrArg Value.bool (bF (fun h => hc (by rw [h]))), H⟩
  · refine WP.skip ?_
    refine WP.seq ?_
    refine WP.regionS ?_
    refine RL.r (asgI rfl) rfl ?_
    refine RL.nil ?_
    refine WP.block ?_
    refine WP.loop (fun k e' w' => ∃ j : Nat,  j + k = x.length ∧ Head [4, 5, 11, 12, 13, 14, 15, 16, 17, 18, 19, 20, 21, 22, 23, 24, 25] _ [(5, .int .i64 (j : Int))] e' ∧ Ext w0 w' ∧ ∀ (i : Nat) (h : i < x.length) (h2 : i < y.length), i < j → x[i] = y[i]) (x.length)
      ⟨0, by omega, Head.intro (AgreeOff.refl _ _) ⟨rfl, trivial⟩, H, fun i h h2 hi => by omega⟩ ?_
    clear H
    rintro k e w1 ⟨j, hjk, ⟨jk, rfl⟩, H, hok⟩
    refine WP.seq ?_
    refine WP.regionS ?_
    refine RL.r (mvI rfl) rfl ?_
    refine RL.r (mvL rfl) rfl ?_
    refine RL.r (len_sl rfl) rfl ?_
    refine RL.r (lss rfl rfl) rfl ?_
    refine RL.nil ?_
    refine WP.cond rfl (fun hc => ?_) (fun hc => ?_)
    · refine WP.skip ?_
      refine WP.seq ?_
      refine WP.block ?_
      refine WP.seq ?_
      refine WP.draw (by kernel_rfl) ?_
      refine QL.r (mvL rfl) rfl ?_
      refine QL.r (mvI rfl) rfl ?_
      have hj : j < x.length := by omega
      have hj2 : j < y.length := by omega
      obtain ⟨p, rfl⟩ := hx0.isAddr (by decide) hj
      obtain ⟨q, rfl⟩ := hy0.isAddr (by decide) hj2
      refine QL.r (ix rfl rfl rfl (by omega)) rfl ?_
      refine QL.m (ld_e0 rfl hx0 H rfl (by omega) rfl) rfl ?_
      refine QL.r (mvL rfl) rfl ?_
      refine QL.r (mvI rfl) rfl ?_
      refine QL.r (ix rfl rfl rfl (by omega)) rfl ?_
      refine QL.m (ld_e0 rfl hy0 H rfl (by omega) rfl) rfl ?_
      refine QL.r (neq rfl rfl) rfl ?_
      refine QL.nil ?_; intro w2 hx; replace H := H.ext hx
      refine WP.cond rfl (fun hc => ?_) (fun hc => ?_)
      · refine WP.regionS ?_
        refine RL.r (asgB rfl) rfl ?_
        refine RL.nil ?_
        refine WP.ret ?_
        refine fin1_ret rfl ⟨congrArg Value.bool (bF (fun h => hc (by subst h; rfl))), H⟩
      · refine WP.skip ?_
        refine WP.region ?_
        refine RL.r (mvI rfl) rfl ?_
        refine RL.r (add rfl rfl (by omega)) rfl ?_
        refine RL.r (asgI rfl) rfl ?_
        refine RL.nil ?_
        refine ⟨k - 1, by omega, j + 1, by omega, Head.intro (by repeat (first | with_reducible exact AgreeOff.mix _ _ _ | refine AgreeOff.look rfl ?_ | refine AgreeOff.mixs rfl ?_)) ⟨rfl, trivial⟩, H, fun i h h2 hi => ?_⟩
        by_cases hij : i < j
        · exact hok i h h2 hij
        · obtain rfl : i = j := by omega
          exact Classical.not_not.1 hc
    · refine WP.exit ?_
      refine WP.regionS ?_
      refine RL.r (asgB rfl) rfl ?_
      refine RL.nil ?_
      refine WP.ret ?_
      refine fin1_ret rfl ⟨congrArg Value.bool (bT (List.ext_getElem (by omega) fun i h h2 => hok i h h2 (by omega))), H⟩
set_option maxRecDepth 20000 in
set_option maxHeartbeats 800000 in
theorem rSame (w0 : World) (a b : Option Addr) (c d : Nat) (x y : List Maker) (hx0 : Sl w0 a x) (hy0 : Sl w0 b y) (hrows : ∀ (i : Nat) (h : i < x.length), Sl w0 x[i].la x[i].last) (hrows2 : ∀ (i : Nat) (h : i < y.length), Sl w0 y[i].la y[i].last) (hlen : x.length ≤ 100000) (hrl : ∀ (i : Nat) (h : i < x.length), x[i].last.length ≤ 100000) :
    Ct Try.prog 24 #[.slice a x.length c, .slice b y.length d] w0 fun v w' => v = .bool (decide (x.map Maker.mk' = y.map Maker.mk')) ∧ Ext w0 w' := by
  refine Ct.intro1 Try.func24 Try.ntmps24 rfl rfl (by decide) rfl ?_
  have H : Ext w0 w0 := Ext.refl w0
  refine WP.regionS ?_
  refine RL.r (asgB rfl) rfl ?_
  refine RL.nil ?_
  refine WP.seq ?_
  refine WP.regionS ?_
  refine RL.r (mvL rfl) rfl ?_
  refine RL.r (len_sl rfl) rfl ?_
  refine RL.r (mvL rfl) rfl ?_
  refine RL.r (len_sl rfl) rfl ?_
  refine RL.r (neq rfl rfl) rfl ?_
  refine RL.nil ?_
  refine WP.cond rfl (fun hc => ?_) (fun hc => ?_)
  · refine WP.regionS ?_
    refine RL.r (asgB rfl) rfl ?_
    refine RL.nil ?_
    refine WP.ret ?_
    refine fin1_ret rfl ⟨congrArg Value.bool (bF (fun h => hc (by have := congrArg List.length h; simp only [List.length_map] at this; rw [this]))), H⟩
  · refine WP.skip ?_
    refine WP.seq ?_
    refine WP.regionS ?_
    refine RL.r (asgI rfl) rfl ?_
    refine RL.nil ?_
    refine WP.block ?_
    refine WP.loop (fun k e' w' => ∃ j : Nat,  j + k = x.length ∧ Head [4, 5, 6, 12, 13, 14, 15, 16, 17, 18, 19, 20, 21, 22, 23, 24, 25, 26, 27, 28, 29, 30, 31, 32, 33, 34, 35, 36, 37, 38, 39, 40, 41, 42, 43, 44, 45, 46, 47, 48, 49, 50, 51, 52, 53, 54, 55, 56, 57, 58, 59, 60, 61, 62, 63, 64, 65, 66, 67, 68, 69, 70, 71, 72, 73, 74, 75, 76, 77, 78, 79, 80, 81, 82, 83, 84, 85, 86, 87, 88, 89, 90, 91, 92, 93, 94, 95, 96] _ [(5, .int .i64 (j : Int))] e' ∧ Ext w0 w' ∧ ∀ (i : Nat) (h : i < x.length) (h2 : i < y.length), i < j → x[i].mk' = y[i].mk') (x.length)
      ⟨0, by omega, Head.intro (AgreeOff.refl _ _) ⟨rfl, trivial⟩, H, fun i h h2 hi => by omega⟩ ?_
    clear H
    rintro k e w1 ⟨j, hjk, ⟨jk, rfl⟩, H, hok⟩
    refine WP.seq ?_
    refine WP.regionS ?_
    refine RL.r (mvI rfl) rfl ?_
    refine RL.r (mvL rfl) rfl ?_
    refine RL.r (len_sl rfl) rfl ?_
    refine RL.r (lss rfl rfl) rfl ?_
    refine RL.nil ?_
    refine WP.cond rfl (fun hc => ?_) (fun hc => ?_)
    · refine WP.skip ?_
      refine WP.seq ?_
      refine WP.block ?_
      refine WP.seq ?_
      refine WP.seq ?_
      refine WP.draw (by kernel_rfl) ?_
      refine QL.r (mvL rfl) rfl ?_
      refine QL.r (mvI rfl) rfl ?_
      have hj : j < x.length := by omega
      have hj2 : j < y.length := by omega
      obtain ⟨p, rfl⟩ := hx0.isAddr (by decide) hj
      obtain ⟨q, rfl⟩ := hy0.isAddr (by decide) hj2
      have hrx := hrows j hj
      have hry := hrows2 j hj2
      have hrl9 := hrl j hj
      refine QL.r (ix_o rfl rfl rfl hj (Option.some_ne_none _)) rfl ?_
      refine QL.r (fa_el hx0.1 rfl) rfl ?_
      refine QL.m (ld_el rfl hx0 H rfl hj rfl) rfl ?_
      refine QL.r (mvL rfl) rfl ?_
      refine QL.r (mvI rfl) rfl ?_
      refine QL.r (ix_o rfl rfl rfl hj2 (Option.some_ne_none _)) rfl ?_
      refine QL.r (fa_el hy0.1 rfl) rfl ?_
      refine QL.m (ld_el rfl hy0 H rfl hj2 rfl) rfl ?_
      refine QL.r (neq rfl rfl) rfl ?_
      refine QL.r (mvB rfl) rfl ?_
      refine QL.gg (gwF rfl rfl) (fun hg => (mvL rfl).does _) rfl ?_
      refine QL.gg (gwF rfl rfl) (fun hg => (mvI rfl).does _) rfl ?_
      refine QL.gg (gwF rfl rfl) (fun hg => (ix_o (gs hg rfl) (gs hg rfl) rfl hj (Option.some_ne_none _)).does _) rfl ?_
      refine QL.gg (gwF rfl rfl) (fun hg => (fa_el hx0.1 (gs hg rfl)).does _) rfl ?_
      refine QL.gg (gwF rfl rfl) (fun hg => ld_el (gs hg rfl) hx0 H rfl hj rfl) rfl ?_
      refine QL.gg (gwF rfl rfl) (fun hg => (mvL rfl).does _) rfl ?_
      refine QL.gg (gwF rfl rfl) (fun hg => (mvI rfl).does _) rfl ?_
      refine QL.gg (gwF rfl rfl) (fun hg => (ix_o (gs hg rfl) (gs hg rfl) rfl hj2 (Option.some_ne_none _)).does _) rfl ?_
      refine QL.gg (gwF rfl rfl) (fun hg => (fa_el hy0.1 (gs hg rfl)).does _) rfl ?_
      refine QL.gg (gwF rfl rfl) (fun hg => ld_el (gs hg rfl) hy0 H rfl hj2 rfl) rfl ?_
      refine QL.gg (gwF rfl rfl) (fun hg => (neq (gs hg rfl) (gs hg rfl)).does _) rfl ?_
      refine QL.r (pickOr rfl (fun hn => gs hn rfl)) rfl ?_
      refine QL.r (mvB rfl) rfl ?_
      refine QL.gg (gwF rfl rfl) (fun hg => (mvL rfl).does _) rfl ?_
      refine QL.gg (gwF rfl rfl) (fun hg => (mvI rfl).does _) rfl ?_
      refine QL.gg (gwF rfl rfl) (fun hg => (ix_o (gs hg rfl) (gs hg rfl) rfl hj (Option.some_ne_none _)).does _) rfl ?_
      refine QL.gg (gwF rfl rfl) (fun hg => (fa_el hx0.1 (gs hg rfl)).does _) rfl ?_
      refine QL.gg (gwF rfl rfl) (fun hg => ldS_ef (gs hg rfl) hx0 H hj rfl (Nat.le_of_ble_eq_true rfl)) rfl ?_
      refine QL.gg (gwF rfl rfl) (fun hg => (mvL rfl).does _) rfl ?_
      refine QL.gg (gwF rfl rfl) (fun hg => (mvI rfl).does _) rfl ?_
      refine QL.gg (gwF rfl rfl) (fun hg => (ix_o (gs hg rfl) (gs hg rfl) rfl hj2 (Option.some_ne_none _)).does _) rfl ?_
      refine QL.gg (gwF rfl rfl) (fun hg => (fa_el hy0.1 (gs hg rfl)).does _) rfl ?_
      refine QL.gg (gwF rfl rfl) (fun hg => ldS_ef (gs hg rfl) hy0 H hj2 rfl (Nat.le_of_ble_eq_true rfl)) rfl ?_
      refine QL.gg (gwF rfl rfl) (fun hg => (aneq (α := Part) (p := x[j].part) (q := y[j].part) (gs hg rfl) (gs hg rfl)).does _) rfl ?_
      refine QL.r (pickOr rfl (fun hn => gs hn rfl)) rfl ?_
      refine QL.r (mvB rfl) rfl ?_
      refine QL.gg (gwF rfl rfl) (fun hg => (mvL rfl).does _) rfl ?_
      refine QL.gg (gwF rfl rfl) (fun hg => (mvI rfl).does _) rfl ?_
      refine QL.gg (gwF rfl rfl) (fun hg => (ix_o (gs hg rfl) (gs hg rfl) rfl hj (Option.some_ne_none _)).does _) rfl ?_
      refine QL.gg (gwF rfl rfl) (fun hg => (fa_el hx0.1 (gs hg rfl)).does _) rfl ?_
      refine QL.gg (gwF rfl rfl) (fun hg => ld_el (gs hg rfl) hx0 H rfl hj rfl) rfl ?_
      refine QL.gg (gwF rfl rfl) (fun hg => (len_sl (gs hg rfl)).does _) rfl ?_
      refine QL.gg (gwF rfl rfl) (fun hg => (mvL rfl).does _) rfl ?_
      refine QL.gg (gwF rfl rfl) (fun hg => (mvI rfl).does _) rfl ?_
      refine QL.gg (gwF rfl rfl) (fun hg => (ix_o (gs hg rfl) (gs hg rfl) rfl hj2 (Option.some_ne_none _)).does _) rfl ?_
      refine QL.gg (gwF rfl rfl) (fun hg => (fa_el hy0.1 (gs hg rfl)).does _) rfl ?_
      refine QL.gg (gwF rfl rfl) (fun hg => ld_el (gs hg rfl) hy0 H rfl hj2 rfl) rfl ?_
      refine QL.gg (gwF rfl rfl) (fun hg => (len_sl (gs hg rfl)).does _) rfl ?_
      refine QL.gg (gwF rfl rfl) (fun hg => (neq (gs hg rfl) (gs hg rfl)).does _) rfl ?_
      refine QL.r (pickOr rfl (fun hn => gs hn rfl)) rfl ?_
      refine QL.nil ?_; intro w2 hx; replace H := H.ext hx
      refine WP.cond rfl (fun hc => ?_) (fun hc => ?_)
      · refine WP.regionS ?_
        refine RL.r (asgB rfl) rfl ?_
        refine RL.nil ?_
        refine WP.ret ?_
        have hbad : ¬ x.map Maker.mk' = y.map Maker.mk' := by
          intro h
          have h1 : (x.map Maker.mk')[j]? = (y.map Maker.mk')[j]? := by rw [h]
          rw [List.getElem?_map, List.getElem?_map, List.getElem?_eq_getElem hj, List.getElem?_eq_getElem hj2] at h1
          have h2 := Option.some.inj h1
          rcases hc with ((hc | hc) | hc) | hc
          · exact hc (congrArg Mk.id h2)
          · exact hc (congrArg Mk.epoch h2)
          · exact hc (congrArg Mk.part h2)
          · exact hc (by rw [show x[j].last = y[j].last from congrArg Mk.last h2])
        refine fin1_ret rfl ⟨congrArg Value.bool (bF hbad), H⟩
      · refine WP.skip ?_
        refine WP.regionS ?_
        refine RL.r (asgI rfl) rfl ?_
        refine RL.nil ?_
        refine WP.block ?_
        have hlen2 : x[j].last.length = y[j].last.length := by
          have h := Classical.not_not.1 (fun h => hc (.inr h))
          omega
        refine WP.loop (fun k1 e' w' => ∃ j1 : Nat,  j1 + k1 = x[j].last.length ∧ Head [4, 6, 70, 71, 72, 73, 74, 75, 76, 77, 78, 79, 80, 81, 82, 83, 84, 85, 86, 87, 88, 89, 90, 91, 92, 93, 94, 95, 96] _ [(6, .int .i64 (j1 : Int))] e' ∧ Ext w0 w' ∧ ∀ (k : Nat) (h : k < x[j].last.length) (h2 : k < y[j].last.length), k < j1 → x[j].last[k] = y[j].last[k]) (x[j].last.length)
          ⟨0, by omega, Head.intro (AgreeOff.refl _ _) ⟨rfl, trivial⟩, H, fun k h h2 hi => by omega⟩ ?_
        clear H
        rintro k1 e w3 ⟨j1, hjk1, ⟨jk1, rfl⟩, H, hok2⟩
        refine WP.seq ?_
        refine WP.regionS ?_
        refine RL.r (mvI rfl) rfl ?_
        refine RL.r (mvL rfl) rfl ?_
        refine RL.r (mvI rfl) rfl ?_
        refine RL.r (ix_o rfl rfl rfl hj (Option.some_ne_none _)) rfl ?_
        refine RL.r (fa_el hx0.1 rfl) rfl ?_
        refine RL.m (ld_el rfl hx0 H rfl hj rfl) rfl ?_
        refine RL.r (len_sl rfl) rfl ?_
        refine RL.r (lss rfl rfl) rfl ?_
        refine RL.nil ?_
        refine WP.cond rfl (fun hc => ?_) (fun hc => ?_)
        · refine WP.skip ?_
          refine WP.seq ?_
          refine WP.block ?_
          refine WP.seq ?_
          refine WP.draw (by kernel_rfl) ?_
          refine QL.r (mvL rfl) rfl ?_
          refine QL.r (mvI rfl) rfl ?_
          have hk : j1 < x[j].last.length := by omega
          have hk2 : j1 < y[j].last.length := by omega
          refine QL.r (ix_o rfl rfl rfl hj (Option.some_ne_none _)) rfl ?_
          refine QL.r (fa_el hx0.1 rfl) rfl ?_
          refine QL.m (ld_el rfl hx0 H rfl hj rfl) rfl ?_
          refine QL.r (mvI rfl) rfl ?_
          refine QL.r (ix_o rfl rfl rfl hk (hrx.someA (by decide) hk)) rfl ?_
          refine QL.m (ldS_o0 rfl hrx H rfl rfl hk (by decide)) rfl ?_
          refine QL.r (mvL rfl) rfl ?_
          refine QL.r (mvI rfl) rfl ?_
          refine QL.r (ix_o rfl rfl rfl hj2 (Option.some_ne_none _)) rfl ?_
          refine QL.r (fa_el hy0.1 rfl) rfl ?_
          refine QL.m (ld_el rfl hy0 H rfl hj2 rfl) rfl ?_
          refine QL.r (mvI rfl) rfl ?_
          refine QL.r (ix_o rfl rfl rfl hk2 (hry.someA (by decide) hk2)) rfl ?_
          refine QL.m (ldS_o0 rfl hry H rfl rfl hk2 (by decide)) rfl ?_
          refine QL.r (aneq (α := Did) (p := x[j].last[j1]) (q := y[j].last[j1]) rfl rfl) rfl ?_
          refine QL.nil ?_; intro w4 hx; replace H := H.ext hx
          refine WP.cond rfl (fun hc => ?_) (fun hc => ?_)
          · refine WP.regionS ?_
            refine RL.r (asgB rfl) rfl ?_
            refine RL.nil ?_
            refine WP.ret ?_
            have hbad : ¬ x.map Maker.mk' = y.map Maker.mk' := by
              intro h
              have h1 : (x.map Maker.mk')[j]? = (y.map Maker.mk')[j]? := by rw [h]
              rw [List.getElem?_map, List.getElem?_map, List.getElem?_eq_getElem hj, List.getElem?_eq_getElem hj2] at h1
              have h2 : x[j].last = y[j].last := congrArg Mk.last (Option.some.inj h1)
              have h3 : x[j].last[j1]? = y[j].last[j1]? := by rw [h2]
              rw [List.getElem?_eq_getElem hk, List.getElem?_eq_getElem hk2] at h3
              exact hc (Option.some.inj h3)
            refine fin1_ret rfl ⟨congrArg Value.bool (bF hbad), H⟩
          · refine WP.skip ?_
            refine WP.region ?_
            refine RL.r (mvI rfl) rfl ?_
            refine RL.r (add rfl rfl (by omega)) rfl ?_
            refine RL.r (asgI rfl) rfl ?_
            refine RL.nil ?_
            refine ⟨k1 - 1, by omega, j1 + 1, by omega, Head.intro (by repeat (first | with_reducible exact AgreeOff.mix _ _ _ | refine AgreeOff.look rfl ?_ | refine AgreeOff.mixs rfl ?_)) ⟨rfl, trivial⟩, H, fun k h h2 hi => ?_⟩
            by_cases hij : k < j1
            · exact hok2 k h h2 hij
            · obtain rfl : k = j1 := by omega
              exact Classical.not_not.1 hc
        · refine WP.exit ?_
          refine WP.region ?_
          refine RL.r (mvI rfl) rfl ?_
          refine RL.r (add rfl rfl (by omega)) rfl ?_
          refine RL.r (asgI rfl) rfl ?_
          refine RL.nil ?_
          have hnow : x[j].mk' = y[j].mk' := by
            have hco := (by assumption : ¬ (((x[j].id ≠ y[j].id ∨ x[j].epoch ≠ y[j].epoch) ∨ x[j].part ≠ y[j].part) ∨ (x[j].last.length : Int) ≠ (y[j].last.length : Int)))
            refine mk_eq (Classical.not_not.1 fun h => hco (.inl (.inl (.inl h)))) (Classical.not_not.1 fun h => hco (.inl (.inl (.inr h)))) (Classical.not_not.1 fun h => hco (.inl (.inr h))) ?_
            exact List.ext_getElem hlen2 fun k h h2 => hok2 k h h2 (by omega)
          refine ⟨k - 1, by omega, j + 1, by omega, Head.intro (by repeat (first | with_reducible exact AgreeOff.mix _ _ _ | refine AgreeOff.look rfl ?_ | refine AgreeOff.mixs rfl ?_)) ⟨rfl, trivial⟩, H, fun i h h2 hi => ?_⟩
          by_cases hij : i < j
          · exact hok i h h2 hij
          · obtain rfl : i = j := by omega
            exact hnow
    · refine WP.exit ?_
      refine WP.regionS ?_
      refine RL.r (asgB rfl) rfl ?_
      refine RL.nil ?_
      refine WP.ret ?_
      refine fin1_ret rfl ⟨congrArg Value.bool (bT (List.ext_getElem (by simp only [List.length_map]; omega) fun i h h2 => by rw [List.getElem_map, List.getElem_map]; simp only [List.length_map] at h h2; exact hok i h h2 (by omega))), H⟩
end Go.Proofs.Ytbggmjnhfacjpaa
