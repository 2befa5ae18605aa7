/-
  GroupLoads: the walk.
-/
import Derived.Test.YtlkpgeopcdhgjaaRefB
import Derived.Test.YtlkpgeopcdhgjaaOpen11
set_option linter.unusedVariables false
namespace Go.Proofs.Ytlkpgeopcdhgjaa
open Go Go.Eng Go.RowKit
theorem gLoadU (w0 : World) (gen : Int) (robin : Bool) (a : Option Addr) (c0 : Nat) (l : List Seat) (hl : Sl w0 a l) (hts : ∀ x ∈ l, Sl w0 x.ta x.topics ∧ x.topics.length ≤ 100000) :
    Ct Try.prog 23 #[.int .i64 gen, .bool robin, .slice a l.length c0] w0 fun v w' => (∃ p : Option Addr, v = .tuple #[.pointer p, .int .i64 (loadE gen l)] ∧ (loadE gen l = 0 → ∃ i m, p = some ⟨i, 0, none⟩ ∧ Tg w0.heap.size w' i m ⟨gen, robin, l.map Seat.st⟩) ∧ (loadE gen l ≠ 0 → p = none)) ∧ Ext w0 w' :=
  (gLoad w0 gen robin a c0 l hl hts).mono fun v w' ⟨h, hx⟩ => ⟨by
    rcases h with ⟨h0, i, m, hv, hT⟩ | ⟨h0, hv⟩
    · exact ⟨_, by rw [h0]; exact hv, fun _ => ⟨i, m, rfl, hT⟩, fun h => absurd h0 h⟩
    · exact ⟨none, hv, fun h => absurd h h0, fun _ => rfl⟩, hx⟩
theorem rLoadU (w0 : World) (gen : Int) (robin : Bool) (a : Option Addr) (c0 : Nat) (l : List Seat) (hl : Sl w0 a l) (hts : ∀ x ∈ l, Sl w0 x.ta x.topics ∧ x.topics.length ≤ 100000 ∧ (∀ t ∈ x.topics, t.size ≤ 40) ∧ x.name.size ≤ 40) :
    Ct Try.prog 24 #[.int .i64 gen, .bool robin, .slice a l.length c0] w0 fun v w' => (∃ p : Option Addr, v = .tuple #[.pointer p, .int .i64 (loadE gen l)] ∧ (loadE gen l = 0 → ∃ i a, p = some ⟨i, 0, none⟩ ∧ Tr w0.heap.size w' i a ⟨gen, robin, l.map Seat.st⟩) ∧ (loadE gen l ≠ 0 → p = none)) ∧ Ext w0 w' :=
  (rLoadG w0 gen robin a c0 l hl hts).mono fun v w' ⟨h, hx⟩ => ⟨by
    rcases h with ⟨h0, i, m, hv, hT⟩ | ⟨h0, hv⟩
    · exact ⟨_, by rw [h0]; exact hv, fun _ => ⟨i, m, rfl, hT⟩, fun h => absurd h0 h⟩
    · exact ⟨none, hv, fun h => absurd h h0, fun _ => rfl⟩, hx⟩
def Cuts (B : Nat) (w : World) (M : List Seat) : Prop := ∀ x ∈ M, CutO B w x
theorem Cuts.ext {B : Nat} {w w' : World} {M : List Seat} (h : Cuts B w M) (k : Ext w w') : Cuts B w' M := fun x hx => (h x hx).ext k
theorem CutO.ow {α : Type} [Lies α] {B B' c : Nat} {w w' : World} {s : Seat} {T : TypeId} {a : Option Addr} {l : List α} (h : CutO B w s) (ho : Own B' w T a c l) (hT : 9 ≠ T) (k : Upd (inBlock a) w w') : CutO B w' s := ⟨h.own.upd k fun y hy => h.own.apart ho hT hy, h.len, h.txt, h.nm⟩
theorem Cuts.ow {α : Type} [Lies α] {B B' c : Nat} {w w' : World} {M : List Seat} {T : TypeId} {a : Option Addr} {l : List α} (h : Cuts B w M) (ho : Own B' w T a c l) (hT : 9 ≠ T) (k : Upd (inBlock a) w w') : Cuts B w' M := fun x hx => (h x hx).ow ho hT k
theorem Cuts.push {B : Nat} {w : World} {M : List Seat} {s : Seat} (h : Cuts B w M) (hs : CutO B w s) : Cuts B w (M ++ [s]) := fun x hx => by
  rcases List.mem_append.1 hx with hx | hx
  · exact h x hx
  · rw [List.mem_singleton.1 hx]; exact hs
set_option maxRecDepth 20000 in
set_option maxHeartbeats 1600000 in
theorem lLoadsG (w0 : World) (gen : Int) (a : Option Addr) (c : Nat) (l : List Seat) (o : GOp) (hl : SlI w0 a l) (hin : ∀ x ∈ l, inSeat w0 x) (ho : SlI w0 o.s.ta o.s.topics) :
    Ct Try.prog 5 #[.int .i64 gen, .slice a l.length c, .agg (Lies.enc o).toArray] w0 fun v w' => v = .bool true ∧ Ext w0 w' := by
  refine Ct.intro1 Try.func5 Try.ntmps5 rfl rfl (by decide) rfl ?_
  have H : Ext w0 w0 := Ext.refl w0
  refine WP.regionS ?_
  refine RL.boxS w0.heap.size H.size rfl rfl ?_
  intro w1 i5 hi5 hx hb5
  replace H := H.ext hx; clear hx
  refine RL.r (asgB rfl) rfl ?_
  refine RL.nil ?_
  refine WP.regionS ?_
  refine RL.build0 (α := Seat) w0.heap.size H.size rfl ?_
  intro w2 i13 hi13 hx hb13
  replace H := H.ext hx; replace hb5 := hb5.ext hx; clear hx
  have hM := hb13
  refine RL.r (asgL rfl) rfl ?_
  refine RL.nil ?_
  refine WP.seq ?_
  refine WP.regionS ?_
  refine RL.r (asgI rfl) rfl ?_
  refine RL.nil ?_
  refine WP.block ?_
  refine WP.loop (fun k e' w' => ∃ j : Nat, ∃ (a7 : Option Addr) (c7 : Nat) (M : List Seat),  j + k = min l.length 12 ∧ Head [7, 8, 14, 15, 16, 17, 18, 19, 20, 21, 22, 23, 24, 25, 26, 27, 28, 29, 30, 31] _ [(7, .slice a7 M.length c7), (8, .int .i64 (j : Int))] e' ∧ Ext w0 w' ∧ Box w0.heap.size w' i5 44 (Lies.enc o) ∧ Own w0.heap.size w' 31 a7 c7 M ∧ Cuts w0.heap.size w' M ∧ M.length ≤ j) (min l.length 12)
    ⟨0, _, _, [], by omega, Head.intro (AgreeOff.refl _ _) ⟨rfl, rfl, trivial⟩, H, hb5, hM, (fun x hx => by cases hx), Nat.le_refl _⟩ ?_
  clear H hb5 hM
  rintro k e w3 ⟨j, a7, c7, M, hjk, ⟨jk, rfl⟩, H, hb5, hM, hMc, hMl⟩
  refine WP.seq ?_
  refine WP.seq (WP.quiet ?_)
  refine QL.r (mvI rfl) rfl ?_
  refine QL.r (mvL rfl) rfl ?_
  refine QL.r (len_sl rfl) rfl ?_
  refine QL.r (lss rfl rfl) rfl ?_
  refine QL.r (mvB rfl) rfl ?_
  refine QL.gg (gwT rfl rfl) (fun hg => (mvI rfl).does _) rfl ?_
  refine QL.gg (gwT rfl rfl) (fun hg => (lss (gs hg rfl) rfl).does _) rfl ?_
  refine QL.r (pickAnd rfl (fun hn => gs hn rfl)) rfl ?_
  refine QL.nil ?_; intro w4 hx; replace H := H.ext hx; replace hb5 := hb5.ext hx; replace hM := hM.ext hx; replace hMc := hMc.ext hx
  refine WP.cond rfl (fun hc => ?_) (fun hc => ?_)
  · refine WP.skip ?_
    refine WP.seq ?_
    refine WP.block ?_
    refine WP.region ?_
    refine RL.r (mvL rfl) rfl ?_
    refine RL.r (mvL rfl) rfl ?_
    refine RL.r (mvI rfl) rfl ?_
    have hj : j < l.length := by omega
    have hinj := hin _ (List.getElem_mem hj)
    have hl := hl (List.ne_nil_of_length_pos (by omega))
    obtain ⟨p, rfl⟩ := hl.isAddr (by decide) hj
    refine RL.r (ix rfl rfl rfl hj) rfl ?_
    refine RL.m (ldS_el rfl hl H rfl rfl hj) rfl ?_
    -- call stagecoach/stagecoachlaw11.Cut (tmp 28)
    have hsz := H.size
    refine RL.call (lCut _ l[j] (fun h => (hinj.1 h).ext H)) rfl rfl ?_
    rintro v w5 ⟨⟨s, rfl, hcu⟩, hx⟩
    replace H := H.ext hx; replace hb5 := hb5.ext hx; replace hM := hM.ext hx; replace hMc := hMc.ext hx
    replace hcu := hcu.mono hsz
    refine RL.buildSlice w0.heap.size H.size rfl rfl rfl rfl rfl ?_
    intro w6 i30 hi30 hx hb30
    replace H := H.ext hx; replace hb5 := hb5.ext hx; replace hM := hM.ext hx; replace hMc := hMc.ext hx; replace hcu := hcu.ext hx; clear hx
    refine RL.appendS rfl hM H.size rfl (show Sl _ _ [s] from Box.sl1 hb30) rfl rfl (by decide) rfl cell1 (by omega) (by simp only [maxLen]; omega) rfl ?_
    intro w7 a31 c31 hu hb31 hfr31
    replace hb5 := boxow hb5 hM (by decide) hu
    replace hMc := hMc.ow hM (by decide) hu
    replace hcu := hcu.ow hM (by decide) hu
    replace H := Ext.own H hM hu; clear hu
    refine RL.r (asgL rfl) rfl ?_
    refine RL.nil ?_
    refine WP.region ?_
    refine RL.r (mvI rfl) rfl ?_
    refine RL.r (add rfl rfl (by omega)) rfl ?_
    refine RL.r (asgI rfl) rfl ?_
    refine RL.nil ?_
    refine ⟨k - 1, by omega, j + 1, _, _, _, by omega, Head.intro (by repeat (first | with_reducible exact AgreeOff.mix _ _ _ | refine AgreeOff.look rfl ?_ | refine AgreeOff.mixs rfl ?_)) ⟨rfl, rfl, trivial⟩, H, hb5, hb31, hMc.push hcu, by rw [List.length_append]; simp only [List.length_cons, List.length_nil]; omega⟩
  · refine WP.exit ?_
    refine WP.regionS ?_
    refine RL.r (mvI rfl) rfl ?_
    refine RL.r (fa_box rfl) rfl ?_
    refine RL.m (ld_box rfl hb5 rfl) rfl ?_
    refine RL.r (mvL rfl) rfl ?_
    -- call stagecoach/group.Load (tmp 33) (tmp 35) (tmp 36)
    have hs7 := H.size
    refine RL.call (gLoadU _ gen o.rb a7 c7 M hM.sl (fun x hx => ⟨(hMc x hx).own.sl, by have := (hMc x hx).len; omega⟩)) rfl rfl ?_
    rintro v w8 ⟨⟨p1, rfl, hg1, hg0⟩, hx⟩
    replace H := H.ext hx; replace hb5 := hb5.ext hx; replace hM := hM.ext hx; replace hMc := hMc.ext hx
    have K8 := Ext.refl w8
    refine RL.r (mvU rfl) rfl ?_
    refine RL.r (ex0 rfl) rfl ?_
    refine RL.r (ex1 rfl) rfl ?_
    refine RL.r (asgP rfl) rfl ?_
    refine RL.r (asgI rfl) rfl ?_
    refine RL.nil ?_
    refine WP.regionS ?_
    refine RL.r (mvI rfl) rfl ?_
    refine RL.r (fa_box rfl) rfl ?_
    refine RL.m (ld_box rfl hb5 rfl) rfl ?_
    refine RL.r (mvL rfl) rfl ?_
    -- call stagecoach/stagecoachref11.Load (tmp 41) (tmp 43) (tmp 44)
    have hs8 := H.size
    refine RL.call (rLoadU _ gen o.rb a7 c7 M hM.sl (fun x hx => ⟨(hMc x hx).own.sl, by have := (hMc x hx).len; omega, (hMc x hx).txt, (hMc x hx).nm⟩)) rfl rfl ?_
    rintro v w9 ⟨⟨p2, rfl, hr1, hr0⟩, hx⟩
    replace H := H.ext hx; replace hb5 := hb5.ext hx; replace hM := hM.ext hx; replace hMc := hMc.ext hx; replace K8 := K8.ext hx
    have K9 := Ext.refl w9
    refine RL.r (mvU rfl) rfl ?_
    refine RL.r (ex0 rfl) rfl ?_
    refine RL.r (ex1 rfl) rfl ?_
    refine RL.r (asgP rfl) rfl ?_
    refine RL.r (asgI rfl) rfl ?_
    refine RL.nil ?_
    refine WP.seq ?_
    refine WP.seq (WP.quiet ?_)
    refine QL.r (mvI rfl) rfl ?_
    refine QL.r (mvI rfl) rfl ?_
    refine QL.r (neq rfl rfl) rfl ?_
    refine QL.r (mvB rfl) rfl ?_
    refine QL.gg (gwF rfl rfl) (fun hg => (mvP rfl).does _) rfl ?_
    refine QL.gg (gwF rfl rfl) (fun hg => (peqn (gs hg rfl) rfl).does _) rfl ?_
    refine QL.gg (gwF rfl rfl) (fun hg => (mvP rfl).does _) rfl ?_
    refine QL.gg (gwF rfl rfl) (fun hg => (peqn (gs hg rfl) rfl).does _) rfl ?_
    refine QL.gg (gwF rfl rfl) (fun hg => (bneq (gs hg rfl) (gs hg rfl)).does _) rfl ?_
    refine QL.r (pickOr rfl (fun hn => gs hn rfl)) rfl ?_
    refine QL.nil ?_; intro w10 hx; replace H := H.ext hx; replace hb5 := hb5.ext hx; replace hM := hM.ext hx; replace hMc := hMc.ext hx; replace K8 := K8.ext hx; replace K9 := K9.ext hx
    refine WP.cond rfl (fun hc => ?_) (fun hc => ?_)
    · refine WP.regionS ?_
      refine RL.r (asgB rfl) rfl ?_
      refine RL.nil ?_
      refine WP.ret ?_
      refine fin1_ret rfl ⟨?_, H⟩
      exfalso
      rcases hc with hc | hc
      · exact hc rfl
      · by_cases h0 : loadE gen M = 0
        · obtain ⟨i, m, rfl, _⟩ := hg1 h0
          obtain ⟨i2, a2, rfl, _⟩ := hr1 h0
          exact hc (by simp)
        · exact hc (by rw [hg0 h0, hr0 h0])
    · refine WP.skip ?_
      refine WP.seq ?_
      refine WP.seq (WP.quiet ?_)
      refine QL.r (mvP rfl) rfl ?_
      refine QL.r (peqn rfl rfl) rfl ?_
      refine QL.r (mvB rfl) rfl ?_
      refine QL.gg (gwF rfl rfl) (fun hg => (mvP rfl).does _) rfl ?_
      refine QL.gg (gwF rfl rfl) (fun hg => (peqn (gs hg rfl) rfl).does _) rfl ?_
      refine QL.r (pickOr rfl (fun hn => gs hn rfl)) rfl ?_
      refine QL.nil ?_; intro w11 hx; replace H := H.ext hx; replace hb5 := hb5.ext hx; replace hM := hM.ext hx; replace hMc := hMc.ext hx; replace K8 := K8.ext hx; replace K9 := K9.ext hx
      refine WP.cond rfl (fun hc => ?_) (fun hc => ?_)
      · refine WP.regionS ?_
        -- call stagecoach/stagecoachlaw11.fixed 
        refine RL.call (lFixed _) rfl rfl ?_
        rintro _ w12 ⟨rfl, hx⟩
        replace H := H.ext hx; replace hb5 := hb5.ext hx; replace hM := hM.ext hx; replace hMc := hMc.ext hx; replace K8 := K8.ext hx; replace K9 := K9.ext hx
        refine RL.r (asgB rfl) rfl ?_
        refine RL.nil ?_
        refine WP.ret ?_
        refine fin1_ret rfl ⟨rfl, H⟩
      · refine WP.skip ?_
        refine WP.regionS ?_
        refine RL.r (mvP rfl) rfl ?_
        refine RL.r (mvP rfl) rfl ?_
        -- call stagecoach/stagecoachlaw11.same (tmp 65) (tmp 66)
        have h0 : loadE gen M = 0 := Classical.byContradiction fun h => hc (.inl (hg0 h))
        obtain ⟨i, m, rfl, hT0⟩ := hg1 h0
        obtain ⟨i2, a2, rfl, hR0⟩ := hr1 h0
        have hT := (hT0.ext K8).mono hs7
        have hR := (hR0.ext K9).mono hs8
        refine RL.call (lSame _ _ i m i2 a2 _ hT hR) rfl rfl ?_
        rintro _ w13 ⟨rfl, hx⟩
        replace H := H.ext hx; replace hb5 := hb5.ext hx; replace hM := hM.ext hx; replace hMc := hMc.ext hx; replace K8 := K8.ext hx; replace K9 := K9.ext hx
        replace hT := hT.ext hx
        replace hR := hR.ext hx
        refine RL.mvT rfl (by first | assumption | omega) rfl ?_
        refine RL.yes rfl rfl rfl ?_
        refine RL.r (mvP rfl) rfl ?_
        refine RL.yes rfl rfl rfl ?_
        refine RL.r (mvP rfl) rfl ?_
        refine RL.yes rfl rfl rfl ?_
        refine RL.m (ldS_box rfl hb5 (Nat.le_of_ble_eq_true rfl) rfl) rfl ?_
        refine RL.yes rfl rfl rfl ?_
        -- call stagecoach/stagecoachlaw11.step (tmp 69) (tmp 70) (tmp 71)
        refine RL.call (lStep _ _ i m i2 a2 _ hT hR o (fun h => (ho h).ext H)) rfl rfl ?_
        rintro _ w14 ⟨⟨rfl, G2, ra2, hT2, hR2⟩, hx⟩
        replace H := Ext.upd H hx (xs_old hT hR (Nat.le_refl _)); replace hb5 := box_xs hb5 hT hR (by decide) (by decide) (by decide) hx
        replace hT := hT2; clear hT2
        replace hR := hR2; clear hR2
        refine RL.r (pickT rfl) rfl ?_
        refine RL.mvT rfl (by first | assumption | omega) rfl ?_
        refine RL.yes rfl rfl rfl ?_
        refine RL.r (mvP rfl) rfl ?_
        refine RL.yes rfl rfl rfl ?_
        refine RL.r (mvP rfl) rfl ?_
        refine RL.yes rfl rfl rfl ?_
        -- call stagecoach/stagecoachlaw11.same (tmp 75) (tmp 76)
        refine RL.call (lSame _ _ i m i2 ra2 G2 hT hR) rfl rfl ?_
        rintro _ w15 ⟨rfl, hx⟩
        replace H := H.ext hx; replace hb5 := hb5.ext hx; replace hT := hT.ext hx; replace hR := hR.ext hx
        refine RL.r (pickT rfl) rfl ?_
        refine RL.mvT rfl (by first | assumption | omega) rfl ?_
        refine RL.yes rfl rfl rfl ?_
        -- call stagecoach/stagecoachlaw11.fixed 
        refine RL.call (lFixed _) rfl rfl ?_
        rintro _ w16 ⟨rfl, hx⟩
        replace H := H.ext hx; replace hb5 := hb5.ext hx; replace hT := hT.ext hx; replace hR := hR.ext hx
        refine RL.r (pickT rfl) rfl ?_
        refine RL.r (asgB rfl) rfl ?_
        refine RL.nil ?_
        refine WP.ret ?_
        refine fin1_ret rfl ⟨rfl, H⟩
end Go.Proofs.Ytlkpgeopcdhgjaa
