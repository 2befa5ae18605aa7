/-
  One: walks and laws, written by gen/gen.py out of gen/thy/One.py.
-/
import Derived.Test.YtoebejfffakjpaaOnceLaw
set_option linter.unusedVariables false
namespace Go.Proofs.Ytoebejfffakjpaa
open Go Go.Eng Go.RowKit
/-- all partitions of what a member wants -/
noncomputable def wantY (l : List Topic) (y : Mem) : List Part := l.flatMap fun t => if y.has t.name then strip t.name 0 t.n.toNat else []
theorem wantY_succ {l : List Topic} (y : Mem) {j : Nat} (h : j < l.length) : wantY (l.take (j + 1)) y = wantY (l.take j) y ++ if y.has l[j].name then strip l[j].name 0 l[j].n.toNat else [] := flatMap_snoc _ _ _ h
theorem one_wants (y : Mem) (t : ByteArray) : wantsAt [y] 0 t ↔ y.has t := wantsAt_iff (m := [y]) (i := 0) (by simp)
theorem one_ahead {y : Mem} {t : ByteArray} (h : y.has t) : ahead [y] 1 t = 1 := by rw [ahead_yes (m := [y]) (n := 0) (by simp) h, ahead_zero]
theorem one_range (l : List Topic) (y : Mem) : rangeG l [y] = [wantY l y] := by
  show [rangeRow [y] l 0] = _
  congr 1
  unfold rangeRow wantY
  congr 1
  funext t
  by_cases h : y.has t.name
  · rw [part1_yes ((one_wants _ _).2 h), if_pos h, ahead_zero]
    show strip t.name (fromK 0 t.n.toNat (ahead [y] 1 t.name)) (fromK 1 t.n.toNat (ahead [y] 1 t.name) - fromK 0 t.n.toNat (ahead [y] 1 t.name)) = _
    rw [one_ahead h, fromK_zero, fromK_all _ _ (by decide)]
    rfl
  · rw [part1_no (fun hw => h ((one_wants _ _).1 hw)), if_neg h]
theorem one_top (y : Mem) (t : Topic) (r : List Part) (p : Nat) : ∀ n : Nat, (topR [y] ([r], p) t n).1 = [r ++ if y.has t.name then strip t.name 0 n else []]
  | 0 => by rw [topR_zero, strip_zero]; simp
  | n + 1 => by
    have ih := one_top y t r p n
    by_cases h : y.has t.name
    · rw [if_pos h] at ih ⊢
      have hn : nxt [y] t.name (topR [y] ([r], p) t n).2 = some (((topR [y] ([r], p) t n).2 + 0) % 1) := nxt_some (m := [y]) (by simp) (fun n hn => by omega) (by rw [show ∀ x : Nat, (x + 0) % [y].length = 0 from fun x => by simp [Nat.mod_one]]; exact (one_wants _ _).2 h)
      rw [Nat.mod_one] at hn
      rw [topR_succ, stepR_some _ hn, ih, strip_succ]
      simp
    · rw [topR_none (fun i hw => by
        have : i = 0 := by have := hw.1; simp at this; omega
        subst this
        exact h ((one_wants _ _).1 hw))]
      simp [h]
theorem one_robin (l : List Topic) (y : Mem) : robinG l [y] = [wantY l y] := by
  have key : ∀ j, j ≤ l.length → (allR [y] (l.take j)).1 = [wantY (l.take j) y] := by
    intro j
    induction j with
    | zero => intro _; rfl
    | succ j ih =>
      intro hj
      have h1 := ih (by omega)
      rw [allR_snoc _ _ _ (by omega), wantY_succ y (by omega), show allR [y] (l.take j) = ([wantY (l.take j) y], (allR [y] (l.take j)).2) from Prod.ext h1 rfl, one_top]
  have := key l.length (Nat.le_refl _)
  rwa [List.take_length] at this
theorem one_check {l : List Topic} {y : Mem} {m : List Mem} (h : checkE l (y :: m) = 0) : checkE l [y] = 0 := by
  unfold checkE at h ⊢
  split at h
  · rename_i h1; exact absurd h h1
  · rename_i h1
    rw [if_neg h1, if_neg (by simp), if_pos]
    intro i hi
    simp at hi
theorem wantY_le {l : List Topic} (y : Mem) (h : ∀ t ∈ l, t.n ≤ 8) : (wantY l y).length ≤ l.length * 8 := by
  refine flat_len _ 8 l (fun t ht => ?_)
  have := h t ht
  split
  · rw [strip_length]; omega
  · simp
set_option maxRecDepth 20000 in
set_option maxHeartbeats 1600000 in
theorem lAssignOne (w0 : World) (a b : Option Addr) (c d : Nat) (l : List Topic) (m : List Mem) (hl : SlI w0 a l) (hm : SlI w0 b m) (hts : ∀ x ∈ m, SlI w0 x.ta x.topics) :
    Ct Try.prog 8 #[.agg [.slice a l.length c, .slice b m.length d].toArray] w0 fun v w' => v = .bool true ∧ Ext w0 w' := by
  refine Ct.intro1 Try.func8 Try.ntmps8 rfl rfl (by decide) rfl ?_
  have H : Ext w0 w0 := Ext.refl w0
  refine WP.regionS ?_
  refine RL.boxS w0.heap.size H.size rfl rfl ?_
  intro w1 i1 hi1 hx hb1
  replace H := H.ext hx; clear hx
  refine RL.r (asgB rfl) rfl ?_
  refine RL.nil ?_
  refine WP.regionS ?_
  refine RL.m (ldS_box rfl hb1 (Nat.le_of_ble_eq_true rfl) rfl) rfl ?_
  -- call stagecoach/stagecoachlaw10.cut (tmp 11)
  have H0s := H.size
  refine RL.call (lCut _ _ _ c d l m (fun h => (hl h).ext H) (fun h => (hm h).ext H) (fun x hx h => (hts x hx h).ext H)) rfl rfl ?_
  rintro _ w2 ⟨⟨a1, c1, L1, b1, d1, M1, rfl, hA⟩, hx⟩
  replace H := H.ext hx; replace hb1 := hb1.ext hx
  have hb1o := hb1
  refine RL.storeS rfl hb1 rfl rfl rfl rfl ?_
  intro w3 hu hb1
  replace H := H.box hu hb1.old
  refine RL.nil ?_
  refine WP.seq ?_
  refine WP.seq (WP.quiet ?_)
  refine QL.r (fa_box rfl) rfl ?_
  refine QL.m (ld_box rfl hb1 rfl) rfl ?_
  refine QL.r (fa_box rfl) rfl ?_
  refine QL.m (ld_box rfl hb1 rfl) rfl ?_
  -- call stagecoach/assign.Check (tmp 14) (tmp 16)
  replace hA := hA.mono H0s
  replace hA := hA.box hb1o (by decide) (by decide) (by decide) hu
  have HA := Ext.refl w3
  have hK0 : ∀ w', Ext w3 w' → Ct Try.prog 15 #[.slice a1 L1.length c1, .slice b1 M1.length d1] w' fun u w'' => u = .int .i64 (checkE L1 M1) ∧ Ext w' w'' := fun w' hw' => pCheck w' _ _ c1 d1 L1 M1 (hA.ol.sl.ext hw') (hA.om.sl.ext hw')
  refine QL.call (fun w' hw' => hK0 w' hw') rfl rfl ?_
  refine QL.r (neq rfl rfl) rfl ?_
  refine QL.r (mvB rfl) rfl ?_
  refine QL.gg (gwF rfl rfl) (fun hg => (fa_box rfl).does _) rfl ?_
  refine QL.gg (gwF rfl rfl) (fun hg => ld_box (gs hg rfl) hb1 rfl) rfl ?_
  refine QL.gg (gwF rfl rfl) (fun hg => (len_sl (gs hg rfl)).does _) rfl ?_
  refine QL.gg (gwF rfl rfl) (fun hg => (eql (gs hg rfl) rfl).does _) rfl ?_
  refine QL.r (pickOr rfl (fun hn => gs hn rfl)) rfl ?_
  refine QL.nil ?_; intro w5 hx; replace H := H.ext hx; replace hb1 := hb1.ext hx; replace HA := HA.ext hx
  refine WP.cond rfl (fun hc => ?_) (fun hc => ?_)
  · refine WP.regionS ?_
    -- call stagecoach/stagecoachlaw10.fixed 
    refine RL.call (lFixed _) rfl rfl ?_
    rintro _ w6 ⟨rfl, hx⟩
    replace H := H.ext hx; replace hb1 := hb1.ext hx; replace HA := HA.ext hx
    refine RL.r (asgB rfl) rfl ?_
    refine RL.nil ?_
    refine WP.ret ?_
    refine fin1_ret rfl ⟨rfl, H⟩
  · refine WP.skip ?_
    refine WP.regionS ?_
    refine RL.r (fa_box rfl) rfl ?_
    refine RL.m (ld_box rfl hb1 rfl) rfl ?_
    have hck : checkE L1 M1 = 0 := Classical.not_not.1 fun h => hc (Or.inl h)
    have hne : 0 < M1.length := Nat.pos_of_ne_zero fun h => hc (Or.inr (by rw [h]; rfl))
    obtain ⟨y, M2, hy⟩ : ∃ y M2, M1 = y :: M2 := by
      cases M1 with
      | nil => simp at hne
      | cons y M2 => exact ⟨y, M2, rfl⟩
    have hmc := own_le hA.om
    obtain ⟨p1, rfl⟩ := hA.om.sl.isAddr (by decide) hne
    have hm1 : Sl w3 (some p1) [y] := by
      have := hA.om.sl.pre 1
      rwa [hy] at this
    have hts1 : ∀ x ∈ [y], Sl w3 x.ta x.topics ∧ x.topics.length ≤ 1000 := fun x hx => hA.ts x (by obtain rfl := List.mem_singleton.1 hx; rw [hy]; simp)
    have hck1 : checkE L1 [y] = 0 := one_check (hy ▸ hck)
    refine RL.r (slcT (n := 1) rfl rfl rfl (by omega)) rfl ?_
    refine RL.r (asgL rfl) rfl ?_
    refine RL.nil ?_
    refine WP.regionS ?_
    refine RL.r (fa_box rfl) rfl ?_
    refine RL.m (ld_box rfl hb1 rfl) rfl ?_
    refine RL.r (mvL rfl) rfl ?_
    -- call stagecoach/assign.Range (tmp 31) (tmp 32)
    refine RL.call (pRange _ _ _ c1 d1 L1 [y] (hA.ol.sl.ext HA) (hm1.ext HA) (fun x hx => ⟨(hts1 x hx).1.ext HA, (hts1 x hx).2⟩)) rfl rfl ?_
    rintro _ w7 ⟨⟨qa, ca, ga, rfl, hGa, hra⟩, hx⟩
    replace H := H.ext hx; replace hb1 := hb1.ext hx; replace HA := HA.ext hx
    refine RL.r (mvU rfl) rfl ?_
    refine RL.r (ex0 rfl) rfl ?_
    refine RL.r (ex1 rfl) rfl ?_
    refine RL.r (asgL rfl) rfl ?_
    refine RL.r (asgI rfl) rfl ?_
    refine RL.nil ?_
    refine WP.regionS ?_
    refine RL.r (fa_box rfl) rfl ?_
    refine RL.m (ld_box rfl hb1 rfl) rfl ?_
    refine RL.r (mvL rfl) rfl ?_
    -- call stagecoach/assign.Robin (tmp 38) (tmp 39)
    refine RL.call (pRobin _ _ _ c1 d1 L1 [y] (hA.ol.sl.ext HA) (hm1.ext HA) (fun x hx => ⟨(hts1 x hx).1.ext HA, (hts1 x hx).2⟩)) rfl rfl ?_
    rintro _ w8 ⟨⟨qb, cb, gb, rfl, hGb, hrb⟩, hx⟩
    replace H := H.ext hx; replace hb1 := hb1.ext hx; replace HA := HA.ext hx; replace hGa := hGa.ext hx
    refine RL.r (mvU rfl) rfl ?_
    refine RL.r (ex0 rfl) rfl ?_
    refine RL.r (ex1 rfl) rfl ?_
    refine RL.r (asgL rfl) rfl ?_
    refine RL.r (asgI rfl) rfl ?_
    refine RL.nil ?_
    refine WP.regionS ?_
    have HB := Ext.refl w8
    have H08 := H
    have hb18 := hb1
    replace hA := hA.ext HA
    replace hm1 := hm1.ext HA
    replace hts1 : ∀ x ∈ [y], Sl w8 x.ta x.topics ∧ x.topics.length ≤ 1000 := fun x hx => ⟨(hts1 x hx).1.ext HA, (hts1 x hx).2⟩
    have hGa8 := hGa
    have hGb8 := hGb
    rw [if_pos hck1, one_range] at hra
    rw [if_pos hck1, one_robin] at hrb
    obtain ⟨hl8, hlok, hm8, hmok⟩ := check_ok hck
    have hln : ∀ t ∈ L1, t.n ≤ 8 := fun t ht => by
      obtain ⟨k, hk, rfl⟩ := List.getElem_of_mem ht
      exact (hlok k hk).1.2.2
    refine RL.build0 (α := Part) w8.heap.size HB.size rfl ?_
    intro w9 i43 hi43 hx hb43
    replace H := H.ext hx; replace hb1 := hb1.ext hx; replace HB := HB.ext hx; replace HA := HA.ext hx; replace hGa := hGa.ext hx; replace hGb := hGb.ext hx; clear hx
    refine RL.r (asgL rfl) rfl ?_
    refine RL.nil ?_
    refine WP.seq ?_
    refine WP.regionS ?_
    refine RL.r (asgI rfl) rfl ?_
    refine RL.nil ?_
    refine WP.block ?_
    refine WP.loop (fun k e' w' => ∃ j : Nat, ∃ (a8 : Option Addr) (c8 : Nat),  j + k = L1.length ∧ Head [8, 9, 10, 44, 45, 46, 47, 48, 49, 50, 51, 52, 53, 54, 55, 56, 57, 58, 59, 60, 61, 62, 63, 64, 65, 66, 67, 68, 69, 70, 71, 72, 73, 74, 75, 76, 77, 78, 79, 80, 81, 82, 83] _ [(8, .slice a8 (wantY (L1.take j) y).length c8), (9, .int .i64 (j : Int))] e' ∧ Ext w0 w' ∧ Box w0.heap.size w' i1 25 [.slice a1 L1.length c1, .slice (some p1) M1.length d1] ∧ Ext w8 w' ∧ Own w8.heap.size w' 27 a8 c8 (wantY (L1.take j) y)) (L1.length)
      ⟨0, _, 0, by omega, Head.intro (AgreeOff.refl _ _) ⟨rfl, rfl, trivial⟩, H, hb1, HB, hb43⟩ ?_
    clear H hb1 HB HA hGa hGb
    rintro k e w10 ⟨j, a8, c8, hjk, ⟨jk, rfl⟩, H, hb1, HB, hW8⟩
    refine WP.seq ?_
    refine WP.regionS ?_
    refine RL.r (mvI rfl) rfl ?_
    refine RL.r (fa_box rfl) rfl ?_
    refine RL.m (ld_box rfl hb1 rfl) rfl ?_
    refine RL.r (len_sl rfl) rfl ?_
    refine RL.r (lss rfl rfl) rfl ?_
    refine RL.nil ?_
    refine WP.cond rfl (fun hc => ?_) (fun hc => ?_)
    · refine WP.skip ?_
      refine WP.seq ?_
      refine WP.block ?_
      refine WP.regionS ?_
      refine RL.r (asgI rfl) rfl ?_
      refine RL.nil ?_
      refine WP.block ?_
      have hj : j < L1.length := by omega
      have htn := (hlok j hj).1.2
      refine WP.loop (fun k1 e' w' => ∃ j1 : Nat, ∃ (a8 : Option Addr) (c8 : Nat),  j1 + k1 = L1[j].n.toNat ∧ Head [8, 10, 51, 52, 53, 54, 55, 56, 57, 58, 59, 60, 61, 62, 63, 64, 65, 66, 67, 68, 69, 70, 71, 72, 73, 74, 75, 76, 77, 78, 79, 80, 81, 82, 83] _ [(8, .slice a8 (catS (wantY (L1.take j) y) L1[j].name 0 j1).length c8), (10, .int .i64 (j1 : Int))] e' ∧ Ext w0 w' ∧ Box w0.heap.size w' i1 25 [.slice a1 L1.length c1, .slice (some p1) M1.length d1] ∧ Ext w8 w' ∧ Own w8.heap.size w' 27 a8 c8 (catS (wantY (L1.take j) y) L1[j].name 0 j1) ∧ (j1 = 0 ∨ y.has L1[j].name)) (L1[j].n.toNat)
        ⟨0, _, _, by omega, Head.intro (AgreeOff.refl _ _) ⟨rfl, rfl, trivial⟩, H, hb1, HB, hW8, Or.inl rfl⟩ ?_
      clear H hb1 HB
      rintro k1 e w11 ⟨j1, a8, c8, hjk1, ⟨jk1, rfl⟩, H, hb1, HB, hW8, hor⟩
      have hwl : (wantY (L1.take j) y).length ≤ 64 := by
        have h1 := wantY_le y (fun t ht => hln t (List.mem_of_mem_take ht)) (l := L1.take j)
        rw [List.length_take] at h1
        omega
      have hcl : (catS (wantY (L1.take j) y) L1[j].name 0 j1).length ≤ 64 + j1 := by rw [catS_eq, List.length_append, strip_length]; omega
      refine WP.seq ?_
      refine WP.seq ?_
      refine WP.draw (by kernel_rfl) ?_
      refine QL.r (mvI rfl) rfl ?_
      refine QL.r (fa_box rfl) rfl ?_
      refine QL.m (ld_box rfl hb1 rfl) rfl ?_
      refine QL.r (mvI rfl) rfl ?_
      obtain ⟨pl, rfl⟩ := hA.ol.sl.isAddr (by decide) hj
      refine QL.r (ix rfl rfl rfl hj) rfl ?_
      refine QL.r (fa_el hA.ol.sl.1 rfl) rfl ?_
      refine QL.m (ld_el rfl hA.ol.sl HB rfl hj rfl) rfl ?_
      refine QL.r (lss rfl rfl) rfl ?_
      refine QL.r (mvB rfl) rfl ?_
      refine QL.gg (gwT rfl rfl) (fun hg => (mvL rfl).does _) rfl ?_
      refine QL.gg (gwT rfl rfl) (fun hg => (ix (gs hg rfl) rfl rfl (Nat.le_of_ble_eq_true rfl)).does _) rfl ?_
      refine QL.gg (gwT rfl rfl) (fun hg => ldS_at (i := 0) (gs hg rfl) hm1 HB rfl rfl rfl) rfl ?_
      refine QL.gg (gwT rfl rfl) (fun hg => (fa_box rfl).does _) rfl ?_
      refine QL.gg (gwT rfl rfl) (fun hg => ld_box (gs hg rfl) hb1 rfl) rfl ?_
      refine QL.gg (gwT rfl rfl) (fun hg => (mvI rfl).does _) rfl ?_
      refine QL.gg (gwT rfl rfl) (fun hg => (ix (gs hg rfl) (gs hg rfl) rfl hj).does _) rfl ?_
      refine QL.gg (gwT rfl rfl) (fun hg => (fa_el hA.ol.sl.1 (gs hg rfl)).does _) rfl ?_
      refine QL.gg (gwT rfl rfl) (fun hg => ld_el (gs hg rfl) hA.ol.sl HB rfl hj rfl) rfl ?_
      -- call stagecoach/stagecoachref10.Wants (tmp 62) (tmp 68)
      have hK3 : ∀ w', Ext w11 w' → Ct Try.prog 20 #[.agg (Lies.enc y).toArray, .string L1[j].name] w' fun u w'' => u = .bool (decide (y.has L1[j].name)) ∧ Ext w' w'' := fun w' hw' => rWants w' y L1[j].name ((hts1 y (by simp)).1.ext (HB.ext hw')) (hts1 y (by simp)).2
      refine QL.gcall (gwT rfl rfl) (fun hg w' hw' => hK3 w' hw') (fun hg => EvL.cons (gs hg rfl) (EvL.cons (gs hg rfl) (EvL.nil))) rfl ?_
      refine QL.r (pickAnd rfl (fun hn => gs hn rfl)) rfl ?_
      refine QL.nil ?_; intro w13 hx; replace H := H.ext hx; replace hb1 := hb1.ext hx; replace HB := HB.ext hx; replace hW8 := hW8.ext hx
      refine WP.cond rfl (fun hc => ?_) (fun hc => ?_)
      · refine WP.skip ?_
        refine WP.seq ?_
        refine WP.block ?_
        refine WP.region ?_
        refine RL.r (mvL rfl) rfl ?_
        refine RL.r (fa_box rfl) rfl ?_
        refine RL.m (ld_box rfl hb1 rfl) rfl ?_
        refine RL.r (mvI rfl) rfl ?_
        refine RL.r (ix rfl rfl rfl hj) rfl ?_
        refine RL.r (fa_el hA.ol.sl.1 rfl) rfl ?_
        refine RL.m (ld_el rfl hA.ol.sl HB rfl hj rfl) rfl ?_
        refine RL.r (mvI rfl) rfl ?_
        refine RL.r (bld rfl rfl) rfl ?_
        refine RL.buildSlice w0.heap.size H.size rfl rfl rfl rfl rfl ?_
        intro w14 i82 hi82 hx hb82
        replace H := H.ext hx; replace hb1 := hb1.ext hx; replace HB := HB.ext hx; replace hW8 := hW8.ext hx; clear hx
        refine RL.appendS rfl hW8 HB.size rfl (show Sl _ _ [(⟨L1[j].name, (j1 : Int)⟩ : Part)] from Box.sl1 hb82) rfl rfl (by decide) rfl cell1 (by omega) (by simp only [maxLen]; omega) rfl ?_
        intro w15 a83 c83 hu hb83 hfr83
        replace HB := Ext.own HB hW8 hu; replace H := H08.trans HB; replace hb1 := hb18.ext HB; clear hu
        refine RL.r (asgL rfl) rfl ?_
        refine RL.nil ?_
        refine WP.region ?_
        refine RL.r (mvI rfl) rfl ?_
        refine RL.r (add rfl rfl (by omega)) rfl ?_
        refine RL.r (asgI rfl) rfl ?_
        refine RL.nil ?_
        have hcs : catS (wantY (L1.take j) y) L1[j].name 0 j1 ++ [(⟨L1[j].name, (j1 : Int)⟩ : Part)] = catS (wantY (L1.take j) y) L1[j].name 0 (j1 + 1) := by rw [catS_succ, Nat.zero_add]
        refine ⟨k1 - 1, by omega, j1 + 1, _, _, by omega, Head.intro (by repeat (first | with_reducible exact AgreeOff.mix _ _ _ | refine AgreeOff.look rfl ?_ | refine AgreeOff.mixs rfl ?_)) ⟨slE (by rw [hcs]), rfl, trivial⟩, H, hb1, HB, hcs ▸ hb83, Or.inr hc.2⟩
      · refine WP.exit ?_
        refine WP.region ?_
        refine RL.r (mvI rfl) rfl ?_
        refine RL.r (add rfl rfl (by omega)) rfl ?_
        refine RL.r (asgI rfl) rfl ?_
        refine RL.nil ?_
        have hfin : catS (wantY (L1.take j) y) L1[j].name 0 j1 = wantY (L1.take (j + 1)) y := by
          rw [catS_eq, wantY_succ y hj]
          by_cases hy2 : y.has L1[j].name
          · rw [if_pos hy2, show j1 = L1[j].n.toNat by have : ¬ (j1 : Int) < L1[j].n := fun h => hc ⟨h, hy2⟩; omega]
          · rw [if_neg hy2, show j1 = 0 from hor.resolve_right hy2, strip_zero]
        refine ⟨k - 1, by omega, j + 1, _, _, by omega, Head.intro (by repeat (first | with_reducible exact AgreeOff.mix _ _ _ | refine AgreeOff.look rfl ?_ | refine AgreeOff.mixs rfl ?_)) ⟨slE (by rw [hfin]), rfl, trivial⟩, H, hb1, HB, hfin ▸ hW8⟩
    · refine WP.exit ?_
      refine WP.seq (WP.quiet ?_)
      refine QL.r (mvI rfl) rfl ?_
      refine QL.r (eql rfl rfl) rfl ?_
      refine QL.r (mvB rfl) rfl ?_
      refine QL.gg (gwT rfl rfl) (fun hg => (mvI rfl).does _) rfl ?_
      refine QL.gg (gwT rfl rfl) (fun hg => (eql (gs hg rfl) rfl).does _) rfl ?_
      refine QL.r (pickAnd rfl (fun hn => gs hn rfl)) rfl ?_
      refine QL.r (mvB rfl) rfl ?_
      refine QL.gg (gwT rfl rfl) (fun hg => (mvL rfl).does _) rfl ?_
      refine QL.gg (gwT rfl rfl) (fun hg => (len_sl (gs hg rfl)).does _) rfl ?_
      refine QL.gg (gwT rfl rfl) (fun hg => (eql (gs hg rfl) rfl).does _) rfl ?_
      refine QL.r (pickAnd rfl (fun hn => gs hn rfl)) rfl ?_
      refine QL.r (mvB rfl) rfl ?_
      refine QL.gg (gwT rfl rfl) (fun hg => (mvL rfl).does _) rfl ?_
      refine QL.gg (gwT rfl rfl) (fun hg => (len_sl (gs hg rfl)).does _) rfl ?_
      refine QL.gg (gwT rfl rfl) (fun hg => (eql (gs hg rfl) rfl).does _) rfl ?_
      refine QL.r (pickAnd rfl (fun hn => gs hn rfl)) rfl ?_
      refine QL.r (mvB rfl) rfl ?_
      refine QL.gg (gwT rfl rfl) (fun hg => (mvL rfl).does _) rfl ?_
      have hja : j = L1.length := by omega
      subst hja
      rw [List.take_length] at *
      have hga1 : ga.length = 1 := by rw [rows_length hra]; rfl
      have hgb1 : gb.length = 1 := by rw [rows_length hrb]; rfl
      obtain ⟨pa, rfl⟩ := hGa8.head.sl.isAddr (by decide) (show 0 < ga.length by omega)
      obtain ⟨pb, rfl⟩ := hGb8.head.sl.isAddr (by decide) (show 0 < gb.length by omega)
      have hea : ga[0].l = wantY L1 y := by
        have := congrArg (fun l => l[0]?) hra
        simpa [show 0 < ga.length by omega] using this
      have heb : gb[0].l = wantY L1 y := by
        have := congrArg (fun l => l[0]?) hrb
        simpa [show 0 < gb.length by omega] using this
      have hwl := wantY_le y hln
      have hK1 : ∀ w', Ext w10 w' → Ct Try.prog 23 #[.slice ga[0].a ga[0].l.length ga[0].c, .slice a8 (wantY L1 y).length c8] w' fun u w'' => u = .bool (decide (ga[0].l = wantY L1 y)) ∧ Ext w' w'' := fun w' hw' => rParts w' _ _ _ c8 ga[0].l _ ((hGa8.row 0 (by omega)).sl.ext (HB.ext hw')) (hW8.sl.ext hw') (by rw [hea]; omega)
      have hK2 : ∀ w', Ext w10 w' → Ct Try.prog 23 #[.slice gb[0].a gb[0].l.length gb[0].c, .slice a8 (wantY L1 y).length c8] w' fun u w'' => u = .bool (decide (gb[0].l = wantY L1 y)) ∧ Ext w' w'' := fun w' hw' => rParts w' _ _ _ c8 gb[0].l _ ((hGb8.row 0 (by omega)).sl.ext (HB.ext hw')) (hW8.sl.ext hw') (by rw [heb]; omega)
      refine QL.gg (gwT rfl rfl) (fun hg => (ix (gs hg rfl) rfl rfl (k := 0) (by omega)).does _) rfl ?_
      refine QL.gg (gwT rfl rfl) (fun hg => ld_e0 (gs hg rfl) hGa8.head.sl HB rfl (by omega) rfl) rfl ?_
      refine QL.gg (gwT rfl rfl) (fun hg => (mvL rfl).does _) rfl ?_
      -- call stagecoach/stagecoachref04.Parts (tmp 103) (tmp 104)
      refine QL.gcall (gwT rfl rfl) (fun hg w' hw' => hK1 w' hw') (fun hg => EvL.cons (gs hg rfl) (EvL.cons (gs hg rfl) (EvL.nil))) rfl ?_
      refine QL.r (pickAnd rfl (fun hn => gs hn rfl)) rfl ?_
      refine QL.r (mvB rfl) rfl ?_
      refine QL.gg (gwT rfl rfl) (fun hg => (mvL rfl).does _) rfl ?_
      refine QL.gg (gwT rfl rfl) (fun hg => (ix (gs hg rfl) rfl rfl (k := 0) (by omega)).does _) rfl ?_
      refine QL.gg (gwT rfl rfl) (fun hg => ld_e0 (gs hg rfl) hGb8.head.sl HB rfl (by omega) rfl) rfl ?_
      refine QL.gg (gwT rfl rfl) (fun hg => (mvL rfl).does _) rfl ?_
      -- call stagecoach/stagecoachref04.Parts (tmp 110) (tmp 111)
      refine QL.gcall (gwT rfl rfl) (fun hg w' hw' => hK2 w' hw') (fun hg => EvL.cons (gs hg rfl) (EvL.cons (gs hg rfl) (EvL.nil))) rfl ?_
      refine QL.r (pickAnd rfl (fun hn => gs hn rfl)) rfl ?_
      refine QL.r (mvB rfl) rfl ?_
      -- call stagecoach/stagecoachlaw10.fixed 
      refine QL.gcall (gwT rfl rfl) (fun hg w' hw' => lFixed' w') (fun hg => EvL.nil) rfl ?_
      refine QL.r (pickAnd rfl (fun hn => gs hn rfl)) rfl ?_
      refine QL.r (asgB rfl) rfl ?_
      refine QL.nil ?_; intro w19 hx; replace H := H.ext hx; replace hb1 := hb1.ext hx; replace HB := HB.ext hx
      refine WP.ret ?_
      refine fin1_ret rfl ⟨congrArg Value.bool (bT ⟨⟨⟨⟨⟨⟨hck1, hck1⟩, by rw [hga1]; rfl⟩, by rw [hgb1]; rfl⟩, hea⟩, heb⟩, trivial⟩).symm, H⟩
end Go.Proofs.Ytoebejfffakjpaa
