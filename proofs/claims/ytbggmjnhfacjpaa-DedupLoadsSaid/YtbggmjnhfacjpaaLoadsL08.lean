/-
  DedupLoads: the walk.
-/
import Derived.Test.YtbggmjnhfacjpaaLoads08
set_option linter.unusedVariables false
namespace Go.Proofs.Ytbggmjnhfacjpaa
open Go Go.Eng Go.RowKit
theorem pLoadS (w0 : World) (aE : Option Addr) (cE : Nat) (E0 : List Int) (hE0 : SlI w0 aE E0) (hE0l : E0.length ≤ 1000000) (aL : Option Addr) (cL : Nat) (l : List Maker) (hl : Sl w0 aL l) (hll : l.length ≤ 100000) (hrows : ∀ x ∈ l, Sl w0 x.la x.last ∧ x.last.length ≤ x.lc) :
    Ct Try.prog 9 #[.slice aE E0.length cE, .slice aL l.length cL] w0 fun v w' => (∃ (p : Option Addr) (e : Int), e = ldE E0 l ∧ v = .tuple #[.pointer p, .int .i64 e] ∧ (ldE E0 l = 0 → ∃ i Z, p = some ⟨i, 0, none⟩ ∧ Tg w0.heap.size w' i Z ⟨E0, l.map Maker.pl⟩) ∧ (ldE E0 l ≠ 0 → p = none)) ∧ Ext w0 w' :=
  (pLoadI w0 aE cE E0 hE0 hE0l aL cL l hl hll hrows).mono fun v w' ⟨⟨p, h1, h2⟩, hx⟩ => ⟨⟨p, _, rfl, h1, h2⟩, hx⟩
theorem rLoadS (w0 : World) (aE : Option Addr) (cE : Nat) (E0 : List Int) (hE0 : SlI w0 aE E0) (hE0l : E0.length ≤ 1000000) (aL : Option Addr) (cL : Nat) (l : List Maker) (hl : Sl w0 aL l) (hll : l.length ≤ 100000) (hrows : ∀ x ∈ l, Sl w0 x.la x.last ∧ x.last.length ≤ x.lc) (hlt : ∀ x ∈ l, x.part.topic.size ≤ 9223372036854775807) :
    Ct Try.prog 10 #[.slice aE E0.length cE, .slice aL l.length cL] w0 fun v w' => (∃ (p : Option Addr) (e : Int), e = ldE E0 l ∧ v = .tuple #[.pointer p, .int .i64 e] ∧ (ldE E0 l = 0 → ∃ i Y, p = some ⟨i, 0, none⟩ ∧ Tr w0.heap.size w' i Y ⟨E0, l.map Maker.pl⟩) ∧ (ldE E0 l ≠ 0 → p = none)) ∧ Ext w0 w' :=
  (rLoadI w0 aE cE E0 hE0 hE0l aL cL l hl hll hrows hlt).mono fun v w' ⟨⟨p, h1, h2⟩, hx⟩ => ⟨⟨p, _, rfl, h1, h2⟩, hx⟩
theorem lSameD (w0 : World) (B B' i k : Nat) (Z Y : Nat → Prop) (D : Ds) (hT : Tg B w0 i Z D) (hR : Tr B' w0 k Y D) (K : Int) (M : Nat) (hok : okD K M D) (hM0 : M ≤ 100000) :
    Ct Try.prog 17 #[.pointer (some ⟨i, 0, none⟩), .pointer (some ⟨k, 0, none⟩)] w0 fun v w' => v = .bool (decide (D.E = D.E)) ∧ Ext w0 w' :=
  (lSame w0 B B' i k Z Y D hT hR K M hok hM0).mono fun v w' ⟨⟨t, h1, h2⟩, hx⟩ => ⟨by rw [h2, h1]; simp, hx⟩
theorem topT_mk {E : List Int} {l : List Maker} (h : ∀ x ∈ l, x.part.topic.size ≤ 40) : topT ⟨E, l.map Maker.pl⟩ := by
  intro x hx
  obtain ⟨y, hy, rfl⟩ := List.mem_map.1 hx
  exact Nat.le_trans (h y hy) (by decide)
set_option maxRecDepth 20000 in
set_option maxHeartbeats 3200000 in
theorem lLoads (w0 : World) (aE : Option Addr) (cE : Nat) (E : List Int) (aL : Option Addr) (cL : Nat) (l : List Maker) (o : DOp) (hE : SlI w0 aE E) (hEc : E.length ≤ cE) (hl : SlI w0 aL l) (hb : ∀ x ∈ l, inMk w0 x) (ho : inOp w0 o) :
    Ct Try.prog 3 #[.slice aE E.length cE, .slice aL l.length cL, .agg (Lies.enc o).toArray] w0 fun v w' => v = .bool true ∧ Ext w0 w' := by
  refine Ct.intro1 Try.func3 Try.ntmps3 rfl rfl (by decide) rfl ?_
  have H : Ext w0 w0 := Ext.refl w0
  refine WP.regionS ?_
  refine RL.boxS w0.heap.size H.size rfl rfl ?_
  intro w1 i5 hi5 hx hb5
  replace H := H.ext hx; clear hx
  refine RL.r (asgB rfl) rfl ?_
  refine RL.nil ?_
  refine WP.regionS ?_
  refine RL.r (mvL rfl) rfl ?_
  refine RL.r (mvL rfl) rfl ?_
  refine RL.r (len_sl rfl) rfl ?_
  refine RL.r (min_i rfl rfl) rfl ?_
  refine RL.r (slcT (n := (E.take 40).length) rfl rfl (by rw [List.length_take]; omega) (by rw [List.length_take]; omega)) rfl ?_
  refine RL.build0 (α := Maker) w0.heap.size H.size rfl ?_
  intro w2 i29 hi29 hx hb29
  replace H := H.ext hx; replace hb5 := hb5.ext hx; clear hx
  refine RL.r (asgL rfl) rfl ?_
  refine RL.r (asgL rfl) rfl ?_
  refine RL.nil ?_
  refine WP.seq ?_
  refine WP.regionS ?_
  refine RL.r (asgI rfl) rfl ?_
  refine RL.nil ?_
  refine WP.block ?_
  refine WP.loop (fun k e' w' => ∃ j : Nat, ∃ (a8 : Option Addr) (c8 : Nat) (M : List Maker),  j + k = min l.length 30 ∧ Head [8, 9, 10, 30, 31, 32, 33, 34, 35, 36, 37, 38, 39, 40, 41, 42, 43, 44, 45, 46, 47, 48, 49, 50, 51, 52, 53, 54, 55, 56, 57, 58, 59, 60, 61, 62, 63, 64, 65, 66, 67, 68] _ [(8, .slice a8 M.length c8), (9, .int .i64 (j : Int))] e' ∧ Ext w0 w' ∧ Box w0.heap.size w' i5 30 (Lies.enc o) ∧ Own w0.heap.size w' 33 a8 c8 M ∧ OwnsD w0.heap.size w' M ∧ M.length = j ∧ (∀ x ∈ M, x.part.topic.size ≤ 40)) (min l.length 30)
    ⟨0, _, _, [], by omega, Head.intro (AgreeOff.refl _ _) ⟨rfl, rfl, trivial⟩, H, hb5, hb29, OwnsD.nil _ _, rfl, (fun x hx => by cases hx)⟩ ?_
  clear H hb5 hb29
  rintro k e w3 ⟨j, a8, c8, M, hjk, ⟨jk, rfl⟩, H, hb5, hM, hMO, hMl, hMt⟩
  refine WP.seq ?_
  refine WP.seq (WP.quiet ?_)
  refine QL.r (mvI rfl) rfl ?_
  refine QL.r (mvL rfl) rfl ?_
  refine QL.r (len_sl rfl) rfl ?_
  refine QL.r (lss rfl rfl) rfl ?_
  refine QL.r (mvB rfl) rfl ?_
  refine QL.gg (gwT rfl rfl) (fun hg => (mvI rfl).does _) rfl ?_
  refine QL.gg (gwT rfl rfl) (fun hg => (lss (gs hg rfl) rfl).does _) rfl ?_
  refine QL.r (pickAnd rfl (fun hn => gs hn rfl)) rfl ?_
  refine QL.nil ?_; intro w4 hx; replace H := H.ext hx; replace hb5 := hb5.ext hx; replace hM := hM.ext hx; replace hMO := hMO.ext hx
  refine WP.cond rfl (fun hc => ?_) (fun hc => ?_)
  · refine WP.skip ?_
    refine WP.seq ?_
    refine WP.block ?_
    refine WP.regionS ?_
    refine RL.r (mvL rfl) rfl ?_
    refine RL.r (mvI rfl) rfl ?_
    have hj : j < l.length := by omega
    have hin := hb l[j] (List.getElem_mem hj)
    have hl := hl (List.ne_nil_of_length_pos (by omega))
    have hMb := fun (k : Nat) (hk : inBlock a8 k) => (hM.blk hk).2
    refine RL.r (ix_o rfl rfl rfl hj (hl.someA (by decide) hj)) rfl ?_
    refine RL.m (ldS_o0 rfl hl H rfl rfl hj (by decide)) rfl ?_
    refine RL.alloc w0.heap.size H.size rfl rfl ?_
    intro w5 i10 hi10 hx hb10
    have ne5_10 := hb5.ne hi10
    refine RL.storeS rfl hb10 rfl rfl rfl rfl ?_
    intro w6 hu hb10
    replace hx := hx.box hu (Nat.le_of_eq hi10.symm)
    replace H := H.ext hx; replace hb5 := hb5.ext hx; replace hM := hM.ext hx; replace hMO := hMO.ext hx; clear hx hu
    refine RL.nil ?_
    refine WP.regionS ?_
    refine RL.r (fa_box rfl) rfl ?_
    refine RL.r (fa_box rfl) rfl ?_
    refine RL.m (ld_box rfl hb10 rfl) rfl ?_
    refine RL.r (fa_box rfl) rfl ?_
    refine RL.r (fa_box rfl) rfl ?_
    refine RL.m (ld_box rfl hb10 rfl) rfl ?_
    refine RL.r (len_str rfl) rfl ?_
    refine RL.r (min_i rfl rfl) rfl ?_
    refine RL.r (slcS (n := min l[j].part.topic.size 40) rfl rfl (by omega) (by omega)) rfl ?_
    refine RL.r (fa_box rfl) rfl ?_
    refine RL.r (fa_box rfl) rfl ?_
    have hb10_0 := hb10
    refine RL.store1 rfl hb10 rfl rfl rfl rfl ?_
    intro w7 hu hb10
    replace hM := hM.upd hu (fun j hj e => by have := hMb j hj; omega)
    replace hMO := hMO.bx hb10_0 (by decide) hu
    replace H := H.box hu hb10.old; replace hb5 := hb5.upd hu ne5_10
    refine RL.nil ?_
    refine WP.regionS ?_
    have hs7 := H.size
    have hMlt := fun (y : Maker) (hy : y ∈ M) (k : Nat) (hk : inBlock y.la k) => ((hMO.own y hy).blk hk).2
    refine RL.build0 (α := Did) w7.heap.size (Nat.le_refl _) rfl ?_
    intro w8 i55 hi55 hx hb55
    replace H := H.ext hx; replace hb5 := hb5.ext hx; replace hb10 := hb10.ext hx; replace hM := hM.ext hx; replace hMO := hMO.ext hx; clear hx
    refine RL.r (fa_box rfl) rfl ?_
    refine RL.m (ld_box rfl hb10 rfl) rfl ?_
    refine RL.r (fa_box rfl) rfl ?_
    refine RL.m (ld_box rfl hb10 rfl) rfl ?_
    refine RL.r (len_sl rfl) rfl ?_
    refine RL.r (min_i rfl rfl) rfl ?_
    refine RL.r (slcT (n := (l[j].last.take 8).length) rfl rfl (by rw [List.length_take]; omega) (by rw [List.length_take]; have := hin.2.1; omega)) rfl ?_
    have h8 : (l[j].last.take 8).length ≤ 8 := by rw [List.length_take]; omega
    refine RL.appendI rfl hb55 (by have h9 : i55 < w8.heap.size := (hb55.blk ⟨_, rfl, rfl⟩).2; omega) rfl (SlI.ext (SlI.pre hin.1 8) H) rfl rfl (by decide) rfl cell1 (by simp only [List.length_nil]; omega) (by simp only [List.length_nil, maxLen]; omega) rfl ?_
    intro w9 a63 c63 hu hb63 hfr63
    replace hb5 := boxow hb5 hb55 (by decide) hu
    replace hb10 := boxow hb10 hb55 (by decide) hu
    replace hM := hM.upd hu (fun j hj e => hM.apart hb55 (by decide) hj e)
    replace hMO := hMO.upd hu (fun x hx j hj e => by have h1 := hMlt x hx j hj; have h2 := (hb55.blk e).1; omega)
    replace H := Ext.own H (hb55.mono hs7) hu; clear hu
    rw [List.nil_append] at hb63 ⊢
    refine RL.r (fa_box rfl) rfl ?_
    have hb10_0 := hb10
    refine RL.store1 rfl hb10 rfl rfl rfl rfl ?_
    intro w10 hu hb10
    replace hM := hM.upd hu (fun j hj e => by have := hMb j hj; omega)
    replace hMO := hMO.bx hb10_0 (by decide) hu
    replace hb63 := hb63.upd hu (fun j hj e => hb63.box_apart hb10_0 (by decide) (e ▸ hj))
    replace H := H.box hu hb10.old; replace hb5 := hb5.upd hu ne5_10
    refine RL.nil ?_
    refine WP.region ?_
    refine RL.r (mvL rfl) rfl ?_
    refine RL.m (ldS_box rfl hb10 (Nat.le_of_ble_eq_true rfl) rfl) rfl ?_
    refine RL.buildSlice w0.heap.size H.size rfl rfl rfl rfl rfl ?_
    intro w11 i67 hi67 hx hb67
    replace H := H.ext hx; replace hb5 := hb5.ext hx; replace hb10 := hb10.ext hx; replace hM := hM.ext hx; replace hMO := hMO.ext hx; replace hb63 := hb63.ext hx; clear hx
    refine RL.appendS rfl hM H.size rfl (show Sl _ _ [(⟨l[j].id, l[j].epoch, cutP l[j].part, a63, c63, l[j].last.take 8⟩ : Maker)] from Box.sl1 hb67) rfl rfl (by decide) rfl cell1 (by omega) (by simp only [maxLen]; omega) rfl ?_
    intro w12 a68 c68 hu hb68 hfr68
    replace hb5 := boxow hb5 hM (by decide) hu
    replace hb10 := hb10.upd hu (fun h => by have h1 := hMb _ h; omega)
    replace hMO := hMO.ow hM (by decide) hu
    replace hb63 := hb63.upd hu (fun j hj e => hb63.apart hM (by decide) hj e)
    replace H := Ext.own H hM hu; clear hu
    have hsn := hMO.snoc (s := (⟨l[j].id, l[j].epoch, cutP l[j].part, a63, c63, l[j].last.take 8⟩ : Maker)) (hb63.mono hs7) (fun y hy k hk hk2 => by have h1 := hMlt y hy k hk; have h2 := (hb63.blk hk2).1; omega)
    refine RL.r (asgL rfl) rfl ?_
    refine RL.nil ?_
    refine WP.region ?_
    refine RL.r (mvI rfl) rfl ?_
    refine RL.r (add rfl rfl (by omega)) rfl ?_
    refine RL.r (asgI rfl) rfl ?_
    refine RL.nil ?_
    refine ⟨k - 1, by omega, j + 1, _, _, M ++ [(⟨l[j].id, l[j].epoch, cutP l[j].part, a63, c63, l[j].last.take 8⟩ : Maker)], by omega, Head.intro (by repeat (first | with_reducible exact AgreeOff.mix _ _ _ | refine AgreeOff.look rfl ?_ | refine AgreeOff.mixs rfl ?_)) ⟨rfl, rfl, trivial⟩, H, hb5, hb68, hsn, by rw [List.length_append, hMl]; rfl, fun x hx => ?_⟩
    rcases List.mem_append.1 hx with h | h
    · exact hMt x h
    · rw [List.mem_singleton.1 h]; exact cutP_le _
  · refine WP.exit ?_
    refine WP.regionS ?_
    refine RL.r (mvL rfl) rfl ?_
    refine RL.r (mvL rfl) rfl ?_
    -- call stagecoach/dedup.Load (tmp 70) (tmp 71)
    have hE0 : SlI w0 aE (E.take 40) := SlI.pre hE 40
    have h40 : (E.take 40).length ≤ 40 := by rw [List.length_take]; omega
    have hMl30 : M.length ≤ 30 := by omega
    have hsL := H.size
    refine RL.call (pLoadS _ aE cE (E.take 40) (SlI.ext hE0 H) (by omega) a8 c8 M hM.sl (by omega) (rows_of hMO)) rfl rfl ?_
    rintro v w13 ⟨⟨p1, e1, he1, rfl, hg1, hg0⟩, hx⟩
    replace H := H.ext hx; replace hb5 := hb5.ext hx; replace hM := hM.ext hx; replace hMO := hMO.ext hx
    have K1 := Ext.refl w13
    refine RL.r (mvU rfl) rfl ?_
    refine RL.r (ex0 rfl) rfl ?_
    refine RL.r (ex1 rfl) rfl ?_
    refine RL.r (asgP rfl) rfl ?_
    refine RL.r (asgI rfl) rfl ?_
    refine RL.nil ?_
    refine WP.regionS ?_
    refine RL.r (mvL rfl) rfl ?_
    refine RL.r (mvL rfl) rfl ?_
    -- call stagecoach/stagecoachref08.Load (tmp 76) (tmp 77)
    have hsP := H.size
    refine RL.call (rLoadS _ aE cE (E.take 40) (SlI.ext hE0 H) (by omega) a8 c8 M hM.sl (by omega) (rows_of hMO) (fun x hx => Nat.le_trans (hMt x hx) (by decide))) rfl rfl ?_
    rintro v w14 ⟨⟨p2, e2, he2, rfl, hr1, hr0⟩, hx⟩
    replace H := H.ext hx; replace hb5 := hb5.ext hx; replace hM := hM.ext hx; replace hMO := hMO.ext hx; replace K1 := K1.ext hx
    have K2 := Ext.refl w14
    refine RL.r (mvU rfl) rfl ?_
    refine RL.r (ex0 rfl) rfl ?_
    refine RL.r (ex1 rfl) rfl ?_
    refine RL.r (asgP rfl) rfl ?_
    refine RL.r (asgI rfl) rfl ?_
    refine RL.nil ?_
    refine WP.seq ?_
    refine WP.seq (WP.quiet ?_)
    refine QL.r (mvI rfl) rfl ?_
    refine QL.r (mvI rfl) rfl ?_
    refine QL.r (neq rfl rfl) rfl ?_
    refine QL.r (mvB rfl) rfl ?_
    refine QL.gg (gwF rfl rfl) (fun hg => (mvP rfl).does _) rfl ?_
    refine QL.gg (gwF rfl rfl) (fun hg => (peqn (gs hg rfl) rfl).does _) rfl ?_
    refine QL.gg (gwF rfl rfl) (fun hg => (mvP rfl).does _) rfl ?_
    refine QL.gg (gwF rfl rfl) (fun hg => (peqn (gs hg rfl) rfl).does _) rfl ?_
    refine QL.gg (gwF rfl rfl) (fun hg => (bneq (gs hg rfl) (gs hg rfl)).does _) rfl ?_
    refine QL.r (pickOr rfl (fun hn => gs hn rfl)) rfl ?_
    refine QL.nil ?_; intro w15 hx; replace H := H.ext hx; replace hb5 := hb5.ext hx; replace K1 := K1.ext hx; replace K2 := K2.ext hx
    refine WP.cond rfl (fun hc => ?_) (fun hc => ?_)
    · refine WP.regionS ?_
      refine RL.r (asgB rfl) rfl ?_
      refine RL.nil ?_
      refine WP.ret ?_
      have hbad : False := by
        rcases hc with hc | hc
        · exact hc (he1.trans he2.symm)
        · by_cases h0 : ldE (E.take 40) M = 0
          · obtain ⟨i, Z, rfl, _⟩ := hg1 h0
            obtain ⟨k, Y, rfl, _⟩ := hr1 h0
            exact hc (by simp)
          · exact hc (by rw [hg0 h0, hr0 h0])
      refine fin1_ret rfl ⟨hbad.elim, H⟩
    · refine WP.skip ?_
      refine WP.seq ?_
      refine WP.seq (WP.quiet ?_)
      refine QL.r (mvP rfl) rfl ?_
      refine QL.r (peqn rfl rfl) rfl ?_
      refine QL.r (mvB rfl) rfl ?_
      refine QL.gg (gwF rfl rfl) (fun hg => (mvP rfl).does _) rfl ?_
      refine QL.gg (gwF rfl rfl) (fun hg => (peqn (gs hg rfl) rfl).does _) rfl ?_
      refine QL.r (pickOr rfl (fun hn => gs hn rfl)) rfl ?_
      refine QL.nil ?_; intro w16 hx; replace H := H.ext hx; replace hb5 := hb5.ext hx; replace K1 := K1.ext hx; replace K2 := K2.ext hx
      refine WP.cond rfl (fun hc => ?_) (fun hc => ?_)
      · refine WP.regionS ?_
        -- call stagecoach/stagecoachlaw08.fixed 
        refine RL.call (lFixed _) rfl rfl ?_
        rintro _ w17 ⟨rfl, hx⟩
        replace H := H.ext hx; replace hb5 := hb5.ext hx; replace K1 := K1.ext hx; replace K2 := K2.ext hx
        refine RL.r (asgB rfl) rfl ?_
        refine RL.nil ?_
        refine WP.ret ?_
        refine fin1_ret rfl ⟨rfl, H⟩
      · refine WP.skip ?_
        refine WP.regionS ?_
        refine RL.r (fa_box rfl) rfl ?_
        refine RL.m (ldS_box rfl hb5 (Nat.le_of_ble_eq_true rfl) rfl) rfl ?_
        -- call stagecoach/stagecoachlaw03.Bound (tmp 99)
        have h0 : ldE (E.take 40) M = 0 := Classical.byContradiction fun h => hc (.inl (hg0 h))
        obtain ⟨it, Z, rfl, hT⟩ := hg1 h0
        obtain ⟨ir, Y, rfl, hR⟩ := hr1 h0
        have hA : Apt Z Y := fun k h1 h2 => by have h3 := (hT.old h1).2; have h4 := (hR.old h2).1; omega
        replace hT := (hT.ext K1).mono hsL
        replace hR := (hR.ext K2).mono hsP
        have hok : okD 2199023255552 M.length (⟨(E.take 40), M.map Maker.pl⟩ : Ds) := ldE_okD h0
        have htop : topT (⟨(E.take 40), M.map Maker.pl⟩ : Ds) := topT_mk hMt
        refine RL.call (lBound _ o.b (SlI.ext ho.1.1 H)) rfl rfl ?_
        rintro v w18 ⟨⟨bb, rfl, hbl⟩, hx⟩
        replace H := H.ext hx; replace hb5 := hb5.ext hx; replace K1 := K1.ext hx; replace K2 := K2.ext hx
        replace hT := hT.ext hx
        replace hR := hR.ext hx
        refine RL.alloc w0.heap.size H.size rfl rfl ?_
        intro w19 i15 hi15 hx hb15
        have ne5_15 := hb5.ne hi15
        refine RL.storeS rfl hb15 rfl rfl rfl rfl ?_
        intro w20 hu hb15
        replace hx := hx.box hu (Nat.le_of_eq hi15.symm)
        replace H := H.ext hx; replace hb5 := hb5.ext hx; replace hT := hT.ext hx; replace hR := hR.ext hx; clear hx hu
        refine RL.nil ?_
        refine WP.seq ?_
        refine WP.cutN (α := (Nat → Prop) × (Nat → Prop) × Int × Int) [16, 17, 101, 102, 103, 104, 105, 106, 107, 108, 109, 110, 111, 112, 113, 114] (fun y => [(16, .int .i64 y.2.2.1), (17, .int .i64 y.2.2.2)]) (fun y w' => Ext w0 w' ∧ Box w0.heap.size w' i5 30 (Lies.enc o) ∧ Box w0.heap.size w' i15 28 (Lies.enc bb) ∧ Tg w0.heap.size w' it y.1 (doneD (⟨(E.take 40), M.map Maker.pl⟩ : Ds) o.part bb o.off) ∧ Tr w0.heap.size w' ir y.2.1 (doneD (⟨(E.take 40), M.map Maker.pl⟩ : Ds) o.part bb o.off) ∧ Apt y.1 y.2.1 ∧ y.2.2.1 = doneE (⟨(E.take 40), M.map Maker.pl⟩ : Ds) o.part bb o.off ∧ y.2.2.2 = doneE (⟨(E.take 40), M.map Maker.pl⟩ : Ds) o.part bb o.off) ?_ ?_
        · refine WP.any ?_
          intro w21 hx; replace H := H.ext hx; replace hb5 := hb5.ext hx; replace hb15 := hb15.ext hx; replace hT := hT.ext hx; replace hR := hR.ext hx
          refine AL.p 0 (by kernel_rfl) rfl (mvP rfl) rfl ?_
          refine AL.p 1 (by kernel_rfl) rfl (fa_box rfl) rfl ?_
          refine AL.p 4 (by kernel_rfl) rfl (fa_box rfl) rfl ?_
          refine AL.p 7 (by kernel_rfl) rfl (mvP rfl) rfl ?_
          refine AL.p 8 (by kernel_rfl) rfl (fa_box rfl) rfl ?_
          refine AL.p 11 (by kernel_rfl) rfl (fa_box rfl) rfl ?_
          refine AL.m 2 (by kernel_rfl) rfl (ldS_box rfl hb5 (Nat.le_of_ble_eq_true rfl) rfl) rfl ?_
          refine AL.m 3 (by kernel_rfl) rfl (ldS_box rfl hb15 (Nat.le_of_ble_eq_true rfl) rfl) rfl ?_
          refine AL.m 5 (by kernel_rfl) rfl (ld_box rfl hb5 rfl) rfl ?_
          refine AL.all (rs := [6, 9, 10, 12]) (by kernel_rfl) rfl ?_
          rintro i hi; simp only [List.mem_cons, List.not_mem_nil, or_false] at hi; rcases hi with rfl | rfl | rfl | rfl
          · refine ⟨_, rfl, ?_⟩
            -- call (*stagecoach/dedup.Table).Done (tmp 101) (tmp 103) (tmp 104) (tmp 106)
            have hYl := fun (k : Nat) (hk : Y k) => (hR.old hk).2
            refine RL.call (pDone _ _ it Z _ hT _ _ hok (by decide) o.part bb o.off) rfl rfl ?_
            rintro _ w22 ⟨⟨rfl, Z2, hT2, hgr⟩, hx⟩
            replace H := ext_z H hT (Nat.le_refl _) hx; replace hb5 := box_z hb5 hT (by decide) (by decide) (by decide) hx; replace hb15 := box_z hb15 hT (by decide) (by decide) (by decide) hx; replace hR := hR.upd hx (fun j hj hz => hA j hz hj)
            replace hA := hA.grew hgr hYl
            replace hT := hT2; clear hT2
            refine RL.nil ?_
            refine AL.m 9 (by kernel_rfl) rfl (ldS_box rfl hb5 (Nat.le_of_ble_eq_true rfl) rfl) rfl ?_
            refine AL.m 10 (by kernel_rfl) rfl (ldS_box rfl hb15 (Nat.le_of_ble_eq_true rfl) rfl) rfl ?_
            refine AL.m 12 (by kernel_rfl) rfl (ld_box rfl hb5 rfl) rfl ?_
            refine AL.o 13 (by kernel_rfl) rfl ?_
            -- call (*stagecoach/stagecoachref08.Table).Done (tmp 108) (tmp 110) (tmp 111) (tmp 113)
            have hZl := fun (k : Nat) (hk : Z2 k) => (hT.old hk).2
            refine RL.call (rDone _ _ ir Y _ hR _ _ hok (by decide) (by omega) htop o.part ho.2 bb o.off (by omega)) rfl rfl ?_
            rintro _ w23 ⟨⟨rfl, Y2, hR2, hgr⟩, hx⟩
            replace H := ext_y H hR (Nat.le_refl _) hx; replace hb5 := box_y hb5 hR (by decide) (by decide) (by decide) (by decide) hx; replace hb15 := box_y hb15 hR (by decide) (by decide) (by decide) (by decide) hx; replace hT := hT.upd hx (fun j hj hy => hA j hj hy)
            replace hA := (hA.symm.grew hgr hZl).symm
            replace hR := hR2; clear hR2
            refine RL.nil ?_
            refine AL.p 14 (by kernel_rfl) rfl (asgI rfl) rfl ?_
            refine AL.p 15 (by kernel_rfl) rfl (asgI rfl) rfl ?_
            refine AL.nil (by kernel_rfl) ?_
            refine ⟨(Z2, Y2, _, _), Head.intro (by repeat (first | with_reducible exact AgreeOff.refl _ _ | with_reducible exact AgreeOff.mix _ _ _ | refine AgreeOff.look rfl ?_ | refine AgreeOff.mixs rfl ?_)) ⟨rfl, rfl, trivial⟩, H, hb5, hb15, hT, hR, hA, rfl, rfl⟩
          · refine ⟨_, rfl, ?_⟩
            refine RL.m (ldS_box rfl hb5 (Nat.le_of_ble_eq_true rfl) rfl) rfl ?_
            refine RL.nil ?_
            refine AL.all (rs := [6, 10, 12]) (by kernel_rfl) rfl ?_
            rintro i hi; simp only [List.mem_cons, List.not_mem_nil, or_false] at hi; rcases hi with rfl | rfl | rfl
            · refine ⟨_, rfl, ?_⟩
              -- call (*stagecoach/dedup.Table).Done (tmp 101) (tmp 103) (tmp 104) (tmp 106)
              have hYl := fun (k : Nat) (hk : Y k) => (hR.old hk).2
              refine RL.call (pDone _ _ it Z _ hT _ _ hok (by decide) o.part bb o.off) rfl rfl ?_
              rintro _ w24 ⟨⟨rfl, Z2, hT2, hgr⟩, hx⟩
              replace H := ext_z H hT (Nat.le_refl _) hx; replace hb5 := box_z hb5 hT (by decide) (by decide) (by decide) hx; replace hb15 := box_z hb15 hT (by decide) (by decide) (by decide) hx; replace hR := hR.upd hx (fun j hj hz => hA j hz hj)
              replace hA := hA.grew hgr hYl
              replace hT := hT2; clear hT2
              refine RL.nil ?_
              refine AL.m 10 (by kernel_rfl) rfl (ldS_box rfl hb15 (Nat.le_of_ble_eq_true rfl) rfl) rfl ?_
              refine AL.m 12 (by kernel_rfl) rfl (ld_box rfl hb5 rfl) rfl ?_
              refine AL.o 13 (by kernel_rfl) rfl ?_
              -- call (*stagecoach/stagecoachref08.Table).Done (tmp 108) (tmp 110) (tmp 111) (tmp 113)
              have hZl := fun (k : Nat) (hk : Z2 k) => (hT.old hk).2
              refine RL.call (rDone _ _ ir Y _ hR _ _ hok (by decide) (by omega) htop o.part ho.2 bb o.off (by omega)) rfl rfl ?_
              rintro _ w25 ⟨⟨rfl, Y2, hR2, hgr⟩, hx⟩
              replace H := ext_y H hR (Nat.le_refl _) hx; replace hb5 := box_y hb5 hR (by decide) (by decide) (by decide) (by decide) hx; replace hb15 := box_y hb15 hR (by decide) (by decide) (by decide) (by decide) hx; replace hT := hT.upd hx (fun j hj hy => hA j hj hy)
              replace hA := (hA.symm.grew hgr hZl).symm
              replace hR := hR2; clear hR2
              refine RL.nil ?_
              refine AL.p 14 (by kernel_rfl) rfl (asgI rfl) rfl ?_
              refine AL.p 15 (by kernel_rfl) rfl (asgI rfl) rfl ?_
              refine AL.nil (by kernel_rfl) ?_
              refine ⟨(Z2, Y2, _, _), Head.intro (by repeat (first | with_reducible exact AgreeOff.refl _ _ | with_reducible exact AgreeOff.mix _ _ _ | refine AgreeOff.look rfl ?_ | refine AgreeOff.mixs rfl ?_)) ⟨rfl, rfl, trivial⟩, H, hb5, hb15, hT, hR, hA, rfl, rfl⟩
            · refine ⟨_, rfl, ?_⟩
              refine RL.m (ldS_box rfl hb15 (Nat.le_of_ble_eq_true rfl) rfl) rfl ?_
              refine RL.nil ?_
              refine AL.all (rs := [6, 12]) (by kernel_rfl) rfl ?_
              rintro i hi; simp only [List.mem_cons, List.not_mem_nil, or_false] at hi; rcases hi with rfl | rfl
              · refine ⟨_, rfl, ?_⟩
                -- call (*stagecoach/dedup.Table).Done (tmp 101) (tmp 103) (tmp 104) (tmp 106)
                have hYl := fun (k : Nat) (hk : Y k) => (hR.old hk).2
                refine RL.call (pDone _ _ it Z _ hT _ _ hok (by decide) o.part bb o.off) rfl rfl ?_
                rintro _ w26 ⟨⟨rfl, Z2, hT2, hgr⟩, hx⟩
                replace H := ext_z H hT (Nat.le_refl _) hx; replace hb5 := box_z hb5 hT (by decide) (by decide) (by decide) hx; replace hb15 := box_z hb15 hT (by decide) (by decide) (by decide) hx; replace hR := hR.upd hx (fun j hj hz => hA j hz hj)
                replace hA := hA.grew hgr hYl
                replace hT := hT2; clear hT2
                refine RL.nil ?_
                refine AL.m 12 (by kernel_rfl) rfl (ld_box rfl hb5 rfl) rfl ?_
                refine AL.o 13 (by kernel_rfl) rfl ?_
                -- call (*stagecoach/stagecoachref08.Table).Done (tmp 108) (tmp 110) (tmp 111) (tmp 113)
                have hZl := fun (k : Nat) (hk : Z2 k) => (hT.old hk).2
                refine RL.call (rDone _ _ ir Y _ hR _ _ hok (by decide) (by omega) htop o.part ho.2 bb o.off (by omega)) rfl rfl ?_
                rintro _ w27 ⟨⟨rfl, Y2, hR2, hgr⟩, hx⟩
                replace H := ext_y H hR (Nat.le_refl _) hx; replace hb5 := box_y hb5 hR (by decide) (by decide) (by decide) (by decide) hx; replace hb15 := box_y hb15 hR (by decide) (by decide) (by decide) (by decide) hx; replace hT := hT.upd hx (fun j hj hy => hA j hj hy)
                replace hA := (hA.symm.grew hgr hZl).symm
                replace hR := hR2; clear hR2
                refine RL.nil ?_
                refine AL.p 14 (by kernel_rfl) rfl (asgI rfl) rfl ?_
                refine AL.p 15 (by kernel_rfl) rfl (asgI rfl) rfl ?_
                refine AL.nil (by kernel_rfl) ?_
                refine ⟨(Z2, Y2, _, _), Head.intro (by repeat (first | with_reducible exact AgreeOff.refl _ _ | with_reducible exact AgreeOff.mix _ _ _ | refine AgreeOff.look rfl ?_ | refine AgreeOff.mixs rfl ?_)) ⟨rfl, rfl, trivial⟩, H, hb5, hb15, hT, hR, hA, rfl, rfl⟩
              · refine ⟨_, rfl, ?_⟩
                refine RL.m (ld_box rfl hb5 rfl) rfl ?_
                refine RL.nil ?_
                refine AL.o 6 (by kernel_rfl) rfl ?_
                -- call (*stagecoach/dedup.Table).Done (tmp 101) (tmp 103) (tmp 104) (tmp 106)
                have hYl := fun (k : Nat) (hk : Y k) => (hR.old hk).2
                refine RL.call (pDone _ _ it Z _ hT _ _ hok (by decide) o.part bb o.off) rfl rfl ?_
                rintro _ w28 ⟨⟨rfl, Z2, hT2, hgr⟩, hx⟩
                replace H := ext_z H hT (Nat.le_refl _) hx; replace hb5 := box_z hb5 hT (by decide) (by decide) (by decide) hx; replace hb15 := box_z hb15 hT (by decide) (by decide) (by decide) hx; replace hR := hR.upd hx (fun j hj hz => hA j hz hj)
                replace hA := hA.grew hgr hYl
                replace hT := hT2; clear hT2
                refine RL.nil ?_
                refine AL.o 13 (by kernel_rfl) rfl ?_
                -- call (*stagecoach/stagecoachref08.Table).Done (tmp 108) (tmp 110) (tmp 111) (tmp 113)
                have hZl := fun (k : Nat) (hk : Z2 k) => (hT.old hk).2
                refine RL.call (rDone _ _ ir Y _ hR _ _ hok (by decide) (by omega) htop o.part ho.2 bb o.off (by omega)) rfl rfl ?_
                rintro _ w29 ⟨⟨rfl, Y2, hR2, hgr⟩, hx⟩
                replace H := ext_y H hR (Nat.le_refl _) hx; replace hb5 := box_y hb5 hR (by decide) (by decide) (by decide) (by decide) hx; replace hb15 := box_y hb15 hR (by decide) (by decide) (by decide) (by decide) hx; replace hT := hT.upd hx (fun j hj hy => hA j hj hy)
                replace hA := (hA.symm.grew hgr hZl).symm
                replace hR := hR2; clear hR2
                refine RL.nil ?_
                refine AL.p 14 (by kernel_rfl) rfl (asgI rfl) rfl ?_
                refine AL.p 15 (by kernel_rfl) rfl (asgI rfl) rfl ?_
                refine AL.nil (by kernel_rfl) ?_
                refine ⟨(Z2, Y2, _, _), Head.intro (by repeat (first | with_reducible exact AgreeOff.refl _ _ | with_reducible exact AgreeOff.mix _ _ _ | refine AgreeOff.look rfl ?_ | refine AgreeOff.mixs rfl ?_)) ⟨rfl, rfl, trivial⟩, H, hb5, hb15, hT, hR, hA, rfl, rfl⟩
            · refine ⟨_, rfl, ?_⟩
              refine RL.m (ld_box rfl hb5 rfl) rfl ?_
              refine RL.nil ?_
              refine AL.all (rs := [6, 10]) (by kernel_rfl) rfl ?_
              rintro i hi; simp only [List.mem_cons, List.not_mem_nil, or_false] at hi; rcases hi with rfl | rfl
              · refine ⟨_, rfl, ?_⟩
                -- call (*stagecoach/dedup.Table).Done (tmp 101) (tmp 103) (tmp 104) (tmp 106)
                have hYl := fun (k : Nat) (hk : Y k) => (hR.old hk).2
                refine RL.call (pDone _ _ it Z _ hT _ _ hok (by decide) o.part bb o.off) rfl rfl ?_
                rintro _ w30 ⟨⟨rfl, Z2, hT2, hgr⟩, hx⟩
                replace H := ext_z H hT (Nat.le_refl _) hx; replace hb5 := box_z hb5 hT (by decide) (by decide) (by decide) hx; replace hb15 := box_z hb15 hT (by decide) (by decide) (by decide) hx; replace hR := hR.upd hx (fun j hj hz => hA j hz hj)
                replace hA := hA.grew hgr hYl
                replace hT := hT2; clear hT2
                refine RL.nil ?_
                refine AL.m 10 (by kernel_rfl) rfl (ldS_box rfl hb15 (Nat.le_of_ble_eq_true rfl) rfl) rfl ?_
                refine AL.o 13 (by kernel_rfl) rfl ?_
                -- call (*stagecoach/stagecoachref08.Table).Done (tmp 108) (tmp 110) (tmp 111) (tmp 113)
                have hZl := fun (k : Nat) (hk : Z2 k) => (hT.old hk).2
                refine RL.call (rDone _ _ ir Y _ hR _ _ hok (by decide) (by omega) htop o.part ho.2 bb o.off (by omega)) rfl rfl ?_
                rintro _ w31 ⟨⟨rfl, Y2, hR2, hgr⟩, hx⟩
                replace H := ext_y H hR (Nat.le_refl _) hx; replace hb5 := box_y hb5 hR (by decide) (by decide) (by decide) (by decide) hx; replace hb15 := box_y hb15 hR (by decide) (by decide) (by decide) (by decide) hx; replace hT := hT.upd hx (fun j hj hy => hA j hj hy)
                replace hA := (hA.symm.grew hgr hZl).symm
                replace hR := hR2; clear hR2
                refine RL.nil ?_
                refine AL.p 14 (by kernel_rfl) rfl (asgI rfl) rfl ?_
                refine AL.p 15 (by kernel_rfl) rfl (asgI rfl) rfl ?_
                refine AL.nil (by kernel_rfl) ?_
                refine ⟨(Z2, Y2, _, _), Head.intro (by repeat (first | with_reducible exact AgreeOff.refl _ _ | with_reducible exact AgreeOff.mix _ _ _ | refine AgreeOff.look rfl ?_ | refine AgreeOff.mixs rfl ?_)) ⟨rfl, rfl, trivial⟩, H, hb5, hb15, hT, hR, hA, rfl, rfl⟩
              · refine ⟨_, rfl, ?_⟩
                refine RL.m (ldS_box rfl hb15 (Nat.le_of_ble_eq_true rfl) rfl) rfl ?_
                refine RL.nil ?_
                refine AL.o 6 (by kernel_rfl) rfl ?_
                -- call (*stagecoach/dedup.Table).Done (tmp 101) (tmp 103) (tmp 104) (tmp 106)
                have hYl := fun (k : Nat) (hk : Y k) => (hR.old hk).2
                refine RL.call (pDone _ _ it Z _ hT _ _ hok (by decide) o.part bb o.off) rfl rfl ?_
                rintro _ w32 ⟨⟨rfl, Z2, hT2, hgr⟩, hx⟩
                replace H := ext_z H hT (Nat.le_refl _) hx; replace hb5 := box_z hb5 hT (by decide) (by decide) (by decide) hx; replace hb15 := box_z hb15 hT (by decide) (by decide) (by decide) hx; replace hR := hR.upd hx (fun j hj hz => hA j hz hj)
                replace hA := hA.grew hgr hYl
                replace hT := hT2; clear hT2
                refine RL.nil ?_
                refine AL.o 13 (by kernel_rfl) rfl ?_
                -- call (*stagecoach/stagecoachref08.Table).Done (tmp 108) (tmp 110) (tmp 111) (tmp 113)
                have hZl := fun (k : Nat) (hk : Z2 k) => (hT.old hk).2
                refine RL.call (rDone _ _ ir Y _ hR _ _ hok (by decide) (by omega) htop o.part ho.2 bb o.off (by omega)) rfl rfl ?_
                rintro _ w33 ⟨⟨rfl, Y2, hR2, hgr⟩, hx⟩
                replace H := ext_y H hR (Nat.le_refl _) hx; replace hb5 := box_y hb5 hR (by decide) (by decide) (by decide) (by decide) hx; replace hb15 := box_y hb15 hR (by decide) (by decide) (by decide) (by decide) hx; replace hT := hT.upd hx (fun j hj hy => hA j hj hy)
                replace hA := (hA.symm.grew hgr hZl).symm
                replace hR := hR2; clear hR2
                refine RL.nil ?_
                refine AL.p 14 (by kernel_rfl) rfl (asgI rfl) rfl ?_
                refine AL.p 15 (by kernel_rfl) rfl (asgI rfl) rfl ?_
                refine AL.nil (by kernel_rfl) ?_
                refine ⟨(Z2, Y2, _, _), Head.intro (by repeat (first | with_reducible exact AgreeOff.refl _ _ | with_reducible exact AgreeOff.mix _ _ _ | refine AgreeOff.look rfl ?_ | refine AgreeOff.mixs rfl ?_)) ⟨rfl, rfl, trivial⟩, H, hb5, hb15, hT, hR, hA, rfl, rfl⟩
          · refine ⟨_, rfl, ?_⟩
            refine RL.m (ldS_box rfl hb15 (Nat.le_of_ble_eq_true rfl) rfl) rfl ?_
            refine RL.nil ?_
            refine AL.all (rs := [6, 9, 12]) (by kernel_rfl) rfl ?_
            rintro i hi; simp only [List.mem_cons, List.not_mem_nil, or_false] at hi; rcases hi with rfl | rfl | rfl
            · refine ⟨_, rfl, ?_⟩
              -- call (*stagecoach/dedup.Table).Done (tmp 101) (tmp 103) (tmp 104) (tmp 106)
              have hYl := fun (k : Nat) (hk : Y k) => (hR.old hk).2
              refine RL.call (pDone _ _ it Z _ hT _ _ hok (by decide) o.part bb o.off) rfl rfl ?_
              rintro _ w34 ⟨⟨rfl, Z2, hT2, hgr⟩, hx⟩
              replace H := ext_z H hT (Nat.le_refl _) hx; replace hb5 := box_z hb5 hT (by decide) (by decide) (by decide) hx; replace hb15 := box_z hb15 hT (by decide) (by decide) (by decide) hx; replace hR := hR.upd hx (fun j hj hz => hA j hz hj)
              replace hA := hA.grew hgr hYl
              replace hT := hT2; clear hT2
              refine RL.nil ?_
              refine AL.m 9 (by kernel_rfl) rfl (ldS_box rfl hb5 (Nat.le_of_ble_eq_true rfl) rfl) rfl ?_
              refine AL.m 12 (by kernel_rfl) rfl (ld_box rfl hb5 rfl) rfl ?_
              refine AL.o 13 (by kernel_rfl) rfl ?_
              -- call (*stagecoach/stagecoachref08.Table).Done (tmp 108) (tmp 110) (tmp 111) (tmp 113)
              have hZl := fun (k : Nat) (hk : Z2 k) => (hT.old hk).2
              refine RL.call (rDone _ _ ir Y _ hR _ _ hok (by decide) (by omega) htop o.part ho.2 bb o.off (by omega)) rfl rfl ?_
              rintro _ w35 ⟨⟨rfl, Y2, hR2, hgr⟩, hx⟩
              replace H := ext_y H hR (Nat.le_refl _) hx; replace hb5 := box_y hb5 hR (by decide) (by decide) (by decide) (by decide) hx; replace hb15 := box_y hb15 hR (by decide) (by decide) (by decide) (by decide) hx; replace hT := hT.upd hx (fun j hj hy => hA j hj hy)
              replace hA := (hA.symm.grew hgr hZl).symm
              replace hR := hR2; clear hR2
              refine RL.nil ?_
              refine AL.p 14 (by kernel_rfl) rfl (asgI rfl) rfl ?_
              refine AL.p 15 (by kernel_rfl) rfl (asgI rfl) rfl ?_
              refine AL.nil (by kernel_rfl) ?_
              refine ⟨(Z2, Y2, _, _), Head.intro (by repeat (first | with_reducible exact AgreeOff.refl _ _ | with_reducible exact AgreeOff.mix _ _ _ | refine AgreeOff.look rfl ?_ | refine AgreeOff.mixs rfl ?_)) ⟨rfl, rfl, trivial⟩, H, hb5, hb15, hT, hR, hA, rfl, rfl⟩
            · refine ⟨_, rfl, ?_⟩
              refine RL.m (ldS_box rfl hb5 (Nat.le_of_ble_eq_true rfl) rfl) rfl ?_
              refine RL.nil ?_
              refine AL.all (rs := [6, 12]) (by kernel_rfl) rfl ?_
              rintro i hi; simp only [List.mem_cons, List.not_mem_nil, or_false] at hi; rcases hi with rfl | rfl
              · refine ⟨_, rfl, ?_⟩
                -- call (*stagecoach/dedup.Table).Done (tmp 101) (tmp 103) (tmp 104) (tmp 106)
                have hYl := fun (k : Nat) (hk : Y k) => (hR.old hk).2
                refine RL.call (pDone _ _ it Z _ hT _ _ hok (by decide) o.part bb o.off) rfl rfl ?_
                rintro _ w36 ⟨⟨rfl, Z2, hT2, hgr⟩, hx⟩
                replace H := ext_z H hT (Nat.le_refl _) hx; replace hb5 := box_z hb5 hT (by decide) (by decide) (by decide) hx; replace hb15 := box_z hb15 hT (by decide) (by decide) (by decide) hx; replace hR := hR.upd hx (fun j hj hz => hA j hz hj)
                replace hA := hA.grew hgr hYl
                replace hT := hT2; clear hT2
                refine RL.nil ?_
                refine AL.m 12 (by kernel_rfl) rfl (ld_box rfl hb5 rfl) rfl ?_
                refine AL.o 13 (by kernel_rfl) rfl ?_
                -- call (*stagecoach/stagecoachref08.Table).Done (tmp 108) (tmp 110) (tmp 111) (tmp 113)
                have hZl := fun (k : Nat) (hk : Z2 k) => (hT.old hk).2
                refine RL.call (rDone _ _ ir Y _ hR _ _ hok (by decide) (by omega) htop o.part ho.2 bb o.off (by omega)) rfl rfl ?_
                rintro _ w37 ⟨⟨rfl, Y2, hR2, hgr⟩, hx⟩
                replace H := ext_y H hR (Nat.le_refl _) hx; replace hb5 := box_y hb5 hR (by decide) (by decide) (by decide) (by decide) hx; replace hb15 := box_y hb15 hR (by decide) (by decide) (by decide) (by decide) hx; replace hT := hT.upd hx (fun j hj hy => hA j hj hy)
                replace hA := (hA.symm.grew hgr hZl).symm
                replace hR := hR2; clear hR2
                refine RL.nil ?_
                refine AL.p 14 (by kernel_rfl) rfl (asgI rfl) rfl ?_
                refine AL.p 15 (by kernel_rfl) rfl (asgI rfl) rfl ?_
                refine AL.nil (by kernel_rfl) ?_
                refine ⟨(Z2, Y2, _, _), Head.intro (by repeat (first | with_reducible exact AgreeOff.refl _ _ | with_reducible exact AgreeOff.mix _ _ _ | refine AgreeOff.look rfl ?_ | refine AgreeOff.mixs rfl ?_)) ⟨rfl, rfl, trivial⟩, H, hb5, hb15, hT, hR, hA, rfl, rfl⟩
              · refine ⟨_, rfl, ?_⟩
                refine RL.m (ld_box rfl hb5 rfl) rfl ?_
                refine RL.nil ?_
                refine AL.o 6 (by kernel_rfl) rfl ?_
                -- call (*stagecoach/dedup.Table).Done (tmp 101) (tmp 103) (tmp 104) (tmp 106)
                have hYl := fun (k : Nat) (hk : Y k) => (hR.old hk).2
                refine RL.call (pDone _ _ it Z _ hT _ _ hok (by decide) o.part bb o.off) rfl rfl ?_
                rintro _ w38 ⟨⟨rfl, Z2, hT2, hgr⟩, hx⟩
                replace H := ext_z H hT (Nat.le_refl _) hx; replace hb5 := box_z hb5 hT (by decide) (by decide) (by decide) hx; replace hb15 := box_z hb15 hT (by decide) (by decide) (by decide) hx; replace hR := hR.upd hx (fun j hj hz => hA j hz hj)
                replace hA := hA.grew hgr hYl
                replace hT := hT2; clear hT2
                refine RL.nil ?_
                refine AL.o 13 (by kernel_rfl) rfl ?_
                -- call (*stagecoach/stagecoachref08.Table).Done (tmp 108) (tmp 110) (tmp 111) (tmp 113)
                have hZl := fun (k : Nat) (hk : Z2 k) => (hT.old hk).2
                refine RL.call (rDone _ _ ir Y _ hR _ _ hok (by decide) (by omega) htop o.part ho.2 bb o.off (by omega)) rfl rfl ?_
                rintro _ w39 ⟨⟨rfl, Y2, hR2, hgr⟩, hx⟩
                replace H := ext_y H hR (Nat.le_refl _) hx; replace hb5 := box_y hb5 hR (by decide) (by decide) (by decide) (by decide) hx; replace hb15 := box_y hb15 hR (by decide) (by decide) (by decide) (by decide) hx; replace hT := hT.upd hx (fun j hj hy => hA j hj hy)
                replace hA := (hA.symm.grew hgr hZl).symm
                replace hR := hR2; clear hR2
                refine RL.nil ?_
                refine AL.p 14 (by kernel_rfl) rfl (asgI rfl) rfl ?_
                refine AL.p 15 (by kernel_rfl) rfl (asgI rfl) rfl ?_
                refine AL.nil (by kernel_rfl) ?_
                refine ⟨(Z2, Y2, _, _), Head.intro (by repeat (first | with_reducible exact AgreeOff.refl _ _ | with_reducible exact AgreeOff.mix _ _ _ | refine AgreeOff.look rfl ?_ | refine AgreeOff.mixs rfl ?_)) ⟨rfl, rfl, trivial⟩, H, hb5, hb15, hT, hR, hA, rfl, rfl⟩
            · refine ⟨_, rfl, ?_⟩
              refine RL.m (ld_box rfl hb5 rfl) rfl ?_
              refine RL.nil ?_
              refine AL.all (rs := [6, 9]) (by kernel_rfl) rfl ?_
              rintro i hi; simp only [List.mem_cons, List.not_mem_nil, or_false] at hi; rcases hi with rfl | rfl
              · refine ⟨_, rfl, ?_⟩
                -- call (*stagecoach/dedup.Table).Done (tmp 101) (tmp 103) (tmp 104) (tmp 106)
                have hYl := fun (k : Nat) (hk : Y k) => (hR.old hk).2
                refine RL.call (pDone _ _ it Z _ hT _ _ hok (by decide) o.part bb o.off) rfl rfl ?_
                rintro _ w40 ⟨⟨rfl, Z2, hT2, hgr⟩, hx⟩
                replace H := ext_z H hT (Nat.le_refl _) hx; replace hb5 := box_z hb5 hT (by decide) (by decide) (by decide) hx; replace hb15 := box_z hb15 hT (by decide) (by decide) (by decide) hx; replace hR := hR.upd hx (fun j hj hz => hA j hz hj)
                replace hA := hA.grew hgr hYl
                replace hT := hT2; clear hT2
                refine RL.nil ?_
                refine AL.m 9 (by kernel_rfl) rfl (ldS_box rfl hb5 (Nat.le_of_ble_eq_true rfl) rfl) rfl ?_
                refine AL.o 13 (by kernel_rfl) rfl ?_
                -- call (*stagecoach/stagecoachref08.Table).Done (tmp 108) (tmp 110) (tmp 111) (tmp 113)
                have hZl := fun (k : Nat) (hk : Z2 k) => (hT.old hk).2
                refine RL.call (rDone _ _ ir Y _ hR _ _ hok (by decide) (by omega) htop o.part ho.2 bb o.off (by omega)) rfl rfl ?_
                rintro _ w41 ⟨⟨rfl, Y2, hR2, hgr⟩, hx⟩
                replace H := ext_y H hR (Nat.le_refl _) hx; replace hb5 := box_y hb5 hR (by decide) (by decide) (by decide) (by decide) hx; replace hb15 := box_y hb15 hR (by decide) (by decide) (by decide) (by decide) hx; replace hT := hT.upd hx (fun j hj hy => hA j hj hy)
                replace hA := (hA.symm.grew hgr hZl).symm
                replace hR := hR2; clear hR2
                refine RL.nil ?_
                refine AL.p 14 (by kernel_rfl) rfl (asgI rfl) rfl ?_
                refine AL.p 15 (by kernel_rfl) rfl (asgI rfl) rfl ?_
                refine AL.nil (by kernel_rfl) ?_
                refine ⟨(Z2, Y2, _, _), Head.intro (by repeat (first | with_reducible exact AgreeOff.refl _ _ | with_reducible exact AgreeOff.mix _ _ _ | refine AgreeOff.look rfl ?_ | refine AgreeOff.mixs rfl ?_)) ⟨rfl, rfl, trivial⟩, H, hb5, hb15, hT, hR, hA, rfl, rfl⟩
              · refine ⟨_, rfl, ?_⟩
                refine RL.m (ldS_box rfl hb5 (Nat.le_of_ble_eq_true rfl) rfl) rfl ?_
                refine RL.nil ?_
                refine AL.o 6 (by kernel_rfl) rfl ?_
                -- call (*stagecoach/dedup.Table).Done (tmp 101) (tmp 103) (tmp 104) (tmp 106)
                have hYl := fun (k : Nat) (hk : Y k) => (hR.old hk).2
                refine RL.call (pDone _ _ it Z _ hT _ _ hok (by decide) o.part bb o.off) rfl rfl ?_
                rintro _ w42 ⟨⟨rfl, Z2, hT2, hgr⟩, hx⟩
                replace H := ext_z H hT (Nat.le_refl _) hx; replace hb5 := box_z hb5 hT (by decide) (by decide) (by decide) hx; replace hb15 := box_z hb15 hT (by decide) (by decide) (by decide) hx; replace hR := hR.upd hx (fun j hj hz => hA j hz hj)
                replace hA := hA.grew hgr hYl
                replace hT := hT2; clear hT2
                refine RL.nil ?_
                refine AL.o 13 (by kernel_rfl) rfl ?_
                -- call (*stagecoach/stagecoachref08.Table).Done (tmp 108) (tmp 110) (tmp 111) (tmp 113)
                have hZl := fun (k : Nat) (hk : Z2 k) => (hT.old hk).2
                refine RL.call (rDone _ _ ir Y _ hR _ _ hok (by decide) (by omega) htop o.part ho.2 bb o.off (by omega)) rfl rfl ?_
                rintro _ w43 ⟨⟨rfl, Y2, hR2, hgr⟩, hx⟩
                replace H := ext_y H hR (Nat.le_refl _) hx; replace hb5 := box_y hb5 hR (by decide) (by decide) (by decide) (by decide) hx; replace hb15 := box_y hb15 hR (by decide) (by decide) (by decide) (by decide) hx; replace hT := hT.upd hx (fun j hj hy => hA j hj hy)
                replace hA := (hA.symm.grew hgr hZl).symm
                replace hR := hR2; clear hR2
                refine RL.nil ?_
                refine AL.p 14 (by kernel_rfl) rfl (asgI rfl) rfl ?_
                refine AL.p 15 (by kernel_rfl) rfl (asgI rfl) rfl ?_
                refine AL.nil (by kernel_rfl) ?_
                refine ⟨(Z2, Y2, _, _), Head.intro (by repeat (first | with_reducible exact AgreeOff.refl _ _ | with_reducible exact AgreeOff.mix _ _ _ | refine AgreeOff.look rfl ?_ | refine AgreeOff.mixs rfl ?_)) ⟨rfl, rfl, trivial⟩, H, hb5, hb15, hT, hR, hA, rfl, rfl⟩
          · refine ⟨_, rfl, ?_⟩
            refine RL.m (ld_box rfl hb5 rfl) rfl ?_
            refine RL.nil ?_
            refine AL.all (rs := [6, 9, 10]) (by kernel_rfl) rfl ?_
            rintro i hi; simp only [List.mem_cons, List.not_mem_nil, or_false] at hi; rcases hi with rfl | rfl | rfl
            · refine ⟨_, rfl, ?_⟩
              -- call (*stagecoach/dedup.Table).Done (tmp 101) (tmp 103) (tmp 104) (tmp 106)
              have hYl := fun (k : Nat) (hk : Y k) => (hR.old hk).2
              refine RL.call (pDone _ _ it Z _ hT _ _ hok (by decide) o.part bb o.off) rfl rfl ?_
              rintro _ w44 ⟨⟨rfl, Z2, hT2, hgr⟩, hx⟩
              replace H := ext_z H hT (Nat.le_refl _) hx; replace hb5 := box_z hb5 hT (by decide) (by decide) (by decide) hx; replace hb15 := box_z hb15 hT (by decide) (by decide) (by decide) hx; replace hR := hR.upd hx (fun j hj hz => hA j hz hj)
              replace hA := hA.grew hgr hYl
              replace hT := hT2; clear hT2
              refine RL.nil ?_
              refine AL.m 9 (by kernel_rfl) rfl (ldS_box rfl hb5 (Nat.le_of_ble_eq_true rfl) rfl) rfl ?_
              refine AL.m 10 (by kernel_rfl) rfl (ldS_box rfl hb15 (Nat.le_of_ble_eq_true rfl) rfl) rfl ?_
              refine AL.o 13 (by kernel_rfl) rfl ?_
              -- call (*stagecoach/stagecoachref08.Table).Done (tmp 108) (tmp 110) (tmp 111) (tmp 113)
              have hZl := fun (k : Nat) (hk : Z2 k) => (hT.old hk).2
              refine RL.call (rDone _ _ ir Y _ hR _ _ hok (by decide) (by omega) htop o.part ho.2 bb o.off (by omega)) rfl rfl ?_
              rintro _ w45 ⟨⟨rfl, Y2, hR2, hgr⟩, hx⟩
              replace H := ext_y H hR (Nat.le_refl _) hx; replace hb5 := box_y hb5 hR (by decide) (by decide) (by decide) (by decide) hx; replace hb15 := box_y hb15 hR (by decide) (by decide) (by decide) (by decide) hx; replace hT := hT.upd hx (fun j hj hy => hA j hj hy)
              replace hA := (hA.symm.grew hgr hZl).symm
              replace hR := hR2; clear hR2
              refine RL.nil ?_
              refine AL.p 14 (by kernel_rfl) rfl (asgI rfl) rfl ?_
              refine AL.p 15 (by kernel_rfl) rfl (asgI rfl) rfl ?_
              refine AL.nil (by kernel_rfl) ?_
              refine ⟨(Z2, Y2, _, _), Head.intro (by repeat (first | with_reducible exact AgreeOff.refl _ _ | with_reducible exact AgreeOff.mix _ _ _ | refine AgreeOff.look rfl ?_ | refine AgreeOff.mixs rfl ?_)) ⟨rfl, rfl, trivial⟩, H, hb5, hb15, hT, hR, hA, rfl, rfl⟩
            · refine ⟨_, rfl, ?_⟩
              refine RL.m (ldS_box rfl hb5 (Nat.le_of_ble_eq_true rfl) rfl) rfl ?_
              refine RL.nil ?_
              refine AL.all (rs := [6, 10]) (by kernel_rfl) rfl ?_
              rintro i hi; simp only [List.mem_cons, List.not_mem_nil, or_false] at hi; rcases hi with rfl | rfl
              · refine ⟨_, rfl, ?_⟩
                -- call (*stagecoach/dedup.Table).Done (tmp 101) (tmp 103) (tmp 104) (tmp 106)
                have hYl := fun (k : Nat) (hk : Y k) => (hR.old hk).2
                refine RL.call (pDone _ _ it Z _ hT _ _ hok (by decide) o.part bb o.off) rfl rfl ?_
                rintro _ w46 ⟨⟨rfl, Z2, hT2, hgr⟩, hx⟩
                replace H := ext_z H hT (Nat.le_refl _) hx; replace hb5 := box_z hb5 hT (by decide) (by decide) (by decide) hx; replace hb15 := box_z hb15 hT (by decide) (by decide) (by decide) hx; replace hR := hR.upd hx (fun j hj hz => hA j hz hj)
                replace hA := hA.grew hgr hYl
                replace hT := hT2; clear hT2
                refine RL.nil ?_
                refine AL.m 10 (by kernel_rfl) rfl (ldS_box rfl hb15 (Nat.le_of_ble_eq_true rfl) rfl) rfl ?_
                refine AL.o 13 (by kernel_rfl) rfl ?_
                -- call (*stagecoach/stagecoachref08.Table).Done (tmp 108) (tmp 110) (tmp 111) (tmp 113)
                have hZl := fun (k : Nat) (hk : Z2 k) => (hT.old hk).2
                refine RL.call (rDone _ _ ir Y _ hR _ _ hok (by decide) (by omega) htop o.part ho.2 bb o.off (by omega)) rfl rfl ?_
                rintro _ w47 ⟨⟨rfl, Y2, hR2, hgr⟩, hx⟩
                replace H := ext_y H hR (Nat.le_refl _) hx; replace hb5 := box_y hb5 hR (by decide) (by decide) (by decide) (by decide) hx; replace hb15 := box_y hb15 hR (by decide) (by decide) (by decide) (by decide) hx; replace hT := hT.upd hx (fun j hj hy => hA j hj hy)
                replace hA := (hA.symm.grew hgr hZl).symm
                replace hR := hR2; clear hR2
                refine RL.nil ?_
                refine AL.p 14 (by kernel_rfl) rfl (asgI rfl) rfl ?_
                refine AL.p 15 (by kernel_rfl) rfl (asgI rfl) rfl ?_
                refine AL.nil (by kernel_rfl) ?_
                refine ⟨(Z2, Y2, _, _), Head.intro (by repeat (first | with_reducible exact AgreeOff.refl _ _ | with_reducible exact AgreeOff.mix _ _ _ | refine AgreeOff.look rfl ?_ | refine AgreeOff.mixs rfl ?_)) ⟨rfl, rfl, trivial⟩, H, hb5, hb15, hT, hR, hA, rfl, rfl⟩
              · refine ⟨_, rfl, ?_⟩
                refine RL.m (ldS_box rfl hb15 (Nat.le_of_ble_eq_true rfl) rfl) rfl ?_
                refine RL.nil ?_
                refine AL.o 6 (by kernel_rfl) rfl ?_
                -- call (*stagecoach/dedup.Table).Done (tmp 101) (tmp 103) (tmp 104) (tmp 106)
                have hYl := fun (k : Nat) (hk : Y k) => (hR.old hk).2
                refine RL.call (pDone _ _ it Z _ hT _ _ hok (by decide) o.part bb o.off) rfl rfl ?_
                rintro _ w48 ⟨⟨rfl, Z2, hT2, hgr⟩, hx⟩
                replace H := ext_z H hT (Nat.le_refl _) hx; replace hb5 := box_z hb5 hT (by decide) (by decide) (by decide) hx; replace hb15 := box_z hb15 hT (by decide) (by decide) (by decide) hx; replace hR := hR.upd hx (fun j hj hz => hA j hz hj)
                replace hA := hA.grew hgr hYl
                replace hT := hT2; clear hT2
                refine RL.nil ?_
                refine AL.o 13 (by kernel_rfl) rfl ?_
                -- call (*stagecoach/stagecoachref08.Table).Done (tmp 108) (tmp 110) (tmp 111) (tmp 113)
                have hZl := fun (k : Nat) (hk : Z2 k) => (hT.old hk).2
                refine RL.call (rDone _ _ ir Y _ hR _ _ hok (by decide) (by omega) htop o.part ho.2 bb o.off (by omega)) rfl rfl ?_
                rintro _ w49 ⟨⟨rfl, Y2, hR2, hgr⟩, hx⟩
                replace H := ext_y H hR (Nat.le_refl _) hx; replace hb5 := box_y hb5 hR (by decide) (by decide) (by decide) (by decide) hx; replace hb15 := box_y hb15 hR (by decide) (by decide) (by decide) (by decide) hx; replace hT := hT.upd hx (fun j hj hy => hA j hj hy)
                replace hA := (hA.symm.grew hgr hZl).symm
                replace hR := hR2; clear hR2
                refine RL.nil ?_
                refine AL.p 14 (by kernel_rfl) rfl (asgI rfl) rfl ?_
                refine AL.p 15 (by kernel_rfl) rfl (asgI rfl) rfl ?_
                refine AL.nil (by kernel_rfl) ?_
                refine ⟨(Z2, Y2, _, _), Head.intro (by repeat (first | with_reducible exact AgreeOff.refl _ _ | with_reducible exact AgreeOff.mix _ _ _ | refine AgreeOff.look rfl ?_ | refine AgreeOff.mixs rfl ?_)) ⟨rfl, rfl, trivial⟩, H, hb5, hb15, hT, hR, hA, rfl, rfl⟩
            · refine ⟨_, rfl, ?_⟩
              refine RL.m (ldS_box rfl hb15 (Nat.le_of_ble_eq_true rfl) rfl) rfl ?_
              refine RL.nil ?_
              refine AL.all (rs := [6, 9]) (by kernel_rfl) rfl ?_
              rintro i hi; simp only [List.mem_cons, List.not_mem_nil, or_false] at hi; rcases hi with rfl | rfl
              · refine ⟨_, rfl, ?_⟩
                -- call (*stagecoach/dedup.Table).Done (tmp 101) (tmp 103) (tmp 104) (tmp 106)
                have hYl := fun (k : Nat) (hk : Y k) => (hR.old hk).2
                refine RL.call (pDone _ _ it Z _ hT _ _ hok (by decide) o.part bb o.off) rfl rfl ?_
                rintro _ w50 ⟨⟨rfl, Z2, hT2, hgr⟩, hx⟩
                replace H := ext_z H hT (Nat.le_refl _) hx; replace hb5 := box_z hb5 hT (by decide) (by decide) (by decide) hx; replace hb15 := box_z hb15 hT (by decide) (by decide) (by decide) hx; replace hR := hR.upd hx (fun j hj hz => hA j hz hj)
                replace hA := hA.grew hgr hYl
                replace hT := hT2; clear hT2
                refine RL.nil ?_
                refine AL.m 9 (by kernel_rfl) rfl (ldS_box rfl hb5 (Nat.le_of_ble_eq_true rfl) rfl) rfl ?_
                refine AL.o 13 (by kernel_rfl) rfl ?_
                -- call (*stagecoach/stagecoachref08.Table).Done (tmp 108) (tmp 110) (tmp 111) (tmp 113)
                have hZl := fun (k : Nat) (hk : Z2 k) => (hT.old hk).2
                refine RL.call (rDone _ _ ir Y _ hR _ _ hok (by decide) (by omega) htop o.part ho.2 bb o.off (by omega)) rfl rfl ?_
                rintro _ w51 ⟨⟨rfl, Y2, hR2, hgr⟩, hx⟩
                replace H := ext_y H hR (Nat.le_refl _) hx; replace hb5 := box_y hb5 hR (by decide) (by decide) (by decide) (by decide) hx; replace hb15 := box_y hb15 hR (by decide) (by decide) (by decide) (by decide) hx; replace hT := hT.upd hx (fun j hj hy => hA j hj hy)
                replace hA := (hA.symm.grew hgr hZl).symm
                replace hR := hR2; clear hR2
                refine RL.nil ?_
                refine AL.p 14 (by kernel_rfl) rfl (asgI rfl) rfl ?_
                refine AL.p 15 (by kernel_rfl) rfl (asgI rfl) rfl ?_
                refine AL.nil (by kernel_rfl) ?_
                refine ⟨(Z2, Y2, _, _), Head.intro (by repeat (first | with_reducible exact AgreeOff.refl _ _ | with_reducible exact AgreeOff.mix _ _ _ | refine AgreeOff.look rfl ?_ | refine AgreeOff.mixs rfl ?_)) ⟨rfl, rfl, trivial⟩, H, hb5, hb15, hT, hR, hA, rfl, rfl⟩
              · refine ⟨_, rfl, ?_⟩
                refine RL.m (ldS_box rfl hb5 (Nat.le_of_ble_eq_true rfl) rfl) rfl ?_
                refine RL.nil ?_
                refine AL.o 6 (by kernel_rfl) rfl ?_
                -- call (*stagecoach/dedup.Table).Done (tmp 101) (tmp 103) (tmp 104) (tmp 106)
                have hYl := fun (k : Nat) (hk : Y k) => (hR.old hk).2
                refine RL.call (pDone _ _ it Z _ hT _ _ hok (by decide) o.part bb o.off) rfl rfl ?_
                rintro _ w52 ⟨⟨rfl, Z2, hT2, hgr⟩, hx⟩
                replace H := ext_z H hT (Nat.le_refl _) hx; replace hb5 := box_z hb5 hT (by decide) (by decide) (by decide) hx; replace hb15 := box_z hb15 hT (by decide) (by decide) (by decide) hx; replace hR := hR.upd hx (fun j hj hz => hA j hz hj)
                replace hA := hA.grew hgr hYl
                replace hT := hT2; clear hT2
                refine RL.nil ?_
                refine AL.o 13 (by kernel_rfl) rfl ?_
                -- call (*stagecoach/stagecoachref08.Table).Done (tmp 108) (tmp 110) (tmp 111) (tmp 113)
                have hZl := fun (k : Nat) (hk : Z2 k) => (hT.old hk).2
                refine RL.call (rDone _ _ ir Y _ hR _ _ hok (by decide) (by omega) htop o.part ho.2 bb o.off (by omega)) rfl rfl ?_
                rintro _ w53 ⟨⟨rfl, Y2, hR2, hgr⟩, hx⟩
                replace H := ext_y H hR (Nat.le_refl _) hx; replace hb5 := box_y hb5 hR (by decide) (by decide) (by decide) (by decide) hx; replace hb15 := box_y hb15 hR (by decide) (by decide) (by decide) (by decide) hx; replace hT := hT.upd hx (fun j hj hy => hA j hj hy)
                replace hA := (hA.symm.grew hgr hZl).symm
                replace hR := hR2; clear hR2
                refine RL.nil ?_
                refine AL.p 14 (by kernel_rfl) rfl (asgI rfl) rfl ?_
                refine AL.p 15 (by kernel_rfl) rfl (asgI rfl) rfl ?_
                refine AL.nil (by kernel_rfl) ?_
                refine ⟨(Z2, Y2, _, _), Head.intro (by repeat (first | with_reducible exact AgreeOff.refl _ _ | with_reducible exact AgreeOff.mix _ _ _ | refine AgreeOff.look rfl ?_ | refine AgreeOff.mixs rfl ?_)) ⟨rfl, rfl, trivial⟩, H, hb5, hb15, hT, hR, hA, rfl, rfl⟩
        rintro ⟨Z5, Y5, x1, x2⟩ jc w54 ⟨H, hb5, hb15, hT, hR, hA, hx1, hx2⟩
        refine WP.regionS ?_
        refine RL.r (mvP rfl) rfl ?_
        refine RL.r (fa_box rfl) rfl ?_
        refine RL.m (ld_box rfl hb5 rfl) rfl ?_
        -- call (*stagecoach/dedup.Table).Open (tmp 116) (tmp 118)
        have hok2 : okD (2199023255552 + (20 : Nat)) (M.length + 1) (doneD (⟨(E.take 40), M.map Maker.pl⟩ : Ds) o.part bb o.off) := okD_doneB hok (by decide) o.part bb o.off hbl
        have hYl := fun (k : Nat) (hk : Y5 k) => (hR.old hk).2
        refine RL.call (pOpenT _ _ it Z5 _ hT _ _ hok2 o.id) rfl rfl ?_
        rintro v w55 ⟨⟨r3, s3, e3, ha3, rfl, Z2, hT2, hgr⟩, hx⟩
        replace H := ext_z H hT (Nat.le_refl _) hx; replace hb5 := box_z hb5 hT (by decide) (by decide) (by decide) hx; replace hb15 := box_z hb15 hT (by decide) (by decide) (by decide) hx; replace hR := hR.upd hx (fun j hj hz => hA j hz hj)
        replace hA := hA.grew hgr hYl
        replace hT := hT2; clear hT2
        refine RL.r (mvU rfl) rfl ?_
        refine RL.r (ex0 rfl) rfl ?_
        refine RL.r (ex1 rfl) rfl ?_
        refine RL.r (ex2 rfl) rfl ?_
        refine RL.r (asgI rfl) rfl ?_
        refine RL.r (asgI rfl) rfl ?_
        refine RL.r (asgI rfl) rfl ?_
        refine RL.nil ?_
        refine WP.regionS ?_
        refine RL.r (mvP rfl) rfl ?_
        refine RL.r (fa_box rfl) rfl ?_
        refine RL.m (ld_box rfl hb5 rfl) rfl ?_
        -- call (*stagecoach/stagecoachref08.Table).Open (tmp 124) (tmp 126)
        have hZl := fun (k : Nat) (hk : Z2 k) => (hT.old hk).2
        refine RL.call (rOpenT _ _ ir Y5 _ hR _ _ hok2 (by omega) o.id) rfl rfl ?_
        rintro v w56 ⟨⟨r4, s4, e4, ha4, rfl, Y2, hR2, hgr⟩, hx⟩
        replace H := ext_y H hR (Nat.le_refl _) hx; replace hb5 := box_y hb5 hR (by decide) (by decide) (by decide) (by decide) hx; replace hb15 := box_y hb15 hR (by decide) (by decide) (by decide) (by decide) hx; replace hT := hT.upd hx (fun j hj hy => hA j hj hy)
        replace hA := (hA.symm.grew hgr hZl).symm
        replace hR := hR2; clear hR2
        refine RL.r (mvU rfl) rfl ?_
        refine RL.r (ex0 rfl) rfl ?_
        refine RL.r (ex1 rfl) rfl ?_
        refine RL.r (ex2 rfl) rfl ?_
        refine RL.r (asgI rfl) rfl ?_
        refine RL.r (asgI rfl) rfl ?_
        refine RL.r (asgI rfl) rfl ?_
        refine RL.nil ?_
        refine WP.seq (WP.quiet ?_)
        refine QL.r (mvI rfl) rfl ?_
        refine QL.r (mvI rfl) rfl ?_
        refine QL.r (eql rfl rfl) rfl ?_
        refine QL.r (mvB rfl) rfl ?_
        refine QL.gg (gwT rfl rfl) (fun hg => (mvI rfl).does _) rfl ?_
        refine QL.gg (gwT rfl rfl) (fun hg => (mvI rfl).does _) rfl ?_
        refine QL.gg (gwT rfl rfl) (fun hg => (eql (gs hg rfl) (gs hg rfl)).does _) rfl ?_
        refine QL.r (pickAnd rfl (fun hn => gs hn rfl)) rfl ?_
        refine QL.r (mvB rfl) rfl ?_
        refine QL.gg (gwT rfl rfl) (fun hg => (mvI rfl).does _) rfl ?_
        refine QL.gg (gwT rfl rfl) (fun hg => (mvI rfl).does _) rfl ?_
        refine QL.gg (gwT rfl rfl) (fun hg => (eql (gs hg rfl) (gs hg rfl)).does _) rfl ?_
        refine QL.r (pickAnd rfl (fun hn => gs hn rfl)) rfl ?_
        refine QL.r (mvB rfl) rfl ?_
        refine QL.gg (gwT rfl rfl) (fun hg => (mvI rfl).does _) rfl ?_
        refine QL.gg (gwT rfl rfl) (fun hg => (mvI rfl).does _) rfl ?_
        refine QL.gg (gwT rfl rfl) (fun hg => (eql (gs hg rfl) (gs hg rfl)).does _) rfl ?_
        refine QL.r (pickAnd rfl (fun hn => gs hn rfl)) rfl ?_
        refine QL.r (mvB rfl) rfl ?_
        refine QL.gg (gwT rfl rfl) (fun hg => (mvP rfl).does _) rfl ?_
        refine QL.gg (gwT rfl rfl) (fun hg => (mvP rfl).does _) rfl ?_
        -- call stagecoach/stagecoachlaw08.same (tmp 150) (tmp 151)
        have hS : ∀ w', Ext w56 w' → Ct Try.prog 17 #[.pointer (some ⟨it, 0, none⟩), .pointer (some ⟨ir, 0, none⟩)] w' fun v w'' => v = .bool (decide ((openD (doneD (⟨(E.take 40), M.map Maker.pl⟩ : Ds) o.part bb o.off) o.id).E = (openD (doneD (⟨(E.take 40), M.map Maker.pl⟩ : Ds) o.part bb o.off) o.id).E)) ∧ Ext w' w'' := fun w' hw' => lSameD w' _ _ it ir Z2 Y2 _ (hT.ext hw') (hR.ext hw') _ _ (okD_open hok2 o.id) (by omega)
        refine QL.gcall (gwT rfl rfl) (fun hg w' hw' => hS w' hw') (fun hg => EvL.cons (gs hg rfl) (EvL.cons (gs hg rfl) EvL.nil)) rfl ?_
        refine QL.r (pickAnd rfl (fun hn => gs hn rfl)) rfl ?_
        refine QL.r (mvB rfl) rfl ?_
        -- call stagecoach/stagecoachlaw08.fixed 
        refine QL.gcall (gwT rfl rfl) (fun hg w' hw' => lFixedD w') (fun hg => EvL.nil) rfl ?_
        refine QL.r (pickAnd rfl (fun hn => gs hn rfl)) rfl ?_
        refine QL.r (asgB rfl) rfl ?_
        refine QL.nil ?_; intro w59 hx; replace H := H.ext hx; replace hb5 := hb5.ext hx; replace hb15 := hb15.ext hx; replace hT := hT.ext hx; replace hR := hR.ext hx
        refine WP.ret ?_
        have h9 := ha3.symm.trans ha4
        simp only [Prod.mk.injEq] at h9
        refine fin1_ret rfl ⟨congrArg Value.bool (decide_eq_true ?_), H⟩
        exact ⟨⟨⟨⟨⟨hx1.trans hx2.symm, h9.1⟩, h9.2.1⟩, h9.2.2⟩, rfl⟩, rfl⟩
end Go.Proofs.Ytbggmjnhfacjpaa
