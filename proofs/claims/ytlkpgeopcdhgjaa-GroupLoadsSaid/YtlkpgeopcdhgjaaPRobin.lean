/-
  PRobin: walks and laws, written by gen/gen.py out of gen/thy/PRobin.py.
-/
import Derived.Test.YtlkpgeopcdhgjaaNext
set_option linter.unusedVariables false
namespace Go.Proofs.Ytlkpgeopcdhgjaa
open Go Go.Eng Go.RowKit
theorem nxtI_neg {m : List Mem} {t : ByteArray} {p : Nat} (h : nxtI m t p = -1) : nxt m t p = none := by
  cases hn : nxt m t p with
  | none => rfl
  | some i => rw [nxtI_some hn] at h; omega
theorem nxtI_pos {m : List Mem} {t : ByteArray} {p : Nat} (h : ¬ nxtI m t p = -1) : ∃ i, nxt m t p = some i := by
  cases hn : nxt m t p with
  | none => exact absurd (nxtI_none hn) h
  | some i => exact ⟨i, rfl⟩
set_option maxRecDepth 20000 in
set_option maxHeartbeats 1600000 in
theorem pRobin (w0 : World) (a b : Option Addr) (c d : Nat) (l : List Topic) (m : List Mem) (hl : Sl w0 a l) (hm : Sl w0 b m) (hts : ∀ x ∈ m, Sl w0 x.ta x.topics ∧ x.topics.length ≤ 1000) :
    Ct Try.prog 53 #[.slice a l.length c, .slice b m.length d] w0 fun v w' => (∃ q cq g, v = .tuple #[.slice q g.length cq, .int .i64 (checkE l m)] ∧ GridO 60 66 w0.heap.size w' q cq g ∧ rows g = if checkE l m = 0 then robinG l m else []) ∧ Ext w0 w' := by
  refine Ct.intro2 Try.func53 Try.ntmps53 rfl rfl (by decide) rfl ?_
  have H : Ext w0 w0 := Ext.refl w0
  refine WP.regionS ?_
  refine RL.box1 w0.heap.size H.size rfl rfl rfl ?_
  intro w1 i3 hi3 hx hb3
  replace H := H.ext hx; clear hx
  refine RL.r (asgL rfl) rfl ?_
  refine RL.r (asgI rfl) rfl ?_
  refine RL.nil ?_
  refine WP.seq ?_
  refine WP.regionS ?_
  refine RL.r (mvL rfl) rfl ?_
  refine RL.m (ld_box rfl hb3 rfl) rfl ?_
  -- call stagecoach/assign.Check (tmp 14) (tmp 15)
  refine RL.call (pCheck _ _ _ _ _ l m (hl.ext H) (hm.ext H)) rfl rfl ?_
  rintro _ w2 ⟨rfl, hx⟩
  replace H := H.ext hx; replace hb3 := hb3.ext hx
  refine RL.r (asgI rfl) rfl ?_
  refine RL.nil ?_
  refine WP.regionS ?_
  refine RL.r (mvI rfl) rfl ?_
  refine RL.r (neq rfl rfl) rfl ?_
  refine RL.nil ?_
  refine WP.cond rfl (fun hc => ?_) (fun hc => ?_)
  · refine WP.regionS ?_
    refine RL.r (mvI rfl) rfl ?_
    refine RL.r (asgL rfl) rfl ?_
    refine RL.r (asgI rfl) rfl ?_
    refine RL.nil ?_
    refine WP.ret ?_
    refine fin2_ret rfl rfl ⟨⟨none, 0, [], rfl, gridO_nil _ _, by rw [if_neg hc]; rfl⟩, H⟩
  · refine WP.skip ?_
    refine WP.regionS ?_
    refine RL.m (ld_box rfl hb3 rfl) rfl ?_
    refine RL.r (len_sl rfl) rfl ?_
    have hck := Classical.not_not.1 hc
    obtain ⟨hl8, hlok, hm8, hmok⟩ := check_ok hck
    refine RL.makeSlice (⟨none, 0, []⟩ : Rw Part) w0.heap.size H.size rfl rfl rfl rfl (by omega) (by simp only [maxLen]; omega) rfl ?_
    intro w3 i22 hi22 hx hb22
    replace H := H.ext hx; replace hb3 := hb3.ext hx; clear hx
    refine RL.r (asgL rfl) rfl ?_
    refine RL.nil ?_
    refine WP.regionS ?_
    refine RL.alloc w0.heap.size H.size rfl rfl ?_
    intro w4 i8 hi8 hx hb8
    have ne3_8 := hb3.ne hi8
    refine RL.store1 rfl hb8 rfl rfl rfl rfl ?_
    intro w5 hu hb8
    replace hx := hx.box hu (Nat.le_of_eq hi8.symm)
    replace H := H.ext hx; replace hb3 := hb3.ext hx; replace hb22 := hb22.ext hx; clear hx hu
    refine RL.nil ?_
    refine WP.regionS ?_
    refine RL.r (mkfn) rfl ?_
    refine RL.r (asgF rfl) rfl ?_
    refine RL.nil ?_
    refine WP.seq ?_
    refine WP.regionS ?_
    refine RL.r (mvL rfl) rfl ?_
    refine RL.r (len_sl rfl) rfl ?_
    refine RL.r (mvI rfl) rfl ?_
    refine RL.nil ?_
    refine WP.block ?_
    have hG := (GridO.nils (T := 60) (T' := 66) hb22)
    refine WP.loop (fun k e' w' => ∃ j : Nat, ∃ (g : List (Rw Part)) (pl : Nat),  j + k = l.length ∧ Head [11, 12, 13, 26, 27, 28, 29, 30, 31, 32, 33, 34, 35, 36, 37, 38, 39, 40, 41, 42, 43, 44, 45, 46, 47, 48, 49, 50, 51, 52, 53, 54, 55, 56, 57] _ [(26, .int .i64 (j : Int))] e' ∧ Ext w0 w' ∧ Box w0.heap.size w' i3 87 [.slice b m.length d] ∧ Box w0.heap.size w' i8 3 [.int .i64 ((pl : Nat) : Int)] ∧ GridO 60 66 w0.heap.size w' (some ⟨i22, 0, none⟩) m.length g ∧ (rows g, pl) = allR m (l.take j) ∧ pl ≤ m.length) (l.length)
      ⟨0, _, 0, by omega, Head.intro (AgreeOff.refl _ _) ⟨rfl, trivial⟩, H, hb3, hb8, hG, by simp [allR, rows], by omega⟩ ?_
    clear H hb3 hb8 hb22
    rintro k e w6 ⟨j, g, pl, hjk, ⟨jk, rfl⟩, H, hb3, hb8, hG, hg, hpl⟩
    have hgl : g.length = m.length := by rw [rows_length (congrArg Prod.fst hg), allR_length]
    refine WP.regionS ?_
    refine RL.r (lss rfl rfl) rfl ?_
    refine RL.nil ?_
    refine WP.seq ?_
    refine WP.cond rfl (fun hc => ?_) (fun hc => ?_)
    · refine WP.skip ?_
      refine WP.seq ?_
      refine WP.block ?_
      refine WP.regionS ?_
      have hj : j < l.length := by omega
      obtain ⟨q, rfl⟩ := hl.isAddr (by decide) hj
      have htj := hlok j hj
      have htn : 1 ≤ l[j].n ∧ l[j].n ≤ 8 := htj.1.2
      refine RL.r (ix rfl rfl rfl (by omega)) rfl ?_
      refine RL.m (ldS_el rfl hl H rfl rfl (by omega)) rfl ?_
      refine RL.alloc w0.heap.size H.size rfl rfl ?_
      intro w7 i11 hi11 hx hb11
      have ne3_11 := hb3.ne hi11
      have ne8_11 := hb8.ne hi11
      refine RL.storeS rfl hb11 rfl rfl rfl rfl ?_
      intro w8 hu hb11
      replace hx := hx.box hu (Nat.le_of_eq hi11.symm)
      replace H := H.ext hx; replace hb3 := hb3.ext hx; replace hb8 := hb8.ext hx; replace hG := hG.ext hx; clear hx hu
      refine RL.nil ?_
      refine WP.regionS ?_
      refine RL.r (fa_box rfl) rfl ?_
      refine RL.m (ld_box rfl hb11 rfl) rfl ?_
      refine RL.r (mvI rfl) rfl ?_
      refine RL.nil ?_
      refine WP.block ?_
      refine WP.loop (fun k1 e' w' => ∃ j1 : Nat, ∃ (g : List (Rw Part)) (pl : Nat),  j1 + k1 = l[j].n.toNat ∧ Head [12, 13, 32, 33, 34, 35, 36, 37, 38, 39, 40, 41, 42, 43, 44, 45, 46, 47, 48, 49, 50, 51, 52, 53, 54, 55, 56] _ [(32, .int .i64 (j1 : Int))] e' ∧ Ext w0 w' ∧ Box w0.heap.size w' i3 87 [.slice b m.length d] ∧ Box w0.heap.size w' i8 3 [.int .i64 ((pl : Nat) : Int)] ∧ Box w0.heap.size w' i11 58 (Lies.enc l[j]) ∧ GridO 60 66 w0.heap.size w' (some ⟨i22, 0, none⟩) m.length g ∧ (rows g, pl) = topR m (allR m (l.take j)) l[j] j1 ∧ pl ≤ m.length) (l[j].n.toNat)
        ⟨0, g, pl, by omega, Head.intro (AgreeOff.refl _ _) ⟨rfl, trivial⟩, H, hb3, hb8, hb11, hG, hg, hpl⟩ ?_
      clear H hb3 hb8 hb11 hG
      rintro k1 e w9 ⟨j1, g2, pl, hjk1, ⟨jk1, rfl⟩, H, hb3, hb8, hb11, hG, hg2, hpl⟩
      have hg2l : g2.length = m.length := by rw [rows_length (congrArg Prod.fst hg2), topR_length, allR_length]
      have hrl : ∀ r ∈ g2, r.l.length ≤ 64 + j1 := by
        intro r hr
        have h1 := topR_le m (allR m (l.take j)) l[j] 64 (fun x hx => by
          have h2 := allR_le m (l.take j) (fun t ht => by
            obtain ⟨k, hk, rfl⟩ := List.getElem_of_mem (List.mem_of_mem_take ht)
            exact (hlok k hk).1.2.2) x hx
          rw [List.length_take] at h2
          omega) j1
        rw [← hg2] at h1
        exact h1 r.l (List.mem_map.2 ⟨r, hr, rfl⟩)
      refine WP.regionS ?_
      refine RL.r (lss rfl rfl) rfl ?_
      refine RL.nil ?_
      refine WP.seq ?_
      refine WP.cond rfl (fun hc => ?_) (fun hc => ?_)
      · refine WP.skip ?_
        refine WP.seq ?_
        refine WP.block ?_
        refine WP.regionS ?_
        refine RL.r (mvI rfl) rfl ?_
        refine RL.r (asgI rfl) rfl ?_
        refine RL.nil ?_
        refine WP.regionS ?_
        refine RL.r (mvF rfl) rfl ?_
        refine RL.r (fa_box rfl) rfl ?_
        refine RL.m (ld_box rfl hb11 rfl) rfl ?_
        -- call VALUE (tmp 35) (tmp 37)
        refine RL.callv (vs := [.string l[j].name]) (cap := [.pointer (some ⟨i3, 0, none⟩), .pointer (some ⟨i8, 0, none⟩)]) rfl (pNext _ _ _ i3 i8 pl l[j].name b d m hb3 hb8 (hm.ext H) (fun x hx => ⟨(hts x hx).1.ext H, (hts x hx).2⟩) hm8 (by omega)) rfl rfl ?_
        rintro _ w10 ⟨rfl, hx⟩
        replace H := H.ext hx; replace hb3 := hb3.ext hx; replace hb8 := hb8.ext hx; replace hb11 := hb11.ext hx; replace hG := hG.ext hx
        refine RL.r (asgI rfl) rfl ?_
        refine RL.nil ?_
        refine WP.seq ?_
        refine WP.regionS ?_
        refine RL.r (mvI rfl) rfl ?_
        refine RL.r (eql rfl rfl) rfl ?_
        refine RL.nil ?_
        refine WP.cond rfl (fun hc => ?_) (fun hc => ?_)
        · refine WP.exit ?_
          refine WP.region ?_
          refine RL.r (add rfl rfl (by omega)) rfl ?_
          refine RL.r (mvI rfl) rfl ?_
          refine RL.nil ?_
          refine ⟨k - 1, by omega, j + 1, _, _, by omega, Head.intro (by repeat (first | with_reducible exact AgreeOff.mix _ _ _ | refine AgreeOff.look rfl ?_ | refine AgreeOff.mixs rfl ?_)) ⟨rfl, trivial⟩, H, hb3, hb8, hG, ?_, hpl⟩
          have hnn := nxt_none_all (nxtI_neg hc)
          rw [hg2, allR_snoc _ _ _ hj, topR_none hnn, topR_none hnn]
        · refine WP.skip ?_
          refine WP.seq ?_
          refine WP.any ?_
          intro w11 hx; replace H := H.ext hx; replace hb3 := hb3.ext hx; replace hb8 := hb8.ext hx; replace hb11 := hb11.ext hx; replace hG := hG.ext hx
          refine AL.p 0 (by kernel_rfl) rfl (mvL rfl) rfl ?_
          refine AL.p 1 (by kernel_rfl) rfl (mvI rfl) rfl ?_
          refine AL.p 2 (by kernel_rfl) rfl (mvL rfl) rfl ?_
          refine AL.p 3 (by kernel_rfl) rfl (mvI rfl) rfl ?_
          obtain ⟨i, hni⟩ := nxtI_pos hc
          have hni1 := nxtI_some hni
          have hi : i < m.length := (nxt_wants hni).1
          have hi3 : i < g2.length := by omega
          have hgil : g2[i].l.length ≤ 64 + j1 := hrl _ (List.getElem_mem hi3)
          refine AL.p 4 (by kernel_rfl) rfl (ix rfl rfl (nxtI_some hni) (by rw [List.length_replicate]; exact hi)) rfl ?_
          refine AL.p 6 (by kernel_rfl) rfl (fa_box rfl) rfl ?_
          refine AL.p 8 (by kernel_rfl) rfl (mvI rfl) rfl ?_
          refine AL.m 5 (by kernel_rfl) rfl (ld_e0 rfl hG.head.sl (Ext.refl _) rfl hi3 rfl) rfl ?_
          refine AL.m 7 (by kernel_rfl) rfl (ld_box rfl hb11 rfl) rfl ?_
          refine AL.p 9 (by kernel_rfl) rfl (bld rfl rfl) rfl ?_
          refine AL.o 10 (by kernel_rfl) rfl ?_
          refine RL.buildSlice w0.heap.size H.size rfl rfl rfl rfl rfl ?_
          intro w12 i51 hi51 hx hb51
          replace H := H.ext hx; replace hb3 := hb3.ext hx; replace hb8 := hb8.ext hx; replace hb11 := hb11.ext hx; replace hG := hG.ext hx; clear hx
          refine RL.nil ?_
          refine AL.o 11 (by kernel_rfl) rfl ?_
          refine RL.appendS rfl (hG.row i hi3) H.size rfl (show Sl _ _ [(⟨l[j].name, (j1 : Int)⟩ : Part)] from Box.sl1 hb51) rfl rfl (by decide) rfl cell1 (by omega) (by simp only [maxLen]; omega) rfl ?_
          intro w13 a52 c52 hu hb52 hfr52
          have hr3 := hG.row i hi3
          have hh1 := hG.head1 (by decide) hi3 hu
          have hu1 := hu
          replace hb3 := hb3.upd hu (fun h => hr3.box_apart hb3 (by decide) h)
          replace hb8 := hb8.upd hu (fun h => hr3.box_apart hb8 (by decide) h)
          replace hb11 := hb11.upd hu (fun h => hr3.box_apart hb11 (by decide) h)
          replace H := Ext.own H hr3 hu; clear hu
          refine RL.nil ?_
          refine AL.p 12 (by kernel_rfl) rfl (ix rfl rfl (nxtI_some hni) (by rw [List.length_replicate]; exact hi)) rfl ?_
          refine AL.o 13 (by kernel_rfl) rfl ?_
          refine RL.setOwn (u := (⟨a52, c52, g2[i].l ++ [(⟨l[j].name, (j1 : Int)⟩ : Part)]⟩ : Rw Part)) (i := i) (off := 0) (v := .slice a52 (g2[i].l ++ [(⟨l[j].name, (j1 : Int)⟩ : Part)]).length c52) (vs := [.slice a52 (g2[i].l ++ [(⟨l[j].name, (j1 : Int)⟩ : Part)]).length c52]) rfl hh1 hi3 rfl rfl rfl (Nat.le_of_ble_eq_true rfl) rfl (fun v hv => by obtain rfl := List.mem_singleton.1 hv; rfl) ?_
          intro w99 hu2 hh2
          replace hG := hG.grow (by decide) hi3 hu1 hb52 hfr52 hu2 hh2
          replace hb3 := hb3.upd hu2 (fun h => hh1.box_apart hb3 (by decide) h)
          replace hb8 := hb8.upd hu2 (fun h => hh1.box_apart hb8 (by decide) h)
          replace hb11 := hb11.upd hu2 (fun h => hh1.box_apart hb11 (by decide) h)
          replace H := Ext.own H hh1 hu2
          have hb8o := hb8
          refine RL.nil ?_
          refine AL.nil (by kernel_rfl) ?_
          refine WP.region ?_
          refine RL.r (mvI rfl) rfl ?_
          refine RL.r (add rfl rfl (by omega)) rfl ?_
          refine RL.store1 rfl hb8 rfl rfl rfl rfl ?_
          intro w15 hu hb8
          replace H := H.box hu hb8.old; replace hb3 := hb3.upd hu ne3_8; replace hb11 := hb11.upd hu (Ne.symm ne8_11)
          refine RL.nil ?_
          refine WP.region ?_
          refine RL.r (add rfl rfl (by omega)) rfl ?_
          refine RL.r (mvI rfl) rfl ?_
          refine RL.nil ?_
          replace hG := hG.box hb8o hu (by decide) (by decide)
          replace hb8 : Box w0.heap.size _ i8 3 [.int .i64 (nxtI m l[j].name pl + 1)] := hb8
          rw [nxtI_some hni] at hb8
          refine ⟨k1 - 1, by omega, j1 + 1, _, i + 1, by omega, Head.intro (by repeat (first | with_reducible exact AgreeOff.mix _ _ _ | refine AgreeOff.look rfl ?_ | refine AgreeOff.mixs rfl ?_)) ⟨rfl, trivial⟩, H, hb3, hb8, hb11, hG, ?_, hi⟩
          rw [topR_succ, ← hg2, stepR_some (s := (rows g2, pl)) _ hni]
          congr 1
          unfold rows
          rw [List.map_set]
          apply List.ext_getElem (by simp)
          intro n h1 h2
          simp only [List.getElem_set, List.getElem_modify, List.getElem_map]
          split <;> simp_all
      · refine WP.exit ?_
        refine WP.region ?_
        refine RL.r (add rfl rfl (by omega)) rfl ?_
        refine RL.r (mvI rfl) rfl ?_
        refine RL.nil ?_
        refine ⟨k - 1, by omega, j + 1, _, _, by omega, Head.intro (by repeat (first | with_reducible exact AgreeOff.mix _ _ _ | refine AgreeOff.look rfl ?_ | refine AgreeOff.mixs rfl ?_)) ⟨rfl, trivial⟩, H, hb3, hb8, hG, ?_, hpl⟩
        rw [hg2, allR_snoc _ _ _ hj, show j1 = l[j].n.toNat by omega]
    · refine WP.exit ?_
      refine WP.regionS ?_
      refine RL.r (mvL rfl) rfl ?_
      refine RL.r (asgL rfl) rfl ?_
      refine RL.r (asgI rfl) rfl ?_
      refine RL.nil ?_
      refine WP.ret ?_
      refine fin2_ret rfl rfl ⟨⟨_, _, g, tupSl (by rw [hgl, List.length_replicate]) hck.symm, hG, ?_⟩, H⟩
      rw [if_pos hck]
      have := congrArg Prod.fst hg
      rw [List.take_of_length_le (by omega)] at this
      exact this
end Go.Proofs.Ytlkpgeopcdhgjaa
