/-
  RRobin: walks and laws, written by gen/gen.py out of gen/thy/RRobin.py.
-/
import Derived.Test.YtlkpgeopcdhgjaaPRobin
set_option linter.unusedVariables false
namespace Go.Proofs.Ytlkpgeopcdhgjaa
open Go Go.Eng Go.RowKit
set_option maxRecDepth 20000 in
set_option maxHeartbeats 1600000 in
theorem rRobin (w0 : World) (a b : Option Addr) (c d : Nat) (l : List Topic) (m : List Mem) (hl : Sl w0 a l) (hm : Sl w0 b m) (hsz : ∀ x ∈ m, x.name.size ≤ 40) (hts : ∀ x ∈ m, Sl w0 x.ta x.topics ∧ x.topics.length ≤ 1000) :
    Ct Try.prog 63 #[.slice a l.length c, .slice b m.length d] w0 fun v w' => (∃ q cq g, v = .tuple #[.slice q g.length cq, .int .i64 (checkE l m)] ∧ Gr w' q g ∧ rows g = if checkE l m = 0 then robinG l m else []) ∧ Ext w0 w' := by
  refine Ct.intro2 Try.func63 Try.ntmps63 rfl rfl (by decide) rfl ?_
  have H : Ext w0 w0 := Ext.refl w0
  refine WP.regionS ?_
  refine RL.r (asgL rfl) rfl ?_
  refine RL.r (asgI rfl) rfl ?_
  refine RL.nil ?_
  refine WP.regionS ?_
  refine RL.r (mvL rfl) rfl ?_
  refine RL.r (mvL rfl) rfl ?_
  -- call stagecoach/stagecoachref10.Check (tmp 13) (tmp 14)
  refine RL.call (rCheck _ _ _ _ _ l m hl hm hsz) rfl rfl ?_
  rintro _ w1 ⟨rfl, hx⟩
  replace H := H.ext hx
  refine RL.r (asgI rfl) rfl ?_
  refine RL.nil ?_
  refine WP.seq ?_
  refine WP.regionS ?_
  refine RL.r (mvI rfl) rfl ?_
  refine RL.r (neq rfl rfl) rfl ?_
  refine RL.nil ?_
  refine WP.cond rfl (fun hc => ?_) (fun hc => ?_)
  · refine WP.regionS ?_
    refine RL.r (mvI rfl) rfl ?_
    refine RL.r (asgL rfl) rfl ?_
    refine RL.r (asgI rfl) rfl ?_
    refine RL.nil ?_
    refine WP.ret ?_
    refine fin2_ret rfl rfl ⟨⟨none, 0, [], rfl, ⟨Sl.nil _, fun r hr => by simp at hr⟩, by rw [if_neg hc]; rfl⟩, H⟩
  · refine WP.skip ?_
    refine WP.regionS ?_
    have hck := Classical.not_not.1 hc
    obtain ⟨hl8, hlok, hm8, hmok⟩ := check_ok hck
    refine RL.build0 (α := (Rw Part)) w0.heap.size H.size rfl ?_
    intro w2 i19 hi19 hx hb19
    replace H := H.ext hx; clear hx
    refine RL.r (asgL rfl) rfl ?_
    refine RL.nil ?_
    refine WP.seq ?_
    refine WP.regionS ?_
    refine RL.r (asgI rfl) rfl ?_
    refine RL.nil ?_
    refine WP.block ?_
    refine WP.loop (fun k e' w' => ∃ j : Nat, ∃ (a7 : Option Addr) (c7 : Nat) (g : List (Rw Part)),  j + k = m.length ∧ Head [7, 8, 20, 21, 22, 23, 24, 25, 26, 27, 28, 29] _ [(7, .slice a7 g.length c7), (8, .int .i64 (j : Int))] e' ∧ Ext w0 w' ∧ GridO 60 66 w0.heap.size w' a7 c7 g ∧ rows g = List.replicate j []) (m.length)
      ⟨0, _, 0, [], by omega, Head.intro (AgreeOff.refl _ _) ⟨rfl, rfl, trivial⟩, H, ⟨hb19, fun i h => by simp at h, fun i j h => by simp at h⟩, rfl⟩ ?_
    clear H
    rintro k e w3 ⟨j, a7, c7, g, hjk, ⟨jk, rfl⟩, H, hG, hrows⟩
    have hgl : g.length = j := by rw [rows_length hrows]; simp
    have hj : j ≤ m.length := by omega
    have H3 := Ext.refl w3
    have hs3 := H.size
    refine WP.seq ?_
    refine WP.regionS ?_
    refine RL.r (mvI rfl) rfl ?_
    refine RL.r (mvL rfl) rfl ?_
    refine RL.r (len_sl rfl) rfl ?_
    refine RL.r (lss rfl rfl) rfl ?_
    refine RL.nil ?_
    refine WP.cond rfl (fun hc => ?_) (fun hc => ?_)
    · refine WP.skip ?_
      refine WP.seq ?_
      refine WP.block ?_
      refine WP.region ?_
      refine RL.r (mvL rfl) rfl ?_
      refine RL.build0 (α := Part) w3.heap.size H3.size rfl ?_
      intro w4 i27 hi27 hx hb27
      replace H := H.ext hx; replace H3 := H3.ext hx; clear hx
      refine RL.buildSlice w0.heap.size H.size rfl rfl rfl rfl rfl ?_
      intro w5 i28 hi28 hx hb28
      replace H := H.ext hx; replace H3 := H3.ext hx; replace hb27 := hb27.ext hx; clear hx
      have hG1 := hG.head.ext H3
      refine RL.appendS rfl hG1 H.size rfl (show Sl _ _ [(⟨some ⟨i27, 0, none⟩, 0, []⟩ : Rw Part)] from Box.sl1 hb28) rfl rfl (by decide) rfl cell1 (by omega) (by simp only [maxLen]; omega) rfl ?_
      intro w6 a29 c29 hu hb29 hfr29
      replace hG := hG.push (by decide) H3 hb27 (Nat.le_refl _) hs3 hu hb29
      replace H := Ext.own H hG1 hu; clear hu
      refine RL.r (asgL rfl) rfl ?_
      refine RL.nil ?_
      refine WP.region ?_
      refine RL.r (mvI rfl) rfl ?_
      refine RL.r (add rfl rfl (by omega)) rfl ?_
      refine RL.r (asgI rfl) rfl ?_
      refine RL.nil ?_
      refine ⟨k - 1, by omega, j + 1, _, _, _, by omega, Head.intro (by repeat (first | with_reducible exact AgreeOff.mix _ _ _ | refine AgreeOff.look rfl ?_ | refine AgreeOff.mixs rfl ?_)) ⟨rfl, rfl, trivial⟩, H, hG, ?_⟩
      unfold rows at hrows ⊢
      rw [List.map_append, hrows, List.replicate_succ']
      rfl
    · refine WP.exit ?_
      refine WP.regionS ?_
      refine RL.r (asgI rfl) rfl ?_
      refine RL.nil ?_
      refine WP.seq ?_
      refine WP.regionS ?_
      refine RL.r (asgI rfl) rfl ?_
      refine RL.nil ?_
      refine WP.block ?_
      have hjm : j = m.length := by omega
      subst hjm
      refine WP.loop (fun k1 e' w' => ∃ j1 : Nat, ∃ (g : List (Rw Part)) (pl : Nat),  j1 + k1 = l.length ∧ Head [9, 10, 11, 12, 30, 31, 32, 33, 34, 35, 36, 37, 38, 39, 40, 41, 42, 43, 44, 45, 46, 47, 48, 49, 50, 51, 52, 53, 54, 55, 56, 57, 58, 59, 60, 61, 62, 63, 64, 65, 66, 67, 68, 69, 70, 71, 72, 73, 74, 75, 76, 77, 78, 79, 80, 81, 82, 83, 84, 85, 86, 87, 88, 89, 90, 91, 92, 93, 94, 95] _ [(9, .int .i64 ((pl : Nat) : Int)), (10, .int .i64 (j1 : Int))] e' ∧ Ext w0 w' ∧ GridO 60 66 w0.heap.size w' a7 c7 g ∧ rows g = (allR m (l.take j1)).1 ∧ pl = (allR m (l.take j1)).2 % m.length) (l.length)
        ⟨0, g, 0, by omega, Head.intro (AgreeOff.refl _ _) ⟨rfl, rfl, trivial⟩, H, hG, hrows, (Nat.zero_mod _).symm⟩ ?_
      clear H H3
      rintro k1 e w7 ⟨j1, g2, pl, hjk1, ⟨jk1, rfl⟩, H, hG, hg, hpl⟩
      refine WP.seq ?_
      refine WP.regionS ?_
      refine RL.r (mvI rfl) rfl ?_
      refine RL.r (mvL rfl) rfl ?_
      refine RL.r (len_sl rfl) rfl ?_
      refine RL.r (lss rfl rfl) rfl ?_
      refine RL.nil ?_
      refine WP.cond rfl (fun hc => ?_) (fun hc => ?_)
      · refine WP.skip ?_
        refine WP.seq ?_
        refine WP.block ?_
        refine WP.regionS ?_
        refine RL.r (asgI rfl) rfl ?_
        refine RL.nil ?_
        refine WP.block ?_
        have hj1 : j1 < l.length := by omega
        have htj := hlok j1 hj1
        have htn : 1 ≤ l[j1].n ∧ l[j1].n ≤ 8 := htj.1.2
        refine WP.loop (fun k2 e' w' => ∃ j2 : Nat, ∃ (g : List (Rw Part)) (pl : Nat),  j2 + k2 = l[j1].n.toNat ∧ Head [9, 11, 12, 36, 37, 38, 39, 40, 41, 42, 43, 44, 45, 46, 47, 48, 49, 50, 51, 52, 53, 54, 55, 56, 57, 58, 59, 60, 61, 62, 63, 64, 65, 66, 67, 68, 69, 70, 71, 72, 73, 74, 75, 76, 77, 78, 79, 80, 81, 82, 83, 84, 85, 86, 87, 88, 89, 90, 91, 92, 93, 94, 95] _ [(9, .int .i64 ((pl : Nat) : Int)), (11, .int .i64 (j2 : Int))] e' ∧ Ext w0 w' ∧ GridO 60 66 w0.heap.size w' a7 c7 g ∧ rows g = (topR m (allR m (l.take j1)) l[j1] j2).1 ∧ pl = (topR m (allR m (l.take j1)) l[j1] j2).2 % m.length) (l[j1].n.toNat)
          ⟨0, _, _, by omega, Head.intro (AgreeOff.refl _ _) ⟨rfl, rfl, trivial⟩, H, hG, hg, hpl⟩ ?_
        clear H hG
        rintro k2 e w8 ⟨j2, g3, pl, hjk2, ⟨jk2, rfl⟩, H, hG, hg3, hpl3⟩
        have hg3l : g3.length = m.length := by rw [rows_length hg3, topR_length, allR_length]
        have hgl0 : g.length = m.length := by rw [rows_length hrows]; simp
        have hrl : ∀ r ∈ g3, r.l.length ≤ 64 + j2 := by
          intro r hr
          have h1 := topR_le m (allR m (l.take j1)) l[j1] 64 (fun x hx => by
            have h2 := allR_le m (l.take j1) (fun t ht => by
              obtain ⟨k, hk, rfl⟩ := List.getElem_of_mem (List.mem_of_mem_take ht)
              exact (hlok k hk).1.2.2) x hx
            rw [List.length_take] at h2
            omega) j2
          rw [← hg3] at h1
          exact h1 r.l (List.mem_map.2 ⟨r, hr, rfl⟩)
        obtain ⟨q, rfl⟩ := hl.isAddr (by decide) hj1
        refine WP.seq ?_
        refine WP.regionS ?_
        refine RL.r (mvI rfl) rfl ?_
        refine RL.r (mvL rfl) rfl ?_
        refine RL.r (mvI rfl) rfl ?_
        refine RL.r (ix rfl rfl rfl hj1) rfl ?_
        refine RL.r (fa_el hl.1 rfl) rfl ?_
        refine RL.m (ld_el rfl hl H rfl hj1 rfl) rfl ?_
        refine RL.r (lss rfl rfl) rfl ?_
        refine RL.nil ?_
        refine WP.cond rfl (fun hc => ?_) (fun hc => ?_)
        · refine WP.skip ?_
          refine WP.seq ?_
          refine WP.block ?_
          refine WP.seq ?_
          refine WP.regionS ?_
          refine RL.r (mvL rfl) rfl ?_
          refine RL.r (mvL rfl) rfl ?_
          refine RL.r (len_sl rfl) rfl ?_
          refine RL.r (mvL rfl) rfl ?_
          refine RL.r (mvI rfl) rfl ?_
          refine RL.r (ix rfl rfl rfl hj1) rfl ?_
          refine RL.r (fa_el hl.1 rfl) rfl ?_
          refine RL.m (ld_el rfl hl H rfl hj1 rfl) rfl ?_
          -- call stagecoach/stagecoachref10.ahead (tmp 45) (tmp 47) (tmp 52)
          refine RL.call (rAhead _ _ d m m.length l[j1].name (hm.ext H) (fun x hx => ⟨(hts x hx).1.ext H, (hts x hx).2⟩) (Nat.le_refl _) (by omega)) rfl rfl ?_
          rintro _ w9 ⟨rfl, hx⟩
          replace H := H.ext hx; replace hG := hG.ext hx
          refine RL.r (eql rfl rfl) rfl ?_
          refine RL.nil ?_
          refine WP.cond rfl (fun hc => ?_) (fun hc => ?_)
          · refine WP.exit ?_
            refine WP.region ?_
            refine RL.r (mvI rfl) rfl ?_
            refine RL.r (add rfl rfl (by omega)) rfl ?_
            refine RL.r (asgI rfl) rfl ?_
            refine RL.nil ?_
            refine ⟨k2 - 1, by omega, j2 + 1, _, _, by omega, Head.intro (by repeat (first | with_reducible exact AgreeOff.mix _ _ _ | refine AgreeOff.look rfl ?_ | refine AgreeOff.mixs rfl ?_)) ⟨rfl, rfl, trivial⟩, H, hG, ?_, ?_⟩
            · rw [topR_succ, stepR_none _ (nxt_none_of (ahead_all_zero (by omega)) _)]; exact hg3
            · rw [topR_succ, stepR_none _ (nxt_none_of (ahead_all_zero (by omega)) _)]; exact hpl3
          · refine WP.skip ?_
            refine WP.seq ?_
            refine WP.block ?_
            obtain ⟨i0, hi0⟩ := ahead_pos (m := m) (t := l[j1].name) (by omega)
            have hm0 : 0 < m.length := Nat.lt_of_le_of_lt (Nat.zero_le _) hi0.1
            have hplm : pl < m.length := by rw [hpl3]; exact Nat.mod_lt _ hm0
            refine WP.loop (fun k3 e' w' => ∃ j3 : Nat, ∃ (p4 : Nat),  j3 + k3 = m.length ∧ Head [9, 55, 56, 57, 58, 59, 60, 61, 62, 63, 64, 65, 66, 67, 68, 69, 70] _ [(9, .int .i64 ((p4 : Nat) : Int))] e' ∧ Ext w0 w' ∧ GridO 60 66 w0.heap.size w' a7 c7 g3 ∧ p4 = (pl + j3) % m.length ∧ ∀ n, n < j3 → ¬ wantsAt m ((pl + n) % m.length) l[j1].name) (m.length)
              ⟨0, pl, by omega, Head.intro (AgreeOff.refl _ _) ⟨rfl, trivial⟩, H, hG, (Nat.mod_eq_of_lt hplm).symm, fun n hn => by omega⟩ ?_
            clear H hG
            rintro k3 e w10 ⟨j3, p4, hjk3, ⟨jk3, rfl⟩, H, hG, hp4, hno⟩
            have hj3 : j3 < m.length := Classical.byContradiction fun h => nxt_none_all (nxt_no fun n hn => hno n (by omega)) _ hi0
            have hp4l : p4 < m.length := by rw [hp4]; exact Nat.mod_lt _ hm0
            have hp4g : p4 < g3.length := by omega
            have hrl4 : g3[p4].l.length ≤ 64 + j2 := hrl _ (List.getElem_mem hp4g)
            obtain ⟨p, rfl⟩ := hm.isAddr (by decide) hp4l
            obtain ⟨r7, rfl⟩ := hG.head.sl.isAddr (by decide) hp4g
            have H0 := H
            have H10 := Ext.refl w10
            have hW : ∀ w', Ext w10 w' → Ct Try.prog 28 #[.agg (Lies.enc m[p4]).toArray, .string l[j1].name] w' fun u w'' => u = .bool (decide (m[p4].has l[j1].name)) ∧ Ext w' w'' := fun w' hw' => rWants w' m[p4] l[j1].name ((hts _ (List.getElem_mem hp4l)).1.ext (H.ext hw')) (hts _ (List.getElem_mem hp4l)).2
            refine WP.seq ?_
            refine WP.seq ?_
            refine WP.draw (by kernel_rfl) ?_
            refine QL.r (mvL rfl) rfl ?_
            refine QL.r (mvI rfl) rfl ?_
            refine QL.r (ix rfl rfl rfl hp4l) rfl ?_
            refine QL.m (ldS_el rfl hm H rfl rfl hp4l) rfl ?_
            refine QL.r (mvL rfl) rfl ?_
            refine QL.r (mvI rfl) rfl ?_
            refine QL.r (ix rfl rfl rfl hj1) rfl ?_
            refine QL.r (fa_el hl.1 rfl) rfl ?_
            refine QL.m (ld_el rfl hl H rfl hj1 rfl) rfl ?_
            -- call stagecoach/stagecoachref10.Wants (tmp 58) (tmp 63)
            refine QL.call (hW) rfl rfl ?_
            first | refine QL.r (notD rfl) rfl ?_ | refine QL.r (not_ rfl) rfl ?_
            refine QL.nil ?_; intro w12 hx; replace H := H.ext hx; replace H10 := H10.ext hx
            refine WP.cond rfl (fun hc => ?_) (fun hc => ?_)
            · refine WP.skip ?_
              refine WP.block ?_
              refine WP.region ?_
              refine RL.r (mvI rfl) rfl ?_
              refine RL.r (add rfl rfl (by omega)) rfl ?_
              refine RL.r (mvL rfl) rfl ?_
              refine RL.r (len_sl rfl) rfl ?_
              refine RL.r (rem rfl rfl (by omega)) rfl ?_
              refine RL.r (asgI rfl) rfl ?_
              refine RL.nil ?_
              refine ⟨k3 - 1, by omega, j3 + 1, (p4 + 1) % m.length, by omega, Head.intro (by repeat (first | with_reducible exact AgreeOff.mix _ _ _ | refine AgreeOff.look rfl ?_ | refine AgreeOff.mixs rfl ?_)) ⟨intE (by rw [Int.natCast_emod]; rfl), trivial⟩, H, hG.ext H10, ?_, ?_⟩
              · rw [hp4, Nat.mod_add_mod, Nat.add_assoc]
              · intro n hn
                rcases Nat.lt_or_ge n j3 with h | h
                · exact hno n h
                · rw [show n = j3 by omega, ← hp4]
                  exact fun h => hc ((wantsAt_iff hp4l).1 h)
            · refine WP.exit ?_
              refine WP.regionS ?_
              have hwt : wantsAt m p4 l[j1].name := (wantsAt_iff hp4l).2 (Classical.not_not.1 hc)
              have hnx := nxt_some hj3 hno (hp4 ▸ hwt)
              rw [← hp4, hpl3, nxt_mod] at hnx
              refine RL.build0 (α := Part) w10.heap.size H10.size rfl ?_
              intro w13 i71 hi71 hx hb71
              replace H := H.ext hx; replace H10 := H10.ext hx; clear hx
              refine RL.r (mvL rfl) rfl ?_
              refine RL.r (mvI rfl) rfl ?_
              refine RL.r (ix rfl rfl rfl (by omega)) rfl ?_
              refine RL.m (ld_e0 rfl hG.head.sl H10 rfl hp4g rfl) rfl ?_
              refine RL.appendS rfl hb71 H10.size rfl ((hG.row p4 hp4g).sl.ext H10) rfl rfl (by decide) rfl cell1 (by simp only [List.length_nil]; omega) (by simp only [maxLen, List.length_nil]; omega) rfl ?_
              intro w14 a76 c76 hu hb76 hfr76
              replace H10 := Ext.own H10 hb71 hu; replace H := H0.trans H10; clear hu
              refine RL.r (asgL rfl) rfl ?_
              refine RL.nil ?_
              refine WP.regionS ?_
              refine RL.r (mvL rfl) rfl ?_
              refine RL.r (mvL rfl) rfl ?_
              refine RL.r (mvI rfl) rfl ?_
              refine RL.r (ix rfl rfl rfl hj1) rfl ?_
              refine RL.r (fa_el hl.1 rfl) rfl ?_
              refine RL.m (ld_el rfl hl H rfl hj1 rfl) rfl ?_
              refine RL.r (mvI rfl) rfl ?_
              refine RL.r (bld rfl rfl) rfl ?_
              refine RL.buildSlice w0.heap.size H.size rfl rfl rfl rfl rfl ?_
              intro w15 i85 hi85 hx hb85
              replace H := H.ext hx; replace H10 := H10.ext hx; replace hb76 := hb76.ext hx; clear hx
              refine RL.appendS rfl hb76 H10.size rfl (show Sl _ _ [(⟨l[j1].name, (j2 : Int)⟩ : Part)] from Box.sl1 hb85) rfl rfl (by decide) rfl cell1 (by simp only [List.length_append, List.length_nil]; omega) (by simp only [maxLen, List.length_append, List.length_nil]; omega) rfl ?_
              intro w16 a86 c86 hu hb86 hfr86
              replace H10 := Ext.own H10 hb76 hu; replace H := H0.trans H10; clear hu
              refine RL.r (asgL rfl) rfl ?_
              refine RL.nil ?_
              refine WP.regionS ?_
              refine RL.r (mvL rfl) rfl ?_
              refine RL.r (mvI rfl) rfl ?_
              refine RL.r (mvL rfl) rfl ?_
              refine RL.r (ix rfl rfl rfl (by omega)) rfl ?_
              have hG1 := hG.head.ext H10
              refine RL.setOwn (u := (⟨a86, c86, [] ++ g3[p4].l ++ [(⟨l[j1].name, (j2 : Int)⟩ : Part)]⟩ : Rw Part)) (i := p4) (off := 0) (v := .slice a86 ([] ++ g3[p4].l ++ [(⟨l[j1].name, (j2 : Int)⟩ : Part)]).length c86) (vs := [.slice a86 ([] ++ g3[p4].l ++ [(⟨l[j1].name, (j2 : Int)⟩ : Part)]).length c86]) rfl hG1 hp4g rfl rfl rfl (Nat.le_of_ble_eq_true rfl) rfl (fun v hv => by obtain rfl := List.mem_singleton.1 hv; rfl) ?_
              intro w99 hu2 hh2
              replace hG := hG.put (by decide) hp4g H10 hb86 (Nat.le_refl _) H0.size hu2 hh2
              replace H := Ext.own H hG1 hu2
              refine RL.nil ?_
              refine WP.region ?_
              refine RL.r (mvI rfl) rfl ?_
              refine RL.r (add rfl rfl (by omega)) rfl ?_
              refine RL.r (mvL rfl) rfl ?_
              refine RL.r (len_sl rfl) rfl ?_
              refine RL.r (rem rfl rfl (by omega)) rfl ?_
              refine RL.r (asgI rfl) rfl ?_
              refine RL.nil ?_
              refine WP.region ?_
              refine RL.r (mvI rfl) rfl ?_
              refine RL.r (add rfl rfl (by omega)) rfl ?_
              refine RL.r (asgI rfl) rfl ?_
              refine RL.nil ?_
              refine ⟨k2 - 1, by omega, j2 + 1, _, (p4 + 1) % m.length, by omega, Head.intro (by repeat (first | with_reducible exact AgreeOff.mix _ _ _ | refine AgreeOff.look rfl ?_ | refine AgreeOff.mixs rfl ?_)) ⟨intE (by rw [Int.natCast_emod]; rfl), rfl, trivial⟩, H, hG, ?_, ?_⟩
              · rw [topR_succ, stepR_some _ hnx, ← hg3]
                unfold rows
                rw [List.map_set]
                apply List.ext_getElem (by simp)
                intro n h1 h2
                simp only [List.getElem_set, List.getElem_modify, List.getElem_map]
                split <;> simp_all
              · rw [topR_succ, stepR_some _ hnx]
        · refine WP.exit ?_
          refine WP.region ?_
          refine RL.r (mvI rfl) rfl ?_
          refine RL.r (add rfl rfl (by omega)) rfl ?_
          refine RL.r (asgI rfl) rfl ?_
          refine RL.nil ?_
          refine ⟨k1 - 1, by omega, j1 + 1, _, _, by omega, Head.intro (by repeat (first | with_reducible exact AgreeOff.mix _ _ _ | refine AgreeOff.look rfl ?_ | refine AgreeOff.mixs rfl ?_)) ⟨rfl, rfl, trivial⟩, H, hG, ?_, ?_⟩
          · rw [hg3, allR_snoc _ _ _ hj1, show j2 = l[j1].n.toNat by omega]
          · rw [hpl3, allR_snoc _ _ _ hj1, show j2 = l[j1].n.toNat by omega]
      · refine WP.exit ?_
        refine WP.regionS ?_
        refine RL.r (mvL rfl) rfl ?_
        refine RL.r (asgL rfl) rfl ?_
        refine RL.r (asgI rfl) rfl ?_
        refine RL.nil ?_
        refine WP.ret ?_
        refine fin2_ret rfl rfl ⟨⟨_, _, g2, tupSl (by rw [rows_length hrows, rows_length hg, allR_length]; simp) hck.symm, hG.gr, ?_⟩, H⟩
        rw [if_pos hck, hg, List.take_of_length_le (by omega)]
        rfl
end Go.Proofs.Ytlkpgeopcdhgjaa
