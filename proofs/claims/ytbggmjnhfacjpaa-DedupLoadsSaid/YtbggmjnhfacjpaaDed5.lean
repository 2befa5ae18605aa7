/-
  The walk of Makers.
-/
import Derived.Test.YtbggmjnhfacjpaaDed4
import Derived.Test.YtbggmjnhfacjpaaSort08
set_option linter.unusedVariables false
namespace Go.Proofs.Ytbggmjnhfacjpaa
open Go Go.Eng Go.RowKit
def mkP (E : List Int) (x : Pl) : Mk := ⟨x.id, ep E x.id, x.part, x.last⟩
def mkQ (E : List Int) (S : List Pl) (q : DKey × Value × Nat) : Mk := ⟨q.1.id, ep E q.1.id, q.1.part, lastD S q.1⟩
theorem rep_at {lb : List (DKey × Value × Nat)} {Hs : List Maker} (h : Rep lb Hs) {q : DKey × Value × Nat} (hq : q ∈ lb) : ∃ r ∈ Hs, key r = q.1 ∧ q.2.1 = .slice r.la r.last.length r.lc := by
  have h1 : prB q ∈ Hs.map prS := h.mem_iff.1 (List.mem_map.2 ⟨q, hq, rfl⟩)
  obtain ⟨r, hr, he⟩ := List.mem_map.1 h1
  exact ⟨r, hr, congrArg Prod.fst he, (congrArg Prod.snd he).symm⟩
theorem lastD_at {Hs : List Maker} (hn : (Hs.map key).Nodup) {r : Maker} (hr : r ∈ Hs) : lastD (Hs.map Maker.pl) (key r) = r.last := lastD_some (x := r.pl) (by rw [eGet_pl, eGet_mem hn hr]; rfl)
theorem mkQ_perm {E : List Int} {lb : List (DKey × Value × Nat)} {Hs : List Maker} (h : Rep lb Hs) (hn : (Hs.map key).Nodup) : (lb.map (mkQ E (Hs.map Maker.pl))).Perm ((Hs.map Maker.pl).map (mkP E)) := by
  have h1 := (rep_keys h).map fun k => (⟨k.id, ep E k.id, k.part, lastD (Hs.map Maker.pl) k⟩ : Mk)
  rw [List.map_map, List.map_map] at h1
  refine h1.trans (List.Perm.of_eq ?_)
  rw [List.map_map]
  apply List.map_congr_left
  intro r hr
  show (⟨(key r).id, ep E (key r).id, (key r).part, lastD (Hs.map Maker.pl) (key r)⟩ : Mk) = ⟨r.id, ep E r.id, r.part, r.last⟩
  rw [lastD_at hn hr]
  rfl
theorem mk_keys (L : List Maker) : (L.map Maker.mk').map key = L.map key := by rw [List.map_map]; rfl
theorem mkP_keys (E : List Int) (S : List Pl) : (S.map (mkP E)).map key = S.map key := by rw [List.map_map]; rfl
theorem mkP_srt {E : List Int} {S : List Pl} (h : S.Pairwise bfr) : (S.map (mkP E)).Pairwise bfr := by
  rw [List.pairwise_map]
  exact h
theorem mk_srt {L : List Maker} (h : L.Pairwise bfr) : (L.map Maker.mk').Pairwise bfr := by
  rw [List.pairwise_map]
  exact h
/-- what is told, sorted -/
theorem makers_eq {E : List Int} {lb done : List (DKey × Value × Nat)} {Hs L L2 : List Maker} {S : List Pl} (hr : Rep lb Hs) (hn : (lb.map (·.1)).Nodup) (hHS : Hs.map Maker.pl = S) (hS : S.Pairwise bfr) (hd : done.Perm lb) (hL : L.map Maker.mk' = done.map (mkQ E S)) (hp : L2.Perm L) (hs : L2.Pairwise fun x y => ¬ ordMk y x < 0) : L2.map Maker.mk' = S.map (mkP E) := by
  have hHn := rep_nodup hr hn
  have hp1 : (L2.map Maker.mk').Perm (S.map (mkP E)) := by
    refine (hp.map _).trans ?_
    rw [hL]
    refine (hd.map _).trans ?_
    have := mkQ_perm (E := E) hr hHn
    rw [hHS] at this
    exact this
  have hk : (L2.map key).Nodup := by
    rw [← mk_keys]
    refine ((hp1.map key).nodup_iff).2 ?_
    rw [mkP_keys]
    exact srt_nodup hS
  exact sorted_eq (mk_srt (sorted_mk hk hs)) (mkP_srt hS) hp1
set_option maxRecDepth 20000 in
set_option maxHeartbeats 12800000 in
theorem pMakers (w0 : World) (B i : Nat) (Z : Nat → Prop) (D : Ds) (hT : Tg B w0 i Z D) (K : Int) (M : Nat) (hok : okD K M D) (hM : M ≤ 100000) :
    Ct Try.prog 21 #[.pointer (some ⟨i, 0, none⟩)] w0 fun v w' => (∃ a' c' L, v = .slice a' L.length c' ∧ Own w0.heap.size w' 33 a' c' L ∧ OwnsD w0.heap.size w' L ∧ L.map Maker.mk' = D.S.map (mkP D.E)) ∧ Ext w0 w' := by
  refine Ct.intro1 Try.func21 Try.ntmps21 rfl rfl (by decide) rfl ?_
  have H : Ext w0 w0 := Ext.refl w0
  obtain ⟨m, a, c, Hs, hL0, hHS, hZ⟩ := hT.at_
  have hbt := hL0.box
  have hE := hL0.eps
  have hO := hL0.own
  obtain ⟨lb, cc, hm, hr⟩ := hL0.map
  have hmnod := hm.nod
  have hstm := hm.nob
  have hl32 := hok.len
  have hcnt := hok.cnt
  have hln := rep_len hr
  have hHl : Hs.length = D.S.length := by rw [← hHS, List.length_map]
  refine WP.regionS ?_
  refine RL.r (asgL rfl) rfl ?_
  refine RL.nil ?_
  refine WP.regionS ?_
  refine RL.r (asgL rfl) rfl ?_
  refine RL.nil ?_
  refine WP.seq ?_
  refine WP.regionS ?_
  refine RL.r (mvP rfl) rfl ?_
  refine RL.r (nilck rfl) rfl ?_
  refine RL.r (fa_box rfl) rfl ?_
  refine RL.m (ld_box rfl hbt rfl) rfl ?_
  refine RL.rangeM rfl hm rfl ?_
  intro w1 it hit hx hI
  have hitB : w0.heap.size ≤ it := by have := H.size; omega
  replace H := H.ext hx; replace hbt := hbt.ext hx; replace hm := hm.ext hx; replace hE := hE.ext hx; replace hO := hO.ext hx; clear hx
  refine RL.nil ?_
  refine WP.block ?_
  refine WP.loop (fun k e' w' => ∃ j : Nat, ∃ (done : List (DKey × Value × Nat)) (seen : Array Nat) (a3 : Option Addr) (c3 : Nat) (L : List Maker),  j + k = lb.length ∧ Head [3, 4, 5, 11, 12, 13, 14, 15, 16, 17, 18, 19, 20, 21, 22, 23, 24, 25, 26, 27, 28, 29, 30, 31, 32, 33, 34] _ [(3, .slice a3 L.length c3)] e' ∧ Ext w0 w' ∧ Box B w' i 71 [.slice a D.E.length c, .map (some m)] ∧ ItM w' it m cc seen ∧ Seen lb done seen ∧ done.length = j ∧ MpD B w' m lb cc ∧ Own B w' 3 a c D.E ∧ OwnsD B w' Hs ∧ Own w0.heap.size w' 33 a3 c3 L ∧ OwnsD w0.heap.size w' L ∧ L.map Maker.mk' = done.map (mkQ D.E D.S)) (lb.length)
    ⟨0, [], #[], none, 0, [], by omega, Head.intro (AgreeOff.refl _ _) ⟨rfl, trivial⟩, H, hbt, hI, Seen.nil lb, rfl, hm, hE, hO, Own.nil _ _ _, OwnsD.nil _ _, rfl⟩ ?_
  clear H hbt hm hE hO
  rintro k e w2 ⟨j, done, seen, a3, c3, L, hjk, ⟨jk, rfl⟩, H, hbt, hI, hS, hdl, hm, hE, hO, hL, hLO, hLm⟩
  have hle1 := hS.le
  have hLl : L.length = done.length := by have := congrArg List.length hLm; simpa using this
  refine WP.regionS ?_
  refine RL.nextM rfl hI hm rfl ?_
  intro w3 o hu ho
  have hne := hI.ne hm
  have hnb := hI.neb hbt
  replace H := H.box hu hitB
  replace hbt := hbt.upd hu (Ne.symm hnb)
  replace hm := hm.upd hu (Ne.symm hne)
  replace hO := hO.upd hu (fun x hx j hj e => hI.nea (hO.own x hx) (e ▸ hj))
  replace hE := hE.upd hu (fun j hj e => hI.nea hE (e ▸ hj))
  replace hL := hL.upd hu (fun j hj e => hI.nea hL (e ▸ hj))
  replace hLO := hLO.upd hu (fun x hx j hj e => hI.nea (hLO.own x hx) (e ▸ hj))
  clear hI hu
  refine RL.r (ex0k rfl) rfl ?_
  refine RL.nil ?_
  refine WP.seq ?_
  refine WP.cond rfl (fun hc => ?_) (fun hc => ?_)
  · refine WP.skip ?_
    refine WP.block ?_
    refine WP.regionS ?_
    obtain ⟨q, rfl⟩ := Option.ne_none_iff_exists'.1 hc
    obtain ⟨hq, hqs, hI⟩ := ho
    have hS2 := hS.push hq hqs
    have hle2 := hS2.le
    rw [List.length_append, List.length_singleton] at hle2
    obtain ⟨r, hrH, hrk, hqv⟩ := rep_at hr hq
    have hrid : isD D.E q.1.id := by
      have h := hok.id r.pl (by rw [← hHS]; exact List.mem_map.2 ⟨r, hrH, rfl⟩)
      rw [← hrk]; exact h
    have hrl : r.last.length ≤ 5 := (hok.row r.pl (by rw [← hHS]; exact List.mem_map.2 ⟨r, hrH, rfl⟩)).2.1
    obtain ⟨ji, hj, hje, hep⟩ := isD_at hrid
    have hid1 := hrid.1
    have hid2 := hrid.2
    have hmq : mkQ D.E D.S q = ⟨q.1.id, D.E[ji], q.1.part, r.last⟩ := by
      unfold mkQ
      rw [hep, ← hrk, ← hHS, lastD_at (rep_nodup hr hmnod) hrH]
    refine RL.m (entK rfl hI hm hq hqv) rfl ?_
    refine RL.r (ex0 rfl) rfl ?_
    refine RL.r (ex1 rfl) rfl ?_
    refine RL.alloc w0.heap.size H.size rfl rfl ?_
    intro w4 i4 hi4 hx hb4
    have net_4 := hbt.ne hi4
    refine RL.storeS rfl hb4 rfl rfl rfl rfl ?_
    intro w5 hu hb4
    replace hx := hx.box hu (Nat.le_of_eq hi4.symm)
    replace H := H.ext hx; replace hbt := hbt.ext hx; replace hI := hI.ext hx; replace hm := hm.ext hx; replace hE := hE.ext hx; replace hO := hO.ext hx; replace hL := hL.ext hx; replace hLO := hLO.ext hx; clear hx hu
    refine RL.r (asgL rfl) rfl ?_
    refine RL.nil ?_
    refine WP.cutN (α := Option Addr × Nat × List Maker) [3, 16, 17, 18, 19, 20, 21, 22, 23, 24, 25, 26, 27, 28, 29, 30, 31, 32, 33, 34] (fun x => [(3, .slice x.1 x.2.2.length x.2.1)]) (fun x w' => Ext w0 w' ∧ Box B w' i 71 [.slice a D.E.length c, .map (some m)] ∧ Box w0.heap.size w' i4 76 (Lies.enc q.1) ∧ ItM w' it m cc (seen.push q.2.2) ∧ MpD B w' m lb cc ∧ Own B w' 3 a c D.E ∧ OwnsD B w' Hs ∧ Own w0.heap.size w' 33 x.1 x.2.1 x.2.2 ∧ OwnsD w0.heap.size w' x.2.2 ∧ (x.2.2).map Maker.mk' = (done ++ [q]).map (mkQ D.E D.S)) ?_ ?_
    · refine WP.any ?_
      intro w6 hx; replace H := H.ext hx; replace hbt := hbt.ext hx; replace hb4 := hb4.ext hx; replace hI := hI.ext hx; replace hm := hm.ext hx; replace hE := hE.ext hx; replace hO := hO.ext hx; replace hL := hL.ext hx; replace hLO := hLO.ext hx
      refine AL.p 0 (by kernel_rfl) rfl (mvL rfl) rfl ?_
      refine AL.p 1 (by kernel_rfl) rfl (fa_box rfl) rfl ?_
      refine AL.p 3 (by kernel_rfl) rfl (mvP rfl) rfl ?_
      refine AL.p 4 (by kernel_rfl) rfl (nilck rfl) rfl ?_
      refine AL.p 5 (by kernel_rfl) rfl (fa_box rfl) rfl ?_
      refine AL.p 7 (by kernel_rfl) rfl (fa_box rfl) rfl ?_
      refine AL.p 12 (by kernel_rfl) rfl (fa_box rfl) rfl ?_
      refine AL.p 14 (by kernel_rfl) rfl (mvL rfl) rfl ?_
      refine AL.all (rs := [2, 6, 8, 13, 15]) (by kernel_rfl) rfl ?_
      rintro i hi; simp only [List.mem_cons, List.not_mem_nil, or_false] at hi; rcases hi with rfl | rfl | rfl | rfl | rfl
      · refine ⟨_, rfl, ?_⟩
        refine RL.m (ld_box rfl hb4 rfl) rfl ?_
        refine RL.nil ?_
        refine AL.all (rs := [6, 8, 13, 15]) (by kernel_rfl) rfl ?_
        rintro i hi; simp only [List.mem_cons, List.not_mem_nil, or_false] at hi; rcases hi with rfl | rfl | rfl | rfl
        · refine ⟨_, rfl, ?_⟩
          refine RL.m (ld_box rfl hbt rfl) rfl ?_
          refine RL.nil ?_
          refine AL.all (rs := [8, 13, 15]) (by kernel_rfl) rfl ?_
          rintro i hi; simp only [List.mem_cons, List.not_mem_nil, or_false] at hi; rcases hi with rfl | rfl | rfl
          · refine ⟨_, rfl, ?_⟩
            refine RL.m (ld_box rfl hb4 rfl) rfl ?_
            refine RL.nil ?_
            refine AL.p 9 (by kernel_rfl) rfl (sub rfl rfl (by omega)) rfl ?_
            refine AL.p 10 (by kernel_rfl) rfl (ix_o rfl rfl hje hj (hE.sl.someA (by decide) hj)) rfl ?_
            -- call slices.Clone[[]stagecoach/api.Did,stagecoach/api.Did] (tmp 30)
            have hs6 := H.size
            have hlt := fun (y : Maker) (hy : y ∈ L) (j : Nat) (hj : inBlock y.la j) => ((hLO.own y hy).blk hj).2
            refine AL.x 15 (by kernel_rfl) rfl rfl (fun w' hw' => pCloneD _ r.la r.lc r.last ((hO.own r hrH).sl.ext (by first | exact hw' | exact Ext.refl _)) (by omega)) ?_
            refine AX.m 11 (by kernel_rfl) rfl rfl (ld_o0 rfl hE.sl (Ext.refl _) rfl hj rfl (by decide)) rfl ?_
            refine AX.m 13 (by kernel_rfl) rfl rfl (ldS_box rfl hb4 (Nat.le_of_ble_eq_true rfl) rfl) rfl ?_
            refine AX.o (by kernel_rfl) rfl ?_
            rintro v w7 ⟨⟨a5, c5, rfl, hC⟩, hx⟩
            replace H := H.ext hx; replace hbt := hbt.ext hx; replace hb4 := hb4.ext hx; replace hI := hI.ext hx; replace hm := hm.ext hx; replace hE := hE.ext hx; replace hO := hO.ext hx; replace hL := hL.ext hx; replace hLO := hLO.ext hx
            refine AL.p 16 (by kernel_rfl) rfl (bld rfl rfl) rfl ?_
            refine AL.o 17 (by kernel_rfl) rfl ?_
            refine RL.buildSlice w0.heap.size H.size rfl rfl rfl rfl rfl ?_
            intro w8 i33 hi33 hx hb33
            replace H := H.ext hx; replace hbt := hbt.ext hx; replace hb4 := hb4.ext hx; replace hI := hI.ext hx; replace hm := hm.ext hx; replace hE := hE.ext hx; replace hO := hO.ext hx; replace hL := hL.ext hx; replace hLO := hLO.ext hx; replace hC := hC.ext hx; clear hx
            refine RL.nil ?_
            refine AL.o 18 (by kernel_rfl) rfl ?_
            refine RL.appendS rfl hL H.size rfl (show Sl _ _ [(⟨q.1.id, D.E[ji], q.1.part, a5, c5, r.last⟩ : Maker)] from Box.sl1 hb33) rfl rfl (by decide) rfl cell1 (by omega) (by simp only [maxLen]; omega) rfl ?_
            intro w9 a34 c34 hu hb34 hfr34
            replace hbt := hbt.upd hu (fun h => hL.box_apart hbt (by decide) h)
            replace hb4 := hb4.upd hu (fun h => hL.box_apart hb4 (by decide) h)
            replace hI := hI.upd hu (hI.nea hL)
            replace hm := hm.upd hu (hm.nea hL)
            replace hE := hE.upd hu (fun j hj e => hE.apart hL (by decide) hj e)
            replace hO := hO.ow hL (by decide) hu
            replace hLO := hLO.ow hL (by decide) hu
            replace hC := hC.upd hu (fun j hj e => hC.apart hL (by decide) hj e)
            replace H := Ext.own H hL hu
            have hLO2 := hLO.snoc (s := (⟨q.1.id, D.E[ji], q.1.part, a5, c5, r.last⟩ : Maker)) (hC.mono hs6) (fun y hy j hj hj2 => by have h1 := hlt y hy j hj; have h2 := (hC.blk hj2).1; omega)
            refine RL.nil ?_
            refine AL.p 19 (by kernel_rfl) rfl (asgL rfl) rfl ?_
            refine AL.nil (by kernel_rfl) ?_
            refine ⟨(a34, c34, L ++ [(⟨q.1.id, D.E[ji], q.1.part, a5, c5, r.last⟩ : Maker)]), Head.intro (by repeat (first | with_reducible exact AgreeOff.refl _ _ | with_reducible exact AgreeOff.mix _ _ _ | refine AgreeOff.look rfl ?_ | refine AgreeOff.mixs rfl ?_)) ⟨rfl, trivial⟩, H, hbt, hb4, hI, hm, hE, hO, hb34, hLO2, by rw [List.map_append, List.map_append, hLm]; simp only [List.map_cons, List.map_nil, hmq]; rfl⟩
          · refine ⟨_, rfl, ?_⟩
            refine RL.m (ldS_box rfl hb4 (Nat.le_of_ble_eq_true rfl) rfl) rfl ?_
            refine RL.nil ?_
            refine AL.all (rs := [8, 15]) (by kernel_rfl) rfl ?_
            rintro i hi; simp only [List.mem_cons, List.not_mem_nil, or_false] at hi; rcases hi with rfl | rfl
            · refine ⟨_, rfl, ?_⟩
              refine RL.m (ld_box rfl hb4 rfl) rfl ?_
              refine RL.nil ?_
              refine AL.p 9 (by kernel_rfl) rfl (sub rfl rfl (by omega)) rfl ?_
              refine AL.p 10 (by kernel_rfl) rfl (ix_o rfl rfl hje hj (hE.sl.someA (by decide) hj)) rfl ?_
              -- call slices.Clone[[]stagecoach/api.Did,stagecoach/api.Did] (tmp 30)
              have hs6 := H.size
              have hlt := fun (y : Maker) (hy : y ∈ L) (j : Nat) (hj : inBlock y.la j) => ((hLO.own y hy).blk hj).2
              refine AL.x 15 (by kernel_rfl) rfl rfl (fun w' hw' => pCloneD _ r.la r.lc r.last ((hO.own r hrH).sl.ext (by first | exact hw' | exact Ext.refl _)) (by omega)) ?_
              refine AX.m 11 (by kernel_rfl) rfl rfl (ld_o0 rfl hE.sl (Ext.refl _) rfl hj rfl (by decide)) rfl ?_
              refine AX.o (by kernel_rfl) rfl ?_
              rintro v w10 ⟨⟨a5, c5, rfl, hC⟩, hx⟩
              replace H := H.ext hx; replace hbt := hbt.ext hx; replace hb4 := hb4.ext hx; replace hI := hI.ext hx; replace hm := hm.ext hx; replace hE := hE.ext hx; replace hO := hO.ext hx; replace hL := hL.ext hx; replace hLO := hLO.ext hx
              refine AL.p 16 (by kernel_rfl) rfl (bld rfl rfl) rfl ?_
              refine AL.o 17 (by kernel_rfl) rfl ?_
              refine RL.buildSlice w0.heap.size H.size rfl rfl rfl rfl rfl ?_
              intro w11 i33 hi33 hx hb33
              replace H := H.ext hx; replace hbt := hbt.ext hx; replace hb4 := hb4.ext hx; replace hI := hI.ext hx; replace hm := hm.ext hx; replace hE := hE.ext hx; replace hO := hO.ext hx; replace hL := hL.ext hx; replace hLO := hLO.ext hx; replace hC := hC.ext hx; clear hx
              refine RL.nil ?_
              refine AL.o 18 (by kernel_rfl) rfl ?_
              refine RL.appendS rfl hL H.size rfl (show Sl _ _ [(⟨q.1.id, D.E[ji], q.1.part, a5, c5, r.last⟩ : Maker)] from Box.sl1 hb33) rfl rfl (by decide) rfl cell1 (by omega) (by simp only [maxLen]; omega) rfl ?_
              intro w12 a34 c34 hu hb34 hfr34
              replace hbt := hbt.upd hu (fun h => hL.box_apart hbt (by decide) h)
              replace hb4 := hb4.upd hu (fun h => hL.box_apart hb4 (by decide) h)
              replace hI := hI.upd hu (hI.nea hL)
              replace hm := hm.upd hu (hm.nea hL)
              replace hE := hE.upd hu (fun j hj e => hE.apart hL (by decide) hj e)
              replace hO := hO.ow hL (by decide) hu
              replace hLO := hLO.ow hL (by decide) hu
              replace hC := hC.upd hu (fun j hj e => hC.apart hL (by decide) hj e)
              replace H := Ext.own H hL hu
              have hLO2 := hLO.snoc (s := (⟨q.1.id, D.E[ji], q.1.part, a5, c5, r.last⟩ : Maker)) (hC.mono hs6) (fun y hy j hj hj2 => by have h1 := hlt y hy j hj; have h2 := (hC.blk hj2).1; omega)
              refine RL.nil ?_
              refine AL.p 19 (by kernel_rfl) rfl (asgL rfl) rfl ?_
              refine AL.nil (by kernel_rfl) ?_
              refine ⟨(a34, c34, L ++ [(⟨q.1.id, D.E[ji], q.1.part, a5, c5, r.last⟩ : Maker)]), Head.intro (by repeat (first | with_reducible exact AgreeOff.refl _ _ | with_reducible exact AgreeOff.mix _ _ _ | refine AgreeOff.look rfl ?_ | refine AgreeOff.mixs rfl ?_)) ⟨rfl, trivial⟩, H, hbt, hb4, hI, hm, hE, hO, hb34, hLO2, by rw [List.map_append, List.map_append, hLm]; simp only [List.map_cons, List.map_nil, hmq]; rfl⟩
            · refine ⟨_, rfl, ?_⟩
              -- call slices.Clone[[]stagecoach/api.Did,stagecoach/api.Did] (tmp 30)
              have hs6 := H.size
              have hlt := fun (y : Maker) (hy : y ∈ L) (j : Nat) (hj : inBlock y.la j) => ((hLO.own y hy).blk hj).2
              refine RL.call (pCloneD _ r.la r.lc r.last ((hO.own r hrH).sl.ext (by first | exact hw' | exact Ext.refl _)) (by omega)) rfl rfl ?_
              rintro v w13 ⟨⟨a5, c5, rfl, hC⟩, hx⟩
              replace H := H.ext hx; replace hbt := hbt.ext hx; replace hb4 := hb4.ext hx; replace hI := hI.ext hx; replace hm := hm.ext hx; replace hE := hE.ext hx; replace hO := hO.ext hx; replace hL := hL.ext hx; replace hLO := hLO.ext hx
              refine RL.nil ?_
              refine AL.m 8 (by kernel_rfl) rfl (ld_box rfl hb4 rfl) rfl ?_
              refine AL.p 9 (by kernel_rfl) rfl (sub rfl rfl (by omega)) rfl ?_
              refine AL.p 10 (by kernel_rfl) rfl (ix_o rfl rfl hje hj (hE.sl.someA (by decide) hj)) rfl ?_
              refine AL.m 11 (by kernel_rfl) rfl (ld_o0 rfl hE.sl (Ext.refl _) rfl hj rfl (by decide)) rfl ?_
              refine AL.p 16 (by kernel_rfl) rfl (bld rfl rfl) rfl ?_
              refine AL.o 17 (by kernel_rfl) rfl ?_
              refine RL.buildSlice w0.heap.size H.size rfl rfl rfl rfl rfl ?_
              intro w14 i33 hi33 hx hb33
              replace H := H.ext hx; replace hbt := hbt.ext hx; replace hb4 := hb4.ext hx; replace hI := hI.ext hx; replace hm := hm.ext hx; replace hE := hE.ext hx; replace hO := hO.ext hx; replace hL := hL.ext hx; replace hLO := hLO.ext hx; replace hC := hC.ext hx; clear hx
              refine RL.nil ?_
              refine AL.o 18 (by kernel_rfl) rfl ?_
              refine RL.appendS rfl hL H.size rfl (show Sl _ _ [(⟨q.1.id, D.E[ji], q.1.part, a5, c5, r.last⟩ : Maker)] from Box.sl1 hb33) rfl rfl (by decide) rfl cell1 (by omega) (by simp only [maxLen]; omega) rfl ?_
              intro w15 a34 c34 hu hb34 hfr34
              replace hbt := hbt.upd hu (fun h => hL.box_apart hbt (by decide) h)
              replace hb4 := hb4.upd hu (fun h => hL.box_apart hb4 (by decide) h)
              replace hI := hI.upd hu (hI.nea hL)
              replace hm := hm.upd hu (hm.nea hL)
              replace hE := hE.upd hu (fun j hj e => hE.apart hL (by decide) hj e)
              replace hO := hO.ow hL (by decide) hu
              replace hLO := hLO.ow hL (by decide) hu
              replace hC := hC.upd hu (fun j hj e => hC.apart hL (by decide) hj e)
              replace H := Ext.own H hL hu
              have hLO2 := hLO.snoc (s := (⟨q.1.id, D.E[ji], q.1.part, a5, c5, r.last⟩ : Maker)) (hC.mono hs6) (fun y hy j hj hj2 => by have h1 := hlt y hy j hj; have h2 := (hC.blk hj2).1; omega)
              refine RL.nil ?_
              refine AL.p 19 (by kernel_rfl) rfl (asgL rfl) rfl ?_
              refine AL.nil (by kernel_rfl) ?_
              refine ⟨(a34, c34, L ++ [(⟨q.1.id, D.E[ji], q.1.part, a5, c5, r.last⟩ : Maker)]), Head.intro (by repeat (first | with_reducible exact AgreeOff.refl _ _ | with_reducible exact AgreeOff.mix _ _ _ | refine AgreeOff.look rfl ?_ | refine AgreeOff.mixs rfl ?_)) ⟨rfl, trivial⟩, H, hbt, hb4, hI, hm, hE, hO, hb34, hLO2, by rw [List.map_append, List.map_append, hLm]; simp only [List.map_cons, List.map_nil, hmq]; rfl⟩
          · refine ⟨_, rfl, ?_⟩
            -- call slices.Clone[[]stagecoach/api.Did,stagecoach/api.Did] (tmp 30)
            have hs6 := H.size
            have hlt := fun (y : Maker) (hy : y ∈ L) (j : Nat) (hj : inBlock y.la j) => ((hLO.own y hy).blk hj).2
            refine RL.call (pCloneD _ r.la r.lc r.last ((hO.own r hrH).sl.ext (by first | exact hw' | exact Ext.refl _)) (by omega)) rfl rfl ?_
            rintro v w16 ⟨⟨a5, c5, rfl, hC⟩, hx⟩
            replace H := H.ext hx; replace hbt := hbt.ext hx; replace hb4 := hb4.ext hx; replace hI := hI.ext hx; replace hm := hm.ext hx; replace hE := hE.ext hx; replace hO := hO.ext hx; replace hL := hL.ext hx; replace hLO := hLO.ext hx
            refine RL.nil ?_
            refine AL.m 8 (by kernel_rfl) rfl (ld_box rfl hb4 rfl) rfl ?_
            refine AL.p 9 (by kernel_rfl) rfl (sub rfl rfl (by omega)) rfl ?_
            refine AL.p 10 (by kernel_rfl) rfl (ix_o rfl rfl hje hj (hE.sl.someA (by decide) hj)) rfl ?_
            refine AL.m 11 (by kernel_rfl) rfl (ld_o0 rfl hE.sl (Ext.refl _) rfl hj rfl (by decide)) rfl ?_
            refine AL.m 13 (by kernel_rfl) rfl (ldS_box rfl hb4 (Nat.le_of_ble_eq_true rfl) rfl) rfl ?_
            refine AL.p 16 (by kernel_rfl) rfl (bld rfl rfl) rfl ?_
            refine AL.o 17 (by kernel_rfl) rfl ?_
            refine RL.buildSlice w0.heap.size H.size rfl rfl rfl rfl rfl ?_
            intro w17 i33 hi33 hx hb33
            replace H := H.ext hx; replace hbt := hbt.ext hx; replace hb4 := hb4.ext hx; replace hI := hI.ext hx; replace hm := hm.ext hx; replace hE := hE.ext hx; replace hO := hO.ext hx; replace hL := hL.ext hx; replace hLO := hLO.ext hx; replace hC := hC.ext hx; clear hx
            refine RL.nil ?_
            refine AL.o 18 (by kernel_rfl) rfl ?_
            refine RL.appendS rfl hL H.size rfl (show Sl _ _ [(⟨q.1.id, D.E[ji], q.1.part, a5, c5, r.last⟩ : Maker)] from Box.sl1 hb33) rfl rfl (by decide) rfl cell1 (by omega) (by simp only [maxLen]; omega) rfl ?_
            intro w18 a34 c34 hu hb34 hfr34
            replace hbt := hbt.upd hu (fun h => hL.box_apart hbt (by decide) h)
            replace hb4 := hb4.upd hu (fun h => hL.box_apart hb4 (by decide) h)
            replace hI := hI.upd hu (hI.nea hL)
            replace hm := hm.upd hu (hm.nea hL)
            replace hE := hE.upd hu (fun j hj e => hE.apart hL (by decide) hj e)
            replace hO := hO.ow hL (by decide) hu
            replace hLO := hLO.ow hL (by decide) hu
            replace hC := hC.upd hu (fun j hj e => hC.apart hL (by decide) hj e)
            replace H := Ext.own H hL hu
            have hLO2 := hLO.snoc (s := (⟨q.1.id, D.E[ji], q.1.part, a5, c5, r.last⟩ : Maker)) (hC.mono hs6) (fun y hy j hj hj2 => by have h1 := hlt y hy j hj; have h2 := (hC.blk hj2).1; omega)
            refine RL.nil ?_
            refine AL.p 19 (by kernel_rfl) rfl (asgL rfl) rfl ?_
            refine AL.nil (by kernel_rfl) ?_
            refine ⟨(a34, c34, L ++ [(⟨q.1.id, D.E[ji], q.1.part, a5, c5, r.last⟩ : Maker)]), Head.intro (by repeat (first | with_reducible exact AgreeOff.refl _ _ | with_reducible exact AgreeOff.mix _ _ _ | refine AgreeOff.look rfl ?_ | refine AgreeOff.mixs rfl ?_)) ⟨rfl, trivial⟩, H, hbt, hb4, hI, hm, hE, hO, hb34, hLO2, by rw [List.map_append, List.map_append, hLm]; simp only [List.map_cons, List.map_nil, hmq]; rfl⟩
        · refine ⟨_, rfl, ?_⟩
          refine RL.m (ld_box rfl hb4 rfl) rfl ?_
          refine RL.nil ?_
          refine AL.p 9 (by kernel_rfl) rfl (sub rfl rfl (by omega)) rfl ?_
          -- call slices.Clone[[]stagecoach/api.Did,stagecoach/api.Did] (tmp 30)
          have hs6 := H.size
          have hlt := fun (y : Maker) (hy : y ∈ L) (j : Nat) (hj : inBlock y.la j) => ((hLO.own y hy).blk hj).2
          refine AL.x 15 (by kernel_rfl) rfl rfl (fun w' hw' => pCloneD _ r.la r.lc r.last ((hO.own r hrH).sl.ext (by first | exact hw' | exact Ext.refl _)) (by omega)) ?_
          refine AX.m 6 (by kernel_rfl) rfl rfl (ld_box rfl hbt rfl) rfl ?_
          refine AX.m 10 (by kernel_rfl) rfl rfl (Pure.does (ix_o rfl rfl hje hj (hE.sl.someA (by decide) hj)) _) rfl ?_
          refine AX.m 11 (by kernel_rfl) rfl rfl (ld_o0 rfl hE.sl (Ext.refl _) rfl hj rfl (by decide)) rfl ?_
          refine AX.m 13 (by kernel_rfl) rfl rfl (ldS_box rfl hb4 (Nat.le_of_ble_eq_true rfl) rfl) rfl ?_
          refine AX.o (by kernel_rfl) rfl ?_
          rintro v w19 ⟨⟨a5, c5, rfl, hC⟩, hx⟩
          replace H := H.ext hx; replace hbt := hbt.ext hx; replace hb4 := hb4.ext hx; replace hI := hI.ext hx; replace hm := hm.ext hx; replace hE := hE.ext hx; replace hO := hO.ext hx; replace hL := hL.ext hx; replace hLO := hLO.ext hx
          refine AL.p 16 (by kernel_rfl) rfl (bld rfl rfl) rfl ?_
          refine AL.o 17 (by kernel_rfl) rfl ?_
          refine RL.buildSlice w0.heap.size H.size rfl rfl rfl rfl rfl ?_
          intro w20 i33 hi33 hx hb33
          replace H := H.ext hx; replace hbt := hbt.ext hx; replace hb4 := hb4.ext hx; replace hI := hI.ext hx; replace hm := hm.ext hx; replace hE := hE.ext hx; replace hO := hO.ext hx; replace hL := hL.ext hx; replace hLO := hLO.ext hx; replace hC := hC.ext hx; clear hx
          refine RL.nil ?_
          refine AL.o 18 (by kernel_rfl) rfl ?_
          refine RL.appendS rfl hL H.size rfl (show Sl _ _ [(⟨q.1.id, D.E[ji], q.1.part, a5, c5, r.last⟩ : Maker)] from Box.sl1 hb33) rfl rfl (by decide) rfl cell1 (by omega) (by simp only [maxLen]; omega) rfl ?_
          intro w21 a34 c34 hu hb34 hfr34
          replace hbt := hbt.upd hu (fun h => hL.box_apart hbt (by decide) h)
          replace hb4 := hb4.upd hu (fun h => hL.box_apart hb4 (by decide) h)
          replace hI := hI.upd hu (hI.nea hL)
          replace hm := hm.upd hu (hm.nea hL)
          replace hE := hE.upd hu (fun j hj e => hE.apart hL (by decide) hj e)
          replace hO := hO.ow hL (by decide) hu
          replace hLO := hLO.ow hL (by decide) hu
          replace hC := hC.upd hu (fun j hj e => hC.apart hL (by decide) hj e)
          replace H := Ext.own H hL hu
          have hLO2 := hLO.snoc (s := (⟨q.1.id, D.E[ji], q.1.part, a5, c5, r.last⟩ : Maker)) (hC.mono hs6) (fun y hy j hj hj2 => by have h1 := hlt y hy j hj; have h2 := (hC.blk hj2).1; omega)
          refine RL.nil ?_
          refine AL.p 19 (by kernel_rfl) rfl (asgL rfl) rfl ?_
          refine AL.nil (by kernel_rfl) ?_
          refine ⟨(a34, c34, L ++ [(⟨q.1.id, D.E[ji], q.1.part, a5, c5, r.last⟩ : Maker)]), Head.intro (by repeat (first | with_reducible exact AgreeOff.refl _ _ | with_reducible exact AgreeOff.mix _ _ _ | refine AgreeOff.look rfl ?_ | refine AgreeOff.mixs rfl ?_)) ⟨rfl, trivial⟩, H, hbt, hb4, hI, hm, hE, hO, hb34, hLO2, by rw [List.map_append, List.map_append, hLm]; simp only [List.map_cons, List.map_nil, hmq]; rfl⟩
        · refine ⟨_, rfl, ?_⟩
          refine RL.m (ldS_box rfl hb4 (Nat.le_of_ble_eq_true rfl) rfl) rfl ?_
          refine RL.nil ?_
          refine AL.all (rs := [6, 8, 15]) (by kernel_rfl) rfl ?_
          rintro i hi; simp only [List.mem_cons, List.not_mem_nil, or_false] at hi; rcases hi with rfl | rfl | rfl
          · refine ⟨_, rfl, ?_⟩
            refine RL.m (ld_box rfl hbt rfl) rfl ?_
            refine RL.nil ?_
            refine AL.all (rs := [8, 15]) (by kernel_rfl) rfl ?_
            rintro i hi; simp only [List.mem_cons, List.not_mem_nil, or_false] at hi; rcases hi with rfl | rfl
            · refine ⟨_, rfl, ?_⟩
              refine RL.m (ld_box rfl hb4 rfl) rfl ?_
              refine RL.nil ?_
              refine AL.p 9 (by kernel_rfl) rfl (sub rfl rfl (by omega)) rfl ?_
              refine AL.p 10 (by kernel_rfl) rfl (ix_o rfl rfl hje hj (hE.sl.someA (by decide) hj)) rfl ?_
              -- call slices.Clone[[]stagecoach/api.Did,stagecoach/api.Did] (tmp 30)
              have hs6 := H.size
              have hlt := fun (y : Maker) (hy : y ∈ L) (j : Nat) (hj : inBlock y.la j) => ((hLO.own y hy).blk hj).2
              refine AL.x 15 (by kernel_rfl) rfl rfl (fun w' hw' => pCloneD _ r.la r.lc r.last ((hO.own r hrH).sl.ext (by first | exact hw' | exact Ext.refl _)) (by omega)) ?_
              refine AX.m 11 (by kernel_rfl) rfl rfl (ld_o0 rfl hE.sl (Ext.refl _) rfl hj rfl (by decide)) rfl ?_
              refine AX.o (by kernel_rfl) rfl ?_
              rintro v w22 ⟨⟨a5, c5, rfl, hC⟩, hx⟩
              replace H := H.ext hx; replace hbt := hbt.ext hx; replace hb4 := hb4.ext hx; replace hI := hI.ext hx; replace hm := hm.ext hx; replace hE := hE.ext hx; replace hO := hO.ext hx; replace hL := hL.ext hx; replace hLO := hLO.ext hx
              refine AL.p 16 (by kernel_rfl) rfl (bld rfl rfl) rfl ?_
              refine AL.o 17 (by kernel_rfl) rfl ?_
              refine RL.buildSlice w0.heap.size H.size rfl rfl rfl rfl rfl ?_
              intro w23 i33 hi33 hx hb33
              replace H := H.ext hx; replace hbt := hbt.ext hx; replace hb4 := hb4.ext hx; replace hI := hI.ext hx; replace hm := hm.ext hx; replace hE := hE.ext hx; replace hO := hO.ext hx; replace hL := hL.ext hx; replace hLO := hLO.ext hx; replace hC := hC.ext hx; clear hx
              refine RL.nil ?_
              refine AL.o 18 (by kernel_rfl) rfl ?_
              refine RL.appendS rfl hL H.size rfl (show Sl _ _ [(⟨q.1.id, D.E[ji], q.1.part, a5, c5, r.last⟩ : Maker)] from Box.sl1 hb33) rfl rfl (by decide) rfl cell1 (by omega) (by simp only [maxLen]; omega) rfl ?_
              intro w24 a34 c34 hu hb34 hfr34
              replace hbt := hbt.upd hu (fun h => hL.box_apart hbt (by decide) h)
              replace hb4 := hb4.upd hu (fun h => hL.box_apart hb4 (by decide) h)
              replace hI := hI.upd hu (hI.nea hL)
              replace hm := hm.upd hu (hm.nea hL)
              replace hE := hE.upd hu (fun j hj e => hE.apart hL (by decide) hj e)
              replace hO := hO.ow hL (by decide) hu
              replace hLO := hLO.ow hL (by decide) hu
              replace hC := hC.upd hu (fun j hj e => hC.apart hL (by decide) hj e)
              replace H := Ext.own H hL hu
              have hLO2 := hLO.snoc (s := (⟨q.1.id, D.E[ji], q.1.part, a5, c5, r.last⟩ : Maker)) (hC.mono hs6) (fun y hy j hj hj2 => by have h1 := hlt y hy j hj; have h2 := (hC.blk hj2).1; omega)
              refine RL.nil ?_
              refine AL.p 19 (by kernel_rfl) rfl (asgL rfl) rfl ?_
              refine AL.nil (by kernel_rfl) ?_
              refine ⟨(a34, c34, L ++ [(⟨q.1.id, D.E[ji], q.1.part, a5, c5, r.last⟩ : Maker)]), Head.intro (by repeat (first | with_reducible exact AgreeOff.refl _ _ | with_reducible exact AgreeOff.mix _ _ _ | refine AgreeOff.look rfl ?_ | refine AgreeOff.mixs rfl ?_)) ⟨rfl, trivial⟩, H, hbt, hb4, hI, hm, hE, hO, hb34, hLO2, by rw [List.map_append, List.map_append, hLm]; simp only [List.map_cons, List.map_nil, hmq]; rfl⟩
            · refine ⟨_, rfl, ?_⟩
              -- call slices.Clone[[]stagecoach/api.Did,stagecoach/api.Did] (tmp 30)
              have hs6 := H.size
              have hlt := fun (y : Maker) (hy : y ∈ L) (j : Nat) (hj : inBlock y.la j) => ((hLO.own y hy).blk hj).2
              refine RL.call (pCloneD _ r.la r.lc r.last ((hO.own r hrH).sl.ext (by first | exact hw' | exact Ext.refl _)) (by omega)) rfl rfl ?_
              rintro v w25 ⟨⟨a5, c5, rfl, hC⟩, hx⟩
              replace H := H.ext hx; replace hbt := hbt.ext hx; replace hb4 := hb4.ext hx; replace hI := hI.ext hx; replace hm := hm.ext hx; replace hE := hE.ext hx; replace hO := hO.ext hx; replace hL := hL.ext hx; replace hLO := hLO.ext hx
              refine RL.nil ?_
              refine AL.m 8 (by kernel_rfl) rfl (ld_box rfl hb4 rfl) rfl ?_
              refine AL.p 9 (by kernel_rfl) rfl (sub rfl rfl (by omega)) rfl ?_
              refine AL.p 10 (by kernel_rfl) rfl (ix_o rfl rfl hje hj (hE.sl.someA (by decide) hj)) rfl ?_
              refine AL.m 11 (by kernel_rfl) rfl (ld_o0 rfl hE.sl (Ext.refl _) rfl hj rfl (by decide)) rfl ?_
              refine AL.p 16 (by kernel_rfl) rfl (bld rfl rfl) rfl ?_
              refine AL.o 17 (by kernel_rfl) rfl ?_
              refine RL.buildSlice w0.heap.size H.size rfl rfl rfl rfl rfl ?_
              intro w26 i33 hi33 hx hb33
              replace H := H.ext hx; replace hbt := hbt.ext hx; replace hb4 := hb4.ext hx; replace hI := hI.ext hx; replace hm := hm.ext hx; replace hE := hE.ext hx; replace hO := hO.ext hx; replace hL := hL.ext hx; replace hLO := hLO.ext hx; replace hC := hC.ext hx; clear hx
              refine RL.nil ?_
              refine AL.o 18 (by kernel_rfl) rfl ?_
              refine RL.appendS rfl hL H.size rfl (show Sl _ _ [(⟨q.1.id, D.E[ji], q.1.part, a5, c5, r.last⟩ : Maker)] from Box.sl1 hb33) rfl rfl (by decide) rfl cell1 (by omega) (by simp only [maxLen]; omega) rfl ?_
              intro w27 a34 c34 hu hb34 hfr34
              replace hbt := hbt.upd hu (fun h => hL.box_apart hbt (by decide) h)
              replace hb4 := hb4.upd hu (fun h => hL.box_apart hb4 (by decide) h)
              replace hI := hI.upd hu (hI.nea hL)
              replace hm := hm.upd hu (hm.nea hL)
              replace hE := hE.upd hu (fun j hj e => hE.apart hL (by decide) hj e)
              replace hO := hO.ow hL (by decide) hu
              replace hLO := hLO.ow hL (by decide) hu
              replace hC := hC.upd hu (fun j hj e => hC.apart hL (by decide) hj e)
              replace H := Ext.own H hL hu
              have hLO2 := hLO.snoc (s := (⟨q.1.id, D.E[ji], q.1.part, a5, c5, r.last⟩ : Maker)) (hC.mono hs6) (fun y hy j hj hj2 => by have h1 := hlt y hy j hj; have h2 := (hC.blk hj2).1; omega)
              refine RL.nil ?_
              refine AL.p 19 (by kernel_rfl) rfl (asgL rfl) rfl ?_
              refine AL.nil (by kernel_rfl) ?_
              refine ⟨(a34, c34, L ++ [(⟨q.1.id, D.E[ji], q.1.part, a5, c5, r.last⟩ : Maker)]), Head.intro (by repeat (first | with_reducible exact AgreeOff.refl _ _ | with_reducible exact AgreeOff.mix _ _ _ | refine AgreeOff.look rfl ?_ | refine AgreeOff.mixs rfl ?_)) ⟨rfl, trivial⟩, H, hbt, hb4, hI, hm, hE, hO, hb34, hLO2, by rw [List.map_append, List.map_append, hLm]; simp only [List.map_cons, List.map_nil, hmq]; rfl⟩
          · refine ⟨_, rfl, ?_⟩
            refine RL.m (ld_box rfl hb4 rfl) rfl ?_
            refine RL.nil ?_
            refine AL.p 9 (by kernel_rfl) rfl (sub rfl rfl (by omega)) rfl ?_
            -- call slices.Clone[[]stagecoach/api.Did,stagecoach/api.Did] (tmp 30)
            have hs6 := H.size
            have hlt := fun (y : Maker) (hy : y ∈ L) (j : Nat) (hj : inBlock y.la j) => ((hLO.own y hy).blk hj).2
            refine AL.x 15 (by kernel_rfl) rfl rfl (fun w' hw' => pCloneD _ r.la r.lc r.last ((hO.own r hrH).sl.ext (by first | exact hw' | exact Ext.refl _)) (by omega)) ?_
            refine AX.m 6 (by kernel_rfl) rfl rfl (ld_box rfl hbt rfl) rfl ?_
            refine AX.m 10 (by kernel_rfl) rfl rfl (Pure.does (ix_o rfl rfl hje hj (hE.sl.someA (by decide) hj)) _) rfl ?_
            refine AX.m 11 (by kernel_rfl) rfl rfl (ld_o0 rfl hE.sl (Ext.refl _) rfl hj rfl (by decide)) rfl ?_
            refine AX.o (by kernel_rfl) rfl ?_
            rintro v w28 ⟨⟨a5, c5, rfl, hC⟩, hx⟩
            replace H := H.ext hx; replace hbt := hbt.ext hx; replace hb4 := hb4.ext hx; replace hI := hI.ext hx; replace hm := hm.ext hx; replace hE := hE.ext hx; replace hO := hO.ext hx; replace hL := hL.ext hx; replace hLO := hLO.ext hx
            refine AL.p 16 (by kernel_rfl) rfl (bld rfl rfl) rfl ?_
            refine AL.o 17 (by kernel_rfl) rfl ?_
            refine RL.buildSlice w0.heap.size H.size rfl rfl rfl rfl rfl ?_
            intro w29 i33 hi33 hx hb33
            replace H := H.ext hx; replace hbt := hbt.ext hx; replace hb4 := hb4.ext hx; replace hI := hI.ext hx; replace hm := hm.ext hx; replace hE := hE.ext hx; replace hO := hO.ext hx; replace hL := hL.ext hx; replace hLO := hLO.ext hx; replace hC := hC.ext hx; clear hx
            refine RL.nil ?_
            refine AL.o 18 (by kernel_rfl) rfl ?_
            refine RL.appendS rfl hL H.size rfl (show Sl _ _ [(⟨q.1.id, D.E[ji], q.1.part, a5, c5, r.last⟩ : Maker)] from Box.sl1 hb33) rfl rfl (by decide) rfl cell1 (by omega) (by simp only [maxLen]; omega) rfl ?_
            intro w30 a34 c34 hu hb34 hfr34
            replace hbt := hbt.upd hu (fun h => hL.box_apart hbt (by decide) h)
            replace hb4 := hb4.upd hu (fun h => hL.box_apart hb4 (by decide) h)
            replace hI := hI.upd hu (hI.nea hL)
            replace hm := hm.upd hu (hm.nea hL)
            replace hE := hE.upd hu (fun j hj e => hE.apart hL (by decide) hj e)
            replace hO := hO.ow hL (by decide) hu
            replace hLO := hLO.ow hL (by decide) hu
            replace hC := hC.upd hu (fun j hj e => hC.apart hL (by decide) hj e)
            replace H := Ext.own H hL hu
            have hLO2 := hLO.snoc (s := (⟨q.1.id, D.E[ji], q.1.part, a5, c5, r.last⟩ : Maker)) (hC.mono hs6) (fun y hy j hj hj2 => by have h1 := hlt y hy j hj; have h2 := (hC.blk hj2).1; omega)
            refine RL.nil ?_
            refine AL.p 19 (by kernel_rfl) rfl (asgL rfl) rfl ?_
            refine AL.nil (by kernel_rfl) ?_
            refine ⟨(a34, c34, L ++ [(⟨q.1.id, D.E[ji], q.1.part, a5, c5, r.last⟩ : Maker)]), Head.intro (by repeat (first | with_reducible exact AgreeOff.refl _ _ | with_reducible exact AgreeOff.mix _ _ _ | refine AgreeOff.look rfl ?_ | refine AgreeOff.mixs rfl ?_)) ⟨rfl, trivial⟩, H, hbt, hb4, hI, hm, hE, hO, hb34, hLO2, by rw [List.map_append, List.map_append, hLm]; simp only [List.map_cons, List.map_nil, hmq]; rfl⟩
          · refine ⟨_, rfl, ?_⟩
            -- call slices.Clone[[]stagecoach/api.Did,stagecoach/api.Did] (tmp 30)
            have hs6 := H.size
            have hlt := fun (y : Maker) (hy : y ∈ L) (j : Nat) (hj : inBlock y.la j) => ((hLO.own y hy).blk hj).2
            refine RL.call (pCloneD _ r.la r.lc r.last ((hO.own r hrH).sl.ext (by first | exact hw' | exact Ext.refl _)) (by omega)) rfl rfl ?_
            rintro v w31 ⟨⟨a5, c5, rfl, hC⟩, hx⟩
            replace H := H.ext hx; replace hbt := hbt.ext hx; replace hb4 := hb4.ext hx; replace hI := hI.ext hx; replace hm := hm.ext hx; replace hE := hE.ext hx; replace hO := hO.ext hx; replace hL := hL.ext hx; replace hLO := hLO.ext hx
            refine RL.nil ?_
            refine AL.m 8 (by kernel_rfl) rfl (ld_box rfl hb4 rfl) rfl ?_
            refine AL.p 9 (by kernel_rfl) rfl (sub rfl rfl (by omega)) rfl ?_
            refine AL.m 6 (by kernel_rfl) rfl (ld_box rfl hbt rfl) rfl ?_
            refine AL.p 10 (by kernel_rfl) rfl (ix_o rfl rfl hje hj (hE.sl.someA (by decide) hj)) rfl ?_
            refine AL.m 11 (by kernel_rfl) rfl (ld_o0 rfl hE.sl (Ext.refl _) rfl hj rfl (by decide)) rfl ?_
            refine AL.p 16 (by kernel_rfl) rfl (bld rfl rfl) rfl ?_
            refine AL.o 17 (by kernel_rfl) rfl ?_
            refine RL.buildSlice w0.heap.size H.size rfl rfl rfl rfl rfl ?_
            intro w32 i33 hi33 hx hb33
            replace H := H.ext hx; replace hbt := hbt.ext hx; replace hb4 := hb4.ext hx; replace hI := hI.ext hx; replace hm := hm.ext hx; replace hE := hE.ext hx; replace hO := hO.ext hx; replace hL := hL.ext hx; replace hLO := hLO.ext hx; replace hC := hC.ext hx; clear hx
            refine RL.nil ?_
            refine AL.o 18 (by kernel_rfl) rfl ?_
            refine RL.appendS rfl hL H.size rfl (show Sl _ _ [(⟨q.1.id, D.E[ji], q.1.part, a5, c5, r.last⟩ : Maker)] from Box.sl1 hb33) rfl rfl (by decide) rfl cell1 (by omega) (by simp only [maxLen]; omega) rfl ?_
            intro w33 a34 c34 hu hb34 hfr34
            replace hbt := hbt.upd hu (fun h => hL.box_apart hbt (by decide) h)
            replace hb4 := hb4.upd hu (fun h => hL.box_apart hb4 (by decide) h)
            replace hI := hI.upd hu (hI.nea hL)
            replace hm := hm.upd hu (hm.nea hL)
            replace hE := hE.upd hu (fun j hj e => hE.apart hL (by decide) hj e)
            replace hO := hO.ow hL (by decide) hu
            replace hLO := hLO.ow hL (by decide) hu
            replace hC := hC.upd hu (fun j hj e => hC.apart hL (by decide) hj e)
            replace H := Ext.own H hL hu
            have hLO2 := hLO.snoc (s := (⟨q.1.id, D.E[ji], q.1.part, a5, c5, r.last⟩ : Maker)) (hC.mono hs6) (fun y hy j hj hj2 => by have h1 := hlt y hy j hj; have h2 := (hC.blk hj2).1; omega)
            refine RL.nil ?_
            refine AL.p 19 (by kernel_rfl) rfl (asgL rfl) rfl ?_
            refine AL.nil (by kernel_rfl) ?_
            refine ⟨(a34, c34, L ++ [(⟨q.1.id, D.E[ji], q.1.part, a5, c5, r.last⟩ : Maker)]), Head.intro (by repeat (first | with_reducible exact AgreeOff.refl _ _ | with_reducible exact AgreeOff.mix _ _ _ | refine AgreeOff.look rfl ?_ | refine AgreeOff.mixs rfl ?_)) ⟨rfl, trivial⟩, H, hbt, hb4, hI, hm, hE, hO, hb34, hLO2, by rw [List.map_append, List.map_append, hLm]; simp only [List.map_cons, List.map_nil, hmq]; rfl⟩
        · refine ⟨_, rfl, ?_⟩
          -- call slices.Clone[[]stagecoach/api.Did,stagecoach/api.Did] (tmp 30)
          have hs6 := H.size
          have hlt := fun (y : Maker) (hy : y ∈ L) (j : Nat) (hj : inBlock y.la j) => ((hLO.own y hy).blk hj).2
          refine RL.call (pCloneD _ r.la r.lc r.last ((hO.own r hrH).sl.ext (by first | exact hw' | exact Ext.refl _)) (by omega)) rfl rfl ?_
          rintro v w34 ⟨⟨a5, c5, rfl, hC⟩, hx⟩
          replace H := H.ext hx; replace hbt := hbt.ext hx; replace hb4 := hb4.ext hx; replace hI := hI.ext hx; replace hm := hm.ext hx; replace hE := hE.ext hx; replace hO := hO.ext hx; replace hL := hL.ext hx; replace hLO := hLO.ext hx
          refine RL.nil ?_
          refine AL.m 8 (by kernel_rfl) rfl (ld_box rfl hb4 rfl) rfl ?_
          refine AL.p 9 (by kernel_rfl) rfl (sub rfl rfl (by omega)) rfl ?_
          refine AL.m 6 (by kernel_rfl) rfl (ld_box rfl hbt rfl) rfl ?_
          refine AL.p 10 (by kernel_rfl) rfl (ix_o rfl rfl hje hj (hE.sl.someA (by decide) hj)) rfl ?_
          refine AL.m 11 (by kernel_rfl) rfl (ld_o0 rfl hE.sl (Ext.refl _) rfl hj rfl (by decide)) rfl ?_
          refine AL.m 13 (by kernel_rfl) rfl (ldS_box rfl hb4 (Nat.le_of_ble_eq_true rfl) rfl) rfl ?_
          refine AL.p 16 (by kernel_rfl) rfl (bld rfl rfl) rfl ?_
          refine AL.o 17 (by kernel_rfl) rfl ?_
          refine RL.buildSlice w0.heap.size H.size rfl rfl rfl rfl rfl ?_
          intro w35 i33 hi33 hx hb33
          replace H := H.ext hx; replace hbt := hbt.ext hx; replace hb4 := hb4.ext hx; replace hI := hI.ext hx; replace hm := hm.ext hx; replace hE := hE.ext hx; replace hO := hO.ext hx; replace hL := hL.ext hx; replace hLO := hLO.ext hx; replace hC := hC.ext hx; clear hx
          refine RL.nil ?_
          refine AL.o 18 (by kernel_rfl) rfl ?_
          refine RL.appendS rfl hL H.size rfl (show Sl _ _ [(⟨q.1.id, D.E[ji], q.1.part, a5, c5, r.last⟩ : Maker)] from Box.sl1 hb33) rfl rfl (by decide) rfl cell1 (by omega) (by simp only [maxLen]; omega) rfl ?_
          intro w36 a34 c34 hu hb34 hfr34
          replace hbt := hbt.upd hu (fun h => hL.box_apart hbt (by decide) h)
          replace hb4 := hb4.upd hu (fun h => hL.box_apart hb4 (by decide) h)
          replace hI := hI.upd hu (hI.nea hL)
          replace hm := hm.upd hu (hm.nea hL)
          replace hE := hE.upd hu (fun j hj e => hE.apart hL (by decide) hj e)
          replace hO := hO.ow hL (by decide) hu
          replace hLO := hLO.ow hL (by decide) hu
          replace hC := hC.upd hu (fun j hj e => hC.apart hL (by decide) hj e)
          replace H := Ext.own H hL hu
          have hLO2 := hLO.snoc (s := (⟨q.1.id, D.E[ji], q.1.part, a5, c5, r.last⟩ : Maker)) (hC.mono hs6) (fun y hy j hj hj2 => by have h1 := hlt y hy j hj; have h2 := (hC.blk hj2).1; omega)
          refine RL.nil ?_
          refine AL.p 19 (by kernel_rfl) rfl (asgL rfl) rfl ?_
          refine AL.nil (by kernel_rfl) ?_
          refine ⟨(a34, c34, L ++ [(⟨q.1.id, D.E[ji], q.1.part, a5, c5, r.last⟩ : Maker)]), Head.intro (by repeat (first | with_reducible exact AgreeOff.refl _ _ | with_reducible exact AgreeOff.mix _ _ _ | refine AgreeOff.look rfl ?_ | refine AgreeOff.mixs rfl ?_)) ⟨rfl, trivial⟩, H, hbt, hb4, hI, hm, hE, hO, hb34, hLO2, by rw [List.map_append, List.map_append, hLm]; simp only [List.map_cons, List.map_nil, hmq]; rfl⟩
      · refine ⟨_, rfl, ?_⟩
        refine RL.m (ld_box rfl hbt rfl) rfl ?_
        refine RL.nil ?_
        refine AL.all (rs := [2, 8, 13, 15]) (by kernel_rfl) rfl ?_
        rintro i hi; simp only [List.mem_cons, List.not_mem_nil, or_false] at hi; rcases hi with rfl | rfl | rfl | rfl
        · refine ⟨_, rfl, ?_⟩
          refine RL.m (ld_box rfl hb4 rfl) rfl ?_
          refine RL.nil ?_
          refine AL.all (rs := [8, 13, 15]) (by kernel_rfl) rfl ?_
          rintro i hi; simp only [List.mem_cons, List.not_mem_nil, or_false] at hi; rcases hi with rfl | rfl | rfl
          · refine ⟨_, rfl, ?_⟩
            refine RL.m (ld_box rfl hb4 rfl) rfl ?_
            refine RL.nil ?_
            refine AL.p 9 (by kernel_rfl) rfl (sub rfl rfl (by omega)) rfl ?_
            refine AL.p 10 (by kernel_rfl) rfl (ix_o rfl rfl hje hj (hE.sl.someA (by decide) hj)) rfl ?_
            -- call slices.Clone[[]stagecoach/api.Did,stagecoach/api.Did] (tmp 30)
            have hs6 := H.size
            have hlt := fun (y : Maker) (hy : y ∈ L) (j : Nat) (hj : inBlock y.la j) => ((hLO.own y hy).blk hj).2
            refine AL.x 15 (by kernel_rfl) rfl rfl (fun w' hw' => pCloneD _ r.la r.lc r.last ((hO.own r hrH).sl.ext (by first | exact hw' | exact Ext.refl _)) (by omega)) ?_
            refine AX.m 11 (by kernel_rfl) rfl rfl (ld_o0 rfl hE.sl (Ext.refl _) rfl hj rfl (by decide)) rfl ?_
            refine AX.m 13 (by kernel_rfl) rfl rfl (ldS_box rfl hb4 (Nat.le_of_ble_eq_true rfl) rfl) rfl ?_
            refine AX.o (by kernel_rfl) rfl ?_
            rintro v w37 ⟨⟨a5, c5, rfl, hC⟩, hx⟩
            replace H := H.ext hx; replace hbt := hbt.ext hx; replace hb4 := hb4.ext hx; replace hI := hI.ext hx; replace hm := hm.ext hx; replace hE := hE.ext hx; replace hO := hO.ext hx; replace hL := hL.ext hx; replace hLO := hLO.ext hx
            refine AL.p 16 (by kernel_rfl) rfl (bld rfl rfl) rfl ?_
            refine AL.o 17 (by kernel_rfl) rfl ?_
            refine RL.buildSlice w0.heap.size H.size rfl rfl rfl rfl rfl ?_
            intro w38 i33 hi33 hx hb33
            replace H := H.ext hx; replace hbt := hbt.ext hx; replace hb4 := hb4.ext hx; replace hI := hI.ext hx; replace hm := hm.ext hx; replace hE := hE.ext hx; replace hO := hO.ext hx; replace hL := hL.ext hx; replace hLO := hLO.ext hx; replace hC := hC.ext hx; clear hx
            refine RL.nil ?_
            refine AL.o 18 (by kernel_rfl) rfl ?_
            refine RL.appendS rfl hL H.size rfl (show Sl _ _ [(⟨q.1.id, D.E[ji], q.1.part, a5, c5, r.last⟩ : Maker)] from Box.sl1 hb33) rfl rfl (by decide) rfl cell1 (by omega) (by simp only [maxLen]; omega) rfl ?_
            intro w39 a34 c34 hu hb34 hfr34
            replace hbt := hbt.upd hu (fun h => hL.box_apart hbt (by decide) h)
            replace hb4 := hb4.upd hu (fun h => hL.box_apart hb4 (by decide) h)
            replace hI := hI.upd hu (hI.nea hL)
            replace hm := hm.upd hu (hm.nea hL)
            replace hE := hE.upd hu (fun j hj e => hE.apart hL (by decide) hj e)
            replace hO := hO.ow hL (by decide) hu
            replace hLO := hLO.ow hL (by decide) hu
            replace hC := hC.upd hu (fun j hj e => hC.apart hL (by decide) hj e)
            replace H := Ext.own H hL hu
            have hLO2 := hLO.snoc (s := (⟨q.1.id, D.E[ji], q.1.part, a5, c5, r.last⟩ : Maker)) (hC.mono hs6) (fun y hy j hj hj2 => by have h1 := hlt y hy j hj; have h2 := (hC.blk hj2).1; omega)
            refine RL.nil ?_
            refine AL.p 19 (by kernel_rfl) rfl (asgL rfl) rfl ?_
            refine AL.nil (by kernel_rfl) ?_
            refine ⟨(a34, c34, L ++ [(⟨q.1.id, D.E[ji], q.1.part, a5, c5, r.last⟩ : Maker)]), Head.intro (by repeat (first | with_reducible exact AgreeOff.refl _ _ | with_reducible exact AgreeOff.mix _ _ _ | refine AgreeOff.look rfl ?_ | refine AgreeOff.mixs rfl ?_)) ⟨rfl, trivial⟩, H, hbt, hb4, hI, hm, hE, hO, hb34, hLO2, by rw [List.map_append, List.map_append, hLm]; simp only [List.map_cons, List.map_nil, hmq]; rfl⟩
          · refine ⟨_, rfl, ?_⟩
            refine RL.m (ldS_box rfl hb4 (Nat.le_of_ble_eq_true rfl) rfl) rfl ?_
            refine RL.nil ?_
            refine AL.all (rs := [8, 15]) (by kernel_rfl) rfl ?_
            rintro i hi; simp only [List.mem_cons, List.not_mem_nil, or_false] at hi; rcases hi with rfl | rfl
            · refine ⟨_, rfl, ?_⟩
              refine RL.m (ld_box rfl hb4 rfl) rfl ?_
              refine RL.nil ?_
              refine AL.p 9 (by kernel_rfl) rfl (sub rfl rfl (by omega)) rfl ?_
              refine AL.p 10 (by kernel_rfl) rfl (ix_o rfl rfl hje hj (hE.sl.someA (by decide) hj)) rfl ?_
              -- call slices.Clone[[]stagecoach/api.Did,stagecoach/api.Did] (tmp 30)
              have hs6 := H.size
              have hlt := fun (y : Maker) (hy : y ∈ L) (j : Nat) (hj : inBlock y.la j) => ((hLO.own y hy).blk hj).2
              refine AL.x 15 (by kernel_rfl) rfl rfl (fun w' hw' => pCloneD _ r.la r.lc r.last ((hO.own r hrH).sl.ext (by first | exact hw' | exact Ext.refl _)) (by omega)) ?_
              refine AX.m 11 (by kernel_rfl) rfl rfl (ld_o0 rfl hE.sl (Ext.refl _) rfl hj rfl (by decide)) rfl ?_
              refine AX.o (by kernel_rfl) rfl ?_
              rintro v w40 ⟨⟨a5, c5, rfl, hC⟩, hx⟩
              replace H := H.ext hx; replace hbt := hbt.ext hx; replace hb4 := hb4.ext hx; replace hI := hI.ext hx; replace hm := hm.ext hx; replace hE := hE.ext hx; replace hO := hO.ext hx; replace hL := hL.ext hx; replace hLO := hLO.ext hx
              refine AL.p 16 (by kernel_rfl) rfl (bld rfl rfl) rfl ?_
              refine AL.o 17 (by kernel_rfl) rfl ?_
              refine RL.buildSlice w0.heap.size H.size rfl rfl rfl rfl rfl ?_
              intro w41 i33 hi33 hx hb33
              replace H := H.ext hx; replace hbt := hbt.ext hx; replace hb4 := hb4.ext hx; replace hI := hI.ext hx; replace hm := hm.ext hx; replace hE := hE.ext hx; replace hO := hO.ext hx; replace hL := hL.ext hx; replace hLO := hLO.ext hx; replace hC := hC.ext hx; clear hx
              refine RL.nil ?_
              refine AL.o 18 (by kernel_rfl) rfl ?_
              refine RL.appendS rfl hL H.size rfl (show Sl _ _ [(⟨q.1.id, D.E[ji], q.1.part, a5, c5, r.last⟩ : Maker)] from Box.sl1 hb33) rfl rfl (by decide) rfl cell1 (by omega) (by simp only [maxLen]; omega) rfl ?_
              intro w42 a34 c34 hu hb34 hfr34
              replace hbt := hbt.upd hu (fun h => hL.box_apart hbt (by decide) h)
              replace hb4 := hb4.upd hu (fun h => hL.box_apart hb4 (by decide) h)
              replace hI := hI.upd hu (hI.nea hL)
              replace hm := hm.upd hu (hm.nea hL)
              replace hE := hE.upd hu (fun j hj e => hE.apart hL (by decide) hj e)
              replace hO := hO.ow hL (by decide) hu
              replace hLO := hLO.ow hL (by decide) hu
              replace hC := hC.upd hu (fun j hj e => hC.apart hL (by decide) hj e)
              replace H := Ext.own H hL hu
              have hLO2 := hLO.snoc (s := (⟨q.1.id, D.E[ji], q.1.part, a5, c5, r.last⟩ : Maker)) (hC.mono hs6) (fun y hy j hj hj2 => by have h1 := hlt y hy j hj; have h2 := (hC.blk hj2).1; omega)
              refine RL.nil ?_
              refine AL.p 19 (by kernel_rfl) rfl (asgL rfl) rfl ?_
              refine AL.nil (by kernel_rfl) ?_
              refine ⟨(a34, c34, L ++ [(⟨q.1.id, D.E[ji], q.1.part, a5, c5, r.last⟩ : Maker)]), Head.intro (by repeat (first | with_reducible exact AgreeOff.refl _ _ | with_reducible exact AgreeOff.mix _ _ _ | refine AgreeOff.look rfl ?_ | refine AgreeOff.mixs rfl ?_)) ⟨rfl, trivial⟩, H, hbt, hb4, hI, hm, hE, hO, hb34, hLO2, by rw [List.map_append, List.map_append, hLm]; simp only [List.map_cons, List.map_nil, hmq]; rfl⟩
            · refine ⟨_, rfl, ?_⟩
              -- call slices.Clone[[]stagecoach/api.Did,stagecoach/api.Did] (tmp 30)
              have hs6 := H.size
              have hlt := fun (y : Maker) (hy : y ∈ L) (j : Nat) (hj : inBlock y.la j) => ((hLO.own y hy).blk hj).2
              refine RL.call (pCloneD _ r.la r.lc r.last ((hO.own r hrH).sl.ext (by first | exact hw' | exact Ext.refl _)) (by omega)) rfl rfl ?_
              rintro v w43 ⟨⟨a5, c5, rfl, hC⟩, hx⟩
              replace H := H.ext hx; replace hbt := hbt.ext hx; replace hb4 := hb4.ext hx; replace hI := hI.ext hx; replace hm := hm.ext hx; replace hE := hE.ext hx; replace hO := hO.ext hx; replace hL := hL.ext hx; replace hLO := hLO.ext hx
              refine RL.nil ?_
              refine AL.m 8 (by kernel_rfl) rfl (ld_box rfl hb4 rfl) rfl ?_
              refine AL.p 9 (by kernel_rfl) rfl (sub rfl rfl (by omega)) rfl ?_
              refine AL.p 10 (by kernel_rfl) rfl (ix_o rfl rfl hje hj (hE.sl.someA (by decide) hj)) rfl ?_
              refine AL.m 11 (by kernel_rfl) rfl (ld_o0 rfl hE.sl (Ext.refl _) rfl hj rfl (by decide)) rfl ?_
              refine AL.p 16 (by kernel_rfl) rfl (bld rfl rfl) rfl ?_
              refine AL.o 17 (by kernel_rfl) rfl ?_
              refine RL.buildSlice w0.heap.size H.size rfl rfl rfl rfl rfl ?_
              intro w44 i33 hi33 hx hb33
              replace H := H.ext hx; replace hbt := hbt.ext hx; replace hb4 := hb4.ext hx; replace hI := hI.ext hx; replace hm := hm.ext hx; replace hE := hE.ext hx; replace hO := hO.ext hx; replace hL := hL.ext hx; replace hLO := hLO.ext hx; replace hC := hC.ext hx; clear hx
              refine RL.nil ?_
              refine AL.o 18 (by kernel_rfl) rfl ?_
              refine RL.appendS rfl hL H.size rfl (show Sl _ _ [(⟨q.1.id, D.E[ji], q.1.part, a5, c5, r.last⟩ : Maker)] from Box.sl1 hb33) rfl rfl (by decide) rfl cell1 (by omega) (by simp only [maxLen]; omega) rfl ?_
              intro w45 a34 c34 hu hb34 hfr34
              replace hbt := hbt.upd hu (fun h => hL.box_apart hbt (by decide) h)
              replace hb4 := hb4.upd hu (fun h => hL.box_apart hb4 (by decide) h)
              replace hI := hI.upd hu (hI.nea hL)
              replace hm := hm.upd hu (hm.nea hL)
              replace hE := hE.upd hu (fun j hj e => hE.apart hL (by decide) hj e)
              replace hO := hO.ow hL (by decide) hu
              replace hLO := hLO.ow hL (by decide) hu
              replace hC := hC.upd hu (fun j hj e => hC.apart hL (by decide) hj e)
              replace H := Ext.own H hL hu
              have hLO2 := hLO.snoc (s := (⟨q.1.id, D.E[ji], q.1.part, a5, c5, r.last⟩ : Maker)) (hC.mono hs6) (fun y hy j hj hj2 => by have h1 := hlt y hy j hj; have h2 := (hC.blk hj2).1; omega)
              refine RL.nil ?_
              refine AL.p 19 (by kernel_rfl) rfl (asgL rfl) rfl ?_
              refine AL.nil (by kernel_rfl) ?_
              refine ⟨(a34, c34, L ++ [(⟨q.1.id, D.E[ji], q.1.part, a5, c5, r.last⟩ : Maker)]), Head.intro (by repeat (first | with_reducible exact AgreeOff.refl _ _ | with_reducible exact AgreeOff.mix _ _ _ | refine AgreeOff.look rfl ?_ | refine AgreeOff.mixs rfl ?_)) ⟨rfl, trivial⟩, H, hbt, hb4, hI, hm, hE, hO, hb34, hLO2, by rw [List.map_append, List.map_append, hLm]; simp only [List.map_cons, List.map_nil, hmq]; rfl⟩
          · refine ⟨_, rfl, ?_⟩
            -- call slices.Clone[[]stagecoach/api.Did,stagecoach/api.Did] (tmp 30)
            have hs6 := H.size
            have hlt := fun (y : Maker) (hy : y ∈ L) (j : Nat) (hj : inBlock y.la j) => ((hLO.own y hy).blk hj).2
            refine RL.call (pCloneD _ r.la r.lc r.last ((hO.own r hrH).sl.ext (by first | exact hw' | exact Ext.refl _)) (by omega)) rfl rfl ?_
            rintro v w46 ⟨⟨a5, c5, rfl, hC⟩, hx⟩
            replace H := H.ext hx; replace hbt := hbt.ext hx; replace hb4 := hb4.ext hx; replace hI := hI.ext hx; replace hm := hm.ext hx; replace hE := hE.ext hx; replace hO := hO.ext hx; replace hL := hL.ext hx; replace hLO := hLO.ext hx
            refine RL.nil ?_
            refine AL.m 8 (by kernel_rfl) rfl (ld_box rfl hb4 rfl) rfl ?_
            refine AL.p 9 (by kernel_rfl) rfl (sub rfl rfl (by omega)) rfl ?_
            refine AL.p 10 (by kernel_rfl) rfl (ix_o rfl rfl hje hj (hE.sl.someA (by decide) hj)) rfl ?_
            refine AL.m 11 (by kernel_rfl) rfl (ld_o0 rfl hE.sl (Ext.refl _) rfl hj rfl (by decide)) rfl ?_
            refine AL.m 13 (by kernel_rfl) rfl (ldS_box rfl hb4 (Nat.le_of_ble_eq_true rfl) rfl) rfl ?_
            refine AL.p 16 (by kernel_rfl) rfl (bld rfl rfl) rfl ?_
            refine AL.o 17 (by kernel_rfl) rfl ?_
            refine RL.buildSlice w0.heap.size H.size rfl rfl rfl rfl rfl ?_
            intro w47 i33 hi33 hx hb33
            replace H := H.ext hx; replace hbt := hbt.ext hx; replace hb4 := hb4.ext hx; replace hI := hI.ext hx; replace hm := hm.ext hx; replace hE := hE.ext hx; replace hO := hO.ext hx; replace hL := hL.ext hx; replace hLO := hLO.ext hx; replace hC := hC.ext hx; clear hx
            refine RL.nil ?_
            refine AL.o 18 (by kernel_rfl) rfl ?_
            refine RL.appendS rfl hL H.size rfl (show Sl _ _ [(⟨q.1.id, D.E[ji], q.1.part, a5, c5, r.last⟩ : Maker)] from Box.sl1 hb33) rfl rfl (by decide) rfl cell1 (by omega) (by simp only [maxLen]; omega) rfl ?_
            intro w48 a34 c34 hu hb34 hfr34
            replace hbt := hbt.upd hu (fun h => hL.box_apart hbt (by decide) h)
            replace hb4 := hb4.upd hu (fun h => hL.box_apart hb4 (by decide) h)
            replace hI := hI.upd hu (hI.nea hL)
            replace hm := hm.upd hu (hm.nea hL)
            replace hE := hE.upd hu (fun j hj e => hE.apart hL (by decide) hj e)
            replace hO := hO.ow hL (by decide) hu
            replace hLO := hLO.ow hL (by decide) hu
            replace hC := hC.upd hu (fun j hj e => hC.apart hL (by decide) hj e)
            replace H := Ext.own H hL hu
            have hLO2 := hLO.snoc (s := (⟨q.1.id, D.E[ji], q.1.part, a5, c5, r.last⟩ : Maker)) (hC.mono hs6) (fun y hy j hj hj2 => by have h1 := hlt y hy j hj; have h2 := (hC.blk hj2).1; omega)
            refine RL.nil ?_
            refine AL.p 19 (by kernel_rfl) rfl (asgL rfl) rfl ?_
            refine AL.nil (by kernel_rfl) ?_
            refine ⟨(a34, c34, L ++ [(⟨q.1.id, D.E[ji], q.1.part, a5, c5, r.last⟩ : Maker)]), Head.intro (by repeat (first | with_reducible exact AgreeOff.refl _ _ | with_reducible exact AgreeOff.mix _ _ _ | refine AgreeOff.look rfl ?_ | refine AgreeOff.mixs rfl ?_)) ⟨rfl, trivial⟩, H, hbt, hb4, hI, hm, hE, hO, hb34, hLO2, by rw [List.map_append, List.map_append, hLm]; simp only [List.map_cons, List.map_nil, hmq]; rfl⟩
        · refine ⟨_, rfl, ?_⟩
          refine RL.m (ld_box rfl hb4 rfl) rfl ?_
          refine RL.nil ?_
          refine AL.p 9 (by kernel_rfl) rfl (sub rfl rfl (by omega)) rfl ?_
          refine AL.p 10 (by kernel_rfl) rfl (ix_o rfl rfl hje hj (hE.sl.someA (by decide) hj)) rfl ?_
          -- call slices.Clone[[]stagecoach/api.Did,stagecoach/api.Did] (tmp 30)
          have hs6 := H.size
          have hlt := fun (y : Maker) (hy : y ∈ L) (j : Nat) (hj : inBlock y.la j) => ((hLO.own y hy).blk hj).2
          refine AL.x 15 (by kernel_rfl) rfl rfl (fun w' hw' => pCloneD _ r.la r.lc r.last ((hO.own r hrH).sl.ext (by first | exact hw' | exact Ext.refl _)) (by omega)) ?_
          refine AX.m 2 (by kernel_rfl) rfl rfl (ld_box rfl hb4 rfl) rfl ?_
          refine AX.m 11 (by kernel_rfl) rfl rfl (ld_o0 rfl hE.sl (Ext.refl _) rfl hj rfl (by decide)) rfl ?_
          refine AX.m 13 (by kernel_rfl) rfl rfl (ldS_box rfl hb4 (Nat.le_of_ble_eq_true rfl) rfl) rfl ?_
          refine AX.o (by kernel_rfl) rfl ?_
          rintro v w49 ⟨⟨a5, c5, rfl, hC⟩, hx⟩
          replace H := H.ext hx; replace hbt := hbt.ext hx; replace hb4 := hb4.ext hx; replace hI := hI.ext hx; replace hm := hm.ext hx; replace hE := hE.ext hx; replace hO := hO.ext hx; replace hL := hL.ext hx; replace hLO := hLO.ext hx
          refine AL.p 16 (by kernel_rfl) rfl (bld rfl rfl) rfl ?_
          refine AL.o 17 (by kernel_rfl) rfl ?_
          refine RL.buildSlice w0.heap.size H.size rfl rfl rfl rfl rfl ?_
          intro w50 i33 hi33 hx hb33
          replace H := H.ext hx; replace hbt := hbt.ext hx; replace hb4 := hb4.ext hx; replace hI := hI.ext hx; replace hm := hm.ext hx; replace hE := hE.ext hx; replace hO := hO.ext hx; replace hL := hL.ext hx; replace hLO := hLO.ext hx; replace hC := hC.ext hx; clear hx
          refine RL.nil ?_
          refine AL.o 18 (by kernel_rfl) rfl ?_
          refine RL.appendS rfl hL H.size rfl (show Sl _ _ [(⟨q.1.id, D.E[ji], q.1.part, a5, c5, r.last⟩ : Maker)] from Box.sl1 hb33) rfl rfl (by decide) rfl cell1 (by omega) (by simp only [maxLen]; omega) rfl ?_
          intro w51 a34 c34 hu hb34 hfr34
          replace hbt := hbt.upd hu (fun h => hL.box_apart hbt (by decide) h)
          replace hb4 := hb4.upd hu (fun h => hL.box_apart hb4 (by decide) h)
          replace hI := hI.upd hu (hI.nea hL)
          replace hm := hm.upd hu (hm.nea hL)
          replace hE := hE.upd hu (fun j hj e => hE.apart hL (by decide) hj e)
          replace hO := hO.ow hL (by decide) hu
          replace hLO := hLO.ow hL (by decide) hu
          replace hC := hC.upd hu (fun j hj e => hC.apart hL (by decide) hj e)
          replace H := Ext.own H hL hu
          have hLO2 := hLO.snoc (s := (⟨q.1.id, D.E[ji], q.1.part, a5, c5, r.last⟩ : Maker)) (hC.mono hs6) (fun y hy j hj hj2 => by have h1 := hlt y hy j hj; have h2 := (hC.blk hj2).1; omega)
          refine RL.nil ?_
          refine AL.p 19 (by kernel_rfl) rfl (asgL rfl) rfl ?_
          refine AL.nil (by kernel_rfl) ?_
          refine ⟨(a34, c34, L ++ [(⟨q.1.id, D.E[ji], q.1.part, a5, c5, r.last⟩ : Maker)]), Head.intro (by repeat (first | with_reducible exact AgreeOff.refl _ _ | with_reducible exact AgreeOff.mix _ _ _ | refine AgreeOff.look rfl ?_ | refine AgreeOff.mixs rfl ?_)) ⟨rfl, trivial⟩, H, hbt, hb4, hI, hm, hE, hO, hb34, hLO2, by rw [List.map_append, List.map_append, hLm]; simp only [List.map_cons, List.map_nil, hmq]; rfl⟩
        · refine ⟨_, rfl, ?_⟩
          refine RL.m (ldS_box rfl hb4 (Nat.le_of_ble_eq_true rfl) rfl) rfl ?_
          refine RL.nil ?_
          refine AL.all (rs := [2, 8, 15]) (by kernel_rfl) rfl ?_
          rintro i hi; simp only [List.mem_cons, List.not_mem_nil, or_false] at hi; rcases hi with rfl | rfl | rfl
          · refine ⟨_, rfl, ?_⟩
            refine RL.m (ld_box rfl hb4 rfl) rfl ?_
            refine RL.nil ?_
            refine AL.all (rs := [8, 15]) (by kernel_rfl) rfl ?_
            rintro i hi; simp only [List.mem_cons, List.not_mem_nil, or_false] at hi; rcases hi with rfl | rfl
            · refine ⟨_, rfl, ?_⟩
              refine RL.m (ld_box rfl hb4 rfl) rfl ?_
              refine RL.nil ?_
              refine AL.p 9 (by kernel_rfl) rfl (sub rfl rfl (by omega)) rfl ?_
              refine AL.p 10 (by kernel_rfl) rfl (ix_o rfl rfl hje hj (hE.sl.someA (by decide) hj)) rfl ?_
              -- call slices.Clone[[]stagecoach/api.Did,stagecoach/api.Did] (tmp 30)
              have hs6 := H.size
              have hlt := fun (y : Maker) (hy : y ∈ L) (j : Nat) (hj : inBlock y.la j) => ((hLO.own y hy).blk hj).2
              refine AL.x 15 (by kernel_rfl) rfl rfl (fun w' hw' => pCloneD _ r.la r.lc r.last ((hO.own r hrH).sl.ext (by first | exact hw' | exact Ext.refl _)) (by omega)) ?_
              refine AX.m 11 (by kernel_rfl) rfl rfl (ld_o0 rfl hE.sl (Ext.refl _) rfl hj rfl (by decide)) rfl ?_
              refine AX.o (by kernel_rfl) rfl ?_
              rintro v w52 ⟨⟨a5, c5, rfl, hC⟩, hx⟩
              replace H := H.ext hx; replace hbt := hbt.ext hx; replace hb4 := hb4.ext hx; replace hI := hI.ext hx; replace hm := hm.ext hx; replace hE := hE.ext hx; replace hO := hO.ext hx; replace hL := hL.ext hx; replace hLO := hLO.ext hx
              refine AL.p 16 (by kernel_rfl) rfl (bld rfl rfl) rfl ?_
              refine AL.o 17 (by kernel_rfl) rfl ?_
              refine RL.buildSlice w0.heap.size H.size rfl rfl rfl rfl rfl ?_
              intro w53 i33 hi33 hx hb33
              replace H := H.ext hx; replace hbt := hbt.ext hx; replace hb4 := hb4.ext hx; replace hI := hI.ext hx; replace hm := hm.ext hx; replace hE := hE.ext hx; replace hO := hO.ext hx; replace hL := hL.ext hx; replace hLO := hLO.ext hx; replace hC := hC.ext hx; clear hx
              refine RL.nil ?_
              refine AL.o 18 (by kernel_rfl) rfl ?_
              refine RL.appendS rfl hL H.size rfl (show Sl _ _ [(⟨q.1.id, D.E[ji], q.1.part, a5, c5, r.last⟩ : Maker)] from Box.sl1 hb33) rfl rfl (by decide) rfl cell1 (by omega) (by simp only [maxLen]; omega) rfl ?_
              intro w54 a34 c34 hu hb34 hfr34
              replace hbt := hbt.upd hu (fun h => hL.box_apart hbt (by decide) h)
              replace hb4 := hb4.upd hu (fun h => hL.box_apart hb4 (by decide) h)
              replace hI := hI.upd hu (hI.nea hL)
              replace hm := hm.upd hu (hm.nea hL)
              replace hE := hE.upd hu (fun j hj e => hE.apart hL (by decide) hj e)
              replace hO := hO.ow hL (by decide) hu
              replace hLO := hLO.ow hL (by decide) hu
              replace hC := hC.upd hu (fun j hj e => hC.apart hL (by decide) hj e)
              replace H := Ext.own H hL hu
              have hLO2 := hLO.snoc (s := (⟨q.1.id, D.E[ji], q.1.part, a5, c5, r.last⟩ : Maker)) (hC.mono hs6) (fun y hy j hj hj2 => by have h1 := hlt y hy j hj; have h2 := (hC.blk hj2).1; omega)
              refine RL.nil ?_
              refine AL.p 19 (by kernel_rfl) rfl (asgL rfl) rfl ?_
              refine AL.nil (by kernel_rfl) ?_
              refine ⟨(a34, c34, L ++ [(⟨q.1.id, D.E[ji], q.1.part, a5, c5, r.last⟩ : Maker)]), Head.intro (by repeat (first | with_reducible exact AgreeOff.refl _ _ | with_reducible exact AgreeOff.mix _ _ _ | refine AgreeOff.look rfl ?_ | refine AgreeOff.mixs rfl ?_)) ⟨rfl, trivial⟩, H, hbt, hb4, hI, hm, hE, hO, hb34, hLO2, by rw [List.map_append, List.map_append, hLm]; simp only [List.map_cons, List.map_nil, hmq]; rfl⟩
            · refine ⟨_, rfl, ?_⟩
              -- call slices.Clone[[]stagecoach/api.Did,stagecoach/api.Did] (tmp 30)
              have hs6 := H.size
              have hlt := fun (y : Maker) (hy : y ∈ L) (j : Nat) (hj : inBlock y.la j) => ((hLO.own y hy).blk hj).2
              refine RL.call (pCloneD _ r.la r.lc r.last ((hO.own r hrH).sl.ext (by first | exact hw' | exact Ext.refl _)) (by omega)) rfl rfl ?_
              rintro v w55 ⟨⟨a5, c5, rfl, hC⟩, hx⟩
              replace H := H.ext hx; replace hbt := hbt.ext hx; replace hb4 := hb4.ext hx; replace hI := hI.ext hx; replace hm := hm.ext hx; replace hE := hE.ext hx; replace hO := hO.ext hx; replace hL := hL.ext hx; replace hLO := hLO.ext hx
              refine RL.nil ?_
              refine AL.m 8 (by kernel_rfl) rfl (ld_box rfl hb4 rfl) rfl ?_
              refine AL.p 9 (by kernel_rfl) rfl (sub rfl rfl (by omega)) rfl ?_
              refine AL.p 10 (by kernel_rfl) rfl (ix_o rfl rfl hje hj (hE.sl.someA (by decide) hj)) rfl ?_
              refine AL.m 11 (by kernel_rfl) rfl (ld_o0 rfl hE.sl (Ext.refl _) rfl hj rfl (by decide)) rfl ?_
              refine AL.p 16 (by kernel_rfl) rfl (bld rfl rfl) rfl ?_
              refine AL.o 17 (by kernel_rfl) rfl ?_
              refine RL.buildSlice w0.heap.size H.size rfl rfl rfl rfl rfl ?_
              intro w56 i33 hi33 hx hb33
              replace H := H.ext hx; replace hbt := hbt.ext hx; replace hb4 := hb4.ext hx; replace hI := hI.ext hx; replace hm := hm.ext hx; replace hE := hE.ext hx; replace hO := hO.ext hx; replace hL := hL.ext hx; replace hLO := hLO.ext hx; replace hC := hC.ext hx; clear hx
              refine RL.nil ?_
              refine AL.o 18 (by kernel_rfl) rfl ?_
              refine RL.appendS rfl hL H.size rfl (show Sl _ _ [(⟨q.1.id, D.E[ji], q.1.part, a5, c5, r.last⟩ : Maker)] from Box.sl1 hb33) rfl rfl (by decide) rfl cell1 (by omega) (by simp only [maxLen]; omega) rfl ?_
              intro w57 a34 c34 hu hb34 hfr34
              replace hbt := hbt.upd hu (fun h => hL.box_apart hbt (by decide) h)
              replace hb4 := hb4.upd hu (fun h => hL.box_apart hb4 (by decide) h)
              replace hI := hI.upd hu (hI.nea hL)
              replace hm := hm.upd hu (hm.nea hL)
              replace hE := hE.upd hu (fun j hj e => hE.apart hL (by decide) hj e)
              replace hO := hO.ow hL (by decide) hu
              replace hLO := hLO.ow hL (by decide) hu
              replace hC := hC.upd hu (fun j hj e => hC.apart hL (by decide) hj e)
              replace H := Ext.own H hL hu
              have hLO2 := hLO.snoc (s := (⟨q.1.id, D.E[ji], q.1.part, a5, c5, r.last⟩ : Maker)) (hC.mono hs6) (fun y hy j hj hj2 => by have h1 := hlt y hy j hj; have h2 := (hC.blk hj2).1; omega)
              refine RL.nil ?_
              refine AL.p 19 (by kernel_rfl) rfl (asgL rfl) rfl ?_
              refine AL.nil (by kernel_rfl) ?_
              refine ⟨(a34, c34, L ++ [(⟨q.1.id, D.E[ji], q.1.part, a5, c5, r.last⟩ : Maker)]), Head.intro (by repeat (first | with_reducible exact AgreeOff.refl _ _ | with_reducible exact AgreeOff.mix _ _ _ | refine AgreeOff.look rfl ?_ | refine AgreeOff.mixs rfl ?_)) ⟨rfl, trivial⟩, H, hbt, hb4, hI, hm, hE, hO, hb34, hLO2, by rw [List.map_append, List.map_append, hLm]; simp only [List.map_cons, List.map_nil, hmq]; rfl⟩
          · refine ⟨_, rfl, ?_⟩
            refine RL.m (ld_box rfl hb4 rfl) rfl ?_
            refine RL.nil ?_
            refine AL.p 9 (by kernel_rfl) rfl (sub rfl rfl (by omega)) rfl ?_
            refine AL.p 10 (by kernel_rfl) rfl (ix_o rfl rfl hje hj (hE.sl.someA (by decide) hj)) rfl ?_
            -- call slices.Clone[[]stagecoach/api.Did,stagecoach/api.Did] (tmp 30)
            have hs6 := H.size
            have hlt := fun (y : Maker) (hy : y ∈ L) (j : Nat) (hj : inBlock y.la j) => ((hLO.own y hy).blk hj).2
            refine AL.x 15 (by kernel_rfl) rfl rfl (fun w' hw' => pCloneD _ r.la r.lc r.last ((hO.own r hrH).sl.ext (by first | exact hw' | exact Ext.refl _)) (by omega)) ?_
            refine AX.m 2 (by kernel_rfl) rfl rfl (ld_box rfl hb4 rfl) rfl ?_
            refine AX.m 11 (by kernel_rfl) rfl rfl (ld_o0 rfl hE.sl (Ext.refl _) rfl hj rfl (by decide)) rfl ?_
            refine AX.o (by kernel_rfl) rfl ?_
            rintro v w58 ⟨⟨a5, c5, rfl, hC⟩, hx⟩
            replace H := H.ext hx; replace hbt := hbt.ext hx; replace hb4 := hb4.ext hx; replace hI := hI.ext hx; replace hm := hm.ext hx; replace hE := hE.ext hx; replace hO := hO.ext hx; replace hL := hL.ext hx; replace hLO := hLO.ext hx
            refine AL.p 16 (by kernel_rfl) rfl (bld rfl rfl) rfl ?_
            refine AL.o 17 (by kernel_rfl) rfl ?_
            refine RL.buildSlice w0.heap.size H.size rfl rfl rfl rfl rfl ?_
            intro w59 i33 hi33 hx hb33
            replace H := H.ext hx; replace hbt := hbt.ext hx; replace hb4 := hb4.ext hx; replace hI := hI.ext hx; replace hm := hm.ext hx; replace hE := hE.ext hx; replace hO := hO.ext hx; replace hL := hL.ext hx; replace hLO := hLO.ext hx; replace hC := hC.ext hx; clear hx
            refine RL.nil ?_
            refine AL.o 18 (by kernel_rfl) rfl ?_
            refine RL.appendS rfl hL H.size rfl (show Sl _ _ [(⟨q.1.id, D.E[ji], q.1.part, a5, c5, r.last⟩ : Maker)] from Box.sl1 hb33) rfl rfl (by decide) rfl cell1 (by omega) (by simp only [maxLen]; omega) rfl ?_
            intro w60 a34 c34 hu hb34 hfr34
            replace hbt := hbt.upd hu (fun h => hL.box_apart hbt (by decide) h)
            replace hb4 := hb4.upd hu (fun h => hL.box_apart hb4 (by decide) h)
            replace hI := hI.upd hu (hI.nea hL)
            replace hm := hm.upd hu (hm.nea hL)
            replace hE := hE.upd hu (fun j hj e => hE.apart hL (by decide) hj e)
            replace hO := hO.ow hL (by decide) hu
            replace hLO := hLO.ow hL (by decide) hu
            replace hC := hC.upd hu (fun j hj e => hC.apart hL (by decide) hj e)
            replace H := Ext.own H hL hu
            have hLO2 := hLO.snoc (s := (⟨q.1.id, D.E[ji], q.1.part, a5, c5, r.last⟩ : Maker)) (hC.mono hs6) (fun y hy j hj hj2 => by have h1 := hlt y hy j hj; have h2 := (hC.blk hj2).1; omega)
            refine RL.nil ?_
            refine AL.p 19 (by kernel_rfl) rfl (asgL rfl) rfl ?_
            refine AL.nil (by kernel_rfl) ?_
            refine ⟨(a34, c34, L ++ [(⟨q.1.id, D.E[ji], q.1.part, a5, c5, r.last⟩ : Maker)]), Head.intro (by repeat (first | with_reducible exact AgreeOff.refl _ _ | with_reducible exact AgreeOff.mix _ _ _ | refine AgreeOff.look rfl ?_ | refine AgreeOff.mixs rfl ?_)) ⟨rfl, trivial⟩, H, hbt, hb4, hI, hm, hE, hO, hb34, hLO2, by rw [List.map_append, List.map_append, hLm]; simp only [List.map_cons, List.map_nil, hmq]; rfl⟩
          · refine ⟨_, rfl, ?_⟩
            -- call slices.Clone[[]stagecoach/api.Did,stagecoach/api.Did] (tmp 30)
            have hs6 := H.size
            have hlt := fun (y : Maker) (hy : y ∈ L) (j : Nat) (hj : inBlock y.la j) => ((hLO.own y hy).blk hj).2
            refine RL.call (pCloneD _ r.la r.lc r.last ((hO.own r hrH).sl.ext (by first | exact hw' | exact Ext.refl _)) (by omega)) rfl rfl ?_
            rintro v w61 ⟨⟨a5, c5, rfl, hC⟩, hx⟩
            replace H := H.ext hx; replace hbt := hbt.ext hx; replace hb4 := hb4.ext hx; replace hI := hI.ext hx; replace hm := hm.ext hx; replace hE := hE.ext hx; replace hO := hO.ext hx; replace hL := hL.ext hx; replace hLO := hLO.ext hx
            refine RL.nil ?_
            refine AL.m 8 (by kernel_rfl) rfl (ld_box rfl hb4 rfl) rfl ?_
            refine AL.p 9 (by kernel_rfl) rfl (sub rfl rfl (by omega)) rfl ?_
            refine AL.p 10 (by kernel_rfl) rfl (ix_o rfl rfl hje hj (hE.sl.someA (by decide) hj)) rfl ?_
            refine AL.m 2 (by kernel_rfl) rfl (ld_box rfl hb4 rfl) rfl ?_
            refine AL.m 11 (by kernel_rfl) rfl (ld_o0 rfl hE.sl (Ext.refl _) rfl hj rfl (by decide)) rfl ?_
            refine AL.p 16 (by kernel_rfl) rfl (bld rfl rfl) rfl ?_
            refine AL.o 17 (by kernel_rfl) rfl ?_
            refine RL.buildSlice w0.heap.size H.size rfl rfl rfl rfl rfl ?_
            intro w62 i33 hi33 hx hb33
            replace H := H.ext hx; replace hbt := hbt.ext hx; replace hb4 := hb4.ext hx; replace hI := hI.ext hx; replace hm := hm.ext hx; replace hE := hE.ext hx; replace hO := hO.ext hx; replace hL := hL.ext hx; replace hLO := hLO.ext hx; replace hC := hC.ext hx; clear hx
            refine RL.nil ?_
            refine AL.o 18 (by kernel_rfl) rfl ?_
            refine RL.appendS rfl hL H.size rfl (show Sl _ _ [(⟨q.1.id, D.E[ji], q.1.part, a5, c5, r.last⟩ : Maker)] from Box.sl1 hb33) rfl rfl (by decide) rfl cell1 (by omega) (by simp only [maxLen]; omega) rfl ?_
            intro w63 a34 c34 hu hb34 hfr34
            replace hbt := hbt.upd hu (fun h => hL.box_apart hbt (by decide) h)
            replace hb4 := hb4.upd hu (fun h => hL.box_apart hb4 (by decide) h)
            replace hI := hI.upd hu (hI.nea hL)
            replace hm := hm.upd hu (hm.nea hL)
            replace hE := hE.upd hu (fun j hj e => hE.apart hL (by decide) hj e)
            replace hO := hO.ow hL (by decide) hu
            replace hLO := hLO.ow hL (by decide) hu
            replace hC := hC.upd hu (fun j hj e => hC.apart hL (by decide) hj e)
            replace H := Ext.own H hL hu
            have hLO2 := hLO.snoc (s := (⟨q.1.id, D.E[ji], q.1.part, a5, c5, r.last⟩ : Maker)) (hC.mono hs6) (fun y hy j hj hj2 => by have h1 := hlt y hy j hj; have h2 := (hC.blk hj2).1; omega)
            refine RL.nil ?_
            refine AL.p 19 (by kernel_rfl) rfl (asgL rfl) rfl ?_
            refine AL.nil (by kernel_rfl) ?_
            refine ⟨(a34, c34, L ++ [(⟨q.1.id, D.E[ji], q.1.part, a5, c5, r.last⟩ : Maker)]), Head.intro (by repeat (first | with_reducible exact AgreeOff.refl _ _ | with_reducible exact AgreeOff.mix _ _ _ | refine AgreeOff.look rfl ?_ | refine AgreeOff.mixs rfl ?_)) ⟨rfl, trivial⟩, H, hbt, hb4, hI, hm, hE, hO, hb34, hLO2, by rw [List.map_append, List.map_append, hLm]; simp only [List.map_cons, List.map_nil, hmq]; rfl⟩
        · refine ⟨_, rfl, ?_⟩
          -- call slices.Clone[[]stagecoach/api.Did,stagecoach/api.Did] (tmp 30)
          have hs6 := H.size
          have hlt := fun (y : Maker) (hy : y ∈ L) (j : Nat) (hj : inBlock y.la j) => ((hLO.own y hy).blk hj).2
          refine RL.call (pCloneD _ r.la r.lc r.last ((hO.own r hrH).sl.ext (by first | exact hw' | exact Ext.refl _)) (by omega)) rfl rfl ?_
          rintro v w64 ⟨⟨a5, c5, rfl, hC⟩, hx⟩
          replace H := H.ext hx; replace hbt := hbt.ext hx; replace hb4 := hb4.ext hx; replace hI := hI.ext hx; replace hm := hm.ext hx; replace hE := hE.ext hx; replace hO := hO.ext hx; replace hL := hL.ext hx; replace hLO := hLO.ext hx
          refine RL.nil ?_
          refine AL.m 8 (by kernel_rfl) rfl (ld_box rfl hb4 rfl) rfl ?_
          refine AL.p 9 (by kernel_rfl) rfl (sub rfl rfl (by omega)) rfl ?_
          refine AL.p 10 (by kernel_rfl) rfl (ix_o rfl rfl hje hj (hE.sl.someA (by decide) hj)) rfl ?_
          refine AL.m 2 (by kernel_rfl) rfl (ld_box rfl hb4 rfl) rfl ?_
          refine AL.m 11 (by kernel_rfl) rfl (ld_o0 rfl hE.sl (Ext.refl _) rfl hj rfl (by decide)) rfl ?_
          refine AL.m 13 (by kernel_rfl) rfl (ldS_box rfl hb4 (Nat.le_of_ble_eq_true rfl) rfl) rfl ?_
          refine AL.p 16 (by kernel_rfl) rfl (bld rfl rfl) rfl ?_
          refine AL.o 17 (by kernel_rfl) rfl ?_
          refine RL.buildSlice w0.heap.size H.size rfl rfl rfl rfl rfl ?_
          intro w65 i33 hi33 hx hb33
          replace H := H.ext hx; replace hbt := hbt.ext hx; replace hb4 := hb4.ext hx; replace hI := hI.ext hx; replace hm := hm.ext hx; replace hE := hE.ext hx; replace hO := hO.ext hx; replace hL := hL.ext hx; replace hLO := hLO.ext hx; replace hC := hC.ext hx; clear hx
          refine RL.nil ?_
          refine AL.o 18 (by kernel_rfl) rfl ?_
          refine RL.appendS rfl hL H.size rfl (show Sl _ _ [(⟨q.1.id, D.E[ji], q.1.part, a5, c5, r.last⟩ : Maker)] from Box.sl1 hb33) rfl rfl (by decide) rfl cell1 (by omega) (by simp only [maxLen]; omega) rfl ?_
          intro w66 a34 c34 hu hb34 hfr34
          replace hbt := hbt.upd hu (fun h => hL.box_apart hbt (by decide) h)
          replace hb4 := hb4.upd hu (fun h => hL.box_apart hb4 (by decide) h)
          replace hI := hI.upd hu (hI.nea hL)
          replace hm := hm.upd hu (hm.nea hL)
          replace hE := hE.upd hu (fun j hj e => hE.apart hL (by decide) hj e)
          replace hO := hO.ow hL (by decide) hu
          replace hLO := hLO.ow hL (by decide) hu
          replace hC := hC.upd hu (fun j hj e => hC.apart hL (by decide) hj e)
          replace H := Ext.own H hL hu
          have hLO2 := hLO.snoc (s := (⟨q.1.id, D.E[ji], q.1.part, a5, c5, r.last⟩ : Maker)) (hC.mono hs6) (fun y hy j hj hj2 => by have h1 := hlt y hy j hj; have h2 := (hC.blk hj2).1; omega)
          refine RL.nil ?_
          refine AL.p 19 (by kernel_rfl) rfl (asgL rfl) rfl ?_
          refine AL.nil (by kernel_rfl) ?_
          refine ⟨(a34, c34, L ++ [(⟨q.1.id, D.E[ji], q.1.part, a5, c5, r.last⟩ : Maker)]), Head.intro (by repeat (first | with_reducible exact AgreeOff.refl _ _ | with_reducible exact AgreeOff.mix _ _ _ | refine AgreeOff.look rfl ?_ | refine AgreeOff.mixs rfl ?_)) ⟨rfl, trivial⟩, H, hbt, hb4, hI, hm, hE, hO, hb34, hLO2, by rw [List.map_append, List.map_append, hLm]; simp only [List.map_cons, List.map_nil, hmq]; rfl⟩
      · refine ⟨_, rfl, ?_⟩
        refine RL.m (ld_box rfl hb4 rfl) rfl ?_
        refine RL.nil ?_
        refine AL.p 9 (by kernel_rfl) rfl (sub rfl rfl (by omega)) rfl ?_
        -- call slices.Clone[[]stagecoach/api.Did,stagecoach/api.Did] (tmp 30)
        have hs6 := H.size
        have hlt := fun (y : Maker) (hy : y ∈ L) (j : Nat) (hj : inBlock y.la j) => ((hLO.own y hy).blk hj).2
        refine AL.x 15 (by kernel_rfl) rfl rfl (fun w' hw' => pCloneD _ r.la r.lc r.last ((hO.own r hrH).sl.ext (by first | exact hw' | exact Ext.refl _)) (by omega)) ?_
        refine AX.m 2 (by kernel_rfl) rfl rfl (ld_box rfl hb4 rfl) rfl ?_
        refine AX.m 6 (by kernel_rfl) rfl rfl (ld_box rfl hbt rfl) rfl ?_
        refine AX.m 10 (by kernel_rfl) rfl rfl (Pure.does (ix_o rfl rfl hje hj (hE.sl.someA (by decide) hj)) _) rfl ?_
        refine AX.m 11 (by kernel_rfl) rfl rfl (ld_o0 rfl hE.sl (Ext.refl _) rfl hj rfl (by decide)) rfl ?_
        refine AX.m 13 (by kernel_rfl) rfl rfl (ldS_box rfl hb4 (Nat.le_of_ble_eq_true rfl) rfl) rfl ?_
        refine AX.o (by kernel_rfl) rfl ?_
        rintro v w67 ⟨⟨a5, c5, rfl, hC⟩, hx⟩
        replace H := H.ext hx; replace hbt := hbt.ext hx; replace hb4 := hb4.ext hx; replace hI := hI.ext hx; replace hm := hm.ext hx; replace hE := hE.ext hx; replace hO := hO.ext hx; replace hL := hL.ext hx; replace hLO := hLO.ext hx
        refine AL.p 16 (by kernel_rfl) rfl (bld rfl rfl) rfl ?_
        refine AL.o 17 (by kernel_rfl) rfl ?_
        refine RL.buildSlice w0.heap.size H.size rfl rfl rfl rfl rfl ?_
        intro w68 i33 hi33 hx hb33
        replace H := H.ext hx; replace hbt := hbt.ext hx; replace hb4 := hb4.ext hx; replace hI := hI.ext hx; replace hm := hm.ext hx; replace hE := hE.ext hx; replace hO := hO.ext hx; replace hL := hL.ext hx; replace hLO := hLO.ext hx; replace hC := hC.ext hx; clear hx
        refine RL.nil ?_
        refine AL.o 18 (by kernel_rfl) rfl ?_
        refine RL.appendS rfl hL H.size rfl (show Sl _ _ [(⟨q.1.id, D.E[ji], q.1.part, a5, c5, r.last⟩ : Maker)] from Box.sl1 hb33) rfl rfl (by decide) rfl cell1 (by omega) (by simp only [maxLen]; omega) rfl ?_
        intro w69 a34 c34 hu hb34 hfr34
        replace hbt := hbt.upd hu (fun h => hL.box_apart hbt (by decide) h)
        replace hb4 := hb4.upd hu (fun h => hL.box_apart hb4 (by decide) h)
        replace hI := hI.upd hu (hI.nea hL)
        replace hm := hm.upd hu (hm.nea hL)
        replace hE := hE.upd hu (fun j hj e => hE.apart hL (by decide) hj e)
        replace hO := hO.ow hL (by decide) hu
        replace hLO := hLO.ow hL (by decide) hu
        replace hC := hC.upd hu (fun j hj e => hC.apart hL (by decide) hj e)
        replace H := Ext.own H hL hu
        have hLO2 := hLO.snoc (s := (⟨q.1.id, D.E[ji], q.1.part, a5, c5, r.last⟩ : Maker)) (hC.mono hs6) (fun y hy j hj hj2 => by have h1 := hlt y hy j hj; have h2 := (hC.blk hj2).1; omega)
        refine RL.nil ?_
        refine AL.p 19 (by kernel_rfl) rfl (asgL rfl) rfl ?_
        refine AL.nil (by kernel_rfl) ?_
        refine ⟨(a34, c34, L ++ [(⟨q.1.id, D.E[ji], q.1.part, a5, c5, r.last⟩ : Maker)]), Head.intro (by repeat (first | with_reducible exact AgreeOff.refl _ _ | with_reducible exact AgreeOff.mix _ _ _ | refine AgreeOff.look rfl ?_ | refine AgreeOff.mixs rfl ?_)) ⟨rfl, trivial⟩, H, hbt, hb4, hI, hm, hE, hO, hb34, hLO2, by rw [List.map_append, List.map_append, hLm]; simp only [List.map_cons, List.map_nil, hmq]; rfl⟩
      · refine ⟨_, rfl, ?_⟩
        refine RL.m (ldS_box rfl hb4 (Nat.le_of_ble_eq_true rfl) rfl) rfl ?_
        refine RL.nil ?_
        refine AL.all (rs := [2, 6, 8, 15]) (by kernel_rfl) rfl ?_
        rintro i hi; simp only [List.mem_cons, List.not_mem_nil, or_false] at hi; rcases hi with rfl | rfl | rfl | rfl
        · refine ⟨_, rfl, ?_⟩
          refine RL.m (ld_box rfl hb4 rfl) rfl ?_
          refine RL.nil ?_
          refine AL.all (rs := [6, 8, 15]) (by kernel_rfl) rfl ?_
          rintro i hi; simp only [List.mem_cons, List.not_mem_nil, or_false] at hi; rcases hi with rfl | rfl | rfl
          · refine ⟨_, rfl, ?_⟩
            refine RL.m (ld_box rfl hbt rfl) rfl ?_
            refine RL.nil ?_
            refine AL.all (rs := [8, 15]) (by kernel_rfl) rfl ?_
            rintro i hi; simp only [List.mem_cons, List.not_mem_nil, or_false] at hi; rcases hi with rfl | rfl
            · refine ⟨_, rfl, ?_⟩
              refine RL.m (ld_box rfl hb4 rfl) rfl ?_
              refine RL.nil ?_
              refine AL.p 9 (by kernel_rfl) rfl (sub rfl rfl (by omega)) rfl ?_
              refine AL.p 10 (by kernel_rfl) rfl (ix_o rfl rfl hje hj (hE.sl.someA (by decide) hj)) rfl ?_
              -- call slices.Clone[[]stagecoach/api.Did,stagecoach/api.Did] (tmp 30)
              have hs6 := H.size
              have hlt := fun (y : Maker) (hy : y ∈ L) (j : Nat) (hj : inBlock y.la j) => ((hLO.own y hy).blk hj).2
              refine AL.x 15 (by kernel_rfl) rfl rfl (fun w' hw' => pCloneD _ r.la r.lc r.last ((hO.own r hrH).sl.ext (by first | exact hw' | exact Ext.refl _)) (by omega)) ?_
              refine AX.m 11 (by kernel_rfl) rfl rfl (ld_o0 rfl hE.sl (Ext.refl _) rfl hj rfl (by decide)) rfl ?_
              refine AX.o (by kernel_rfl) rfl ?_
              rintro v w70 ⟨⟨a5, c5, rfl, hC⟩, hx⟩
              replace H := H.ext hx; replace hbt := hbt.ext hx; replace hb4 := hb4.ext hx; replace hI := hI.ext hx; replace hm := hm.ext hx; replace hE := hE.ext hx; replace hO := hO.ext hx; replace hL := hL.ext hx; replace hLO := hLO.ext hx
              refine AL.p 16 (by kernel_rfl) rfl (bld rfl rfl) rfl ?_
              refine AL.o 17 (by kernel_rfl) rfl ?_
              refine RL.buildSlice w0.heap.size H.size rfl rfl rfl rfl rfl ?_
              intro w71 i33 hi33 hx hb33
              replace H := H.ext hx; replace hbt := hbt.ext hx; replace hb4 := hb4.ext hx; replace hI := hI.ext hx; replace hm := hm.ext hx; replace hE := hE.ext hx; replace hO := hO.ext hx; replace hL := hL.ext hx; replace hLO := hLO.ext hx; replace hC := hC.ext hx; clear hx
              refine RL.nil ?_
              refine AL.o 18 (by kernel_rfl) rfl ?_
              refine RL.appendS rfl hL H.size rfl (show Sl _ _ [(⟨q.1.id, D.E[ji], q.1.part, a5, c5, r.last⟩ : Maker)] from Box.sl1 hb33) rfl rfl (by decide) rfl cell1 (by omega) (by simp only [maxLen]; omega) rfl ?_
              intro w72 a34 c34 hu hb34 hfr34
              replace hbt := hbt.upd hu (fun h => hL.box_apart hbt (by decide) h)
              replace hb4 := hb4.upd hu (fun h => hL.box_apart hb4 (by decide) h)
              replace hI := hI.upd hu (hI.nea hL)
              replace hm := hm.upd hu (hm.nea hL)
              replace hE := hE.upd hu (fun j hj e => hE.apart hL (by decide) hj e)
              replace hO := hO.ow hL (by decide) hu
              replace hLO := hLO.ow hL (by decide) hu
              replace hC := hC.upd hu (fun j hj e => hC.apart hL (by decide) hj e)
              replace H := Ext.own H hL hu
              have hLO2 := hLO.snoc (s := (⟨q.1.id, D.E[ji], q.1.part, a5, c5, r.last⟩ : Maker)) (hC.mono hs6) (fun y hy j hj hj2 => by have h1 := hlt y hy j hj; have h2 := (hC.blk hj2).1; omega)
              refine RL.nil ?_
              refine AL.p 19 (by kernel_rfl) rfl (asgL rfl) rfl ?_
              refine AL.nil (by kernel_rfl) ?_
              refine ⟨(a34, c34, L ++ [(⟨q.1.id, D.E[ji], q.1.part, a5, c5, r.last⟩ : Maker)]), Head.intro (by repeat (first | with_reducible exact AgreeOff.refl _ _ | with_reducible exact AgreeOff.mix _ _ _ | refine AgreeOff.look rfl ?_ | refine AgreeOff.mixs rfl ?_)) ⟨rfl, trivial⟩, H, hbt, hb4, hI, hm, hE, hO, hb34, hLO2, by rw [List.map_append, List.map_append, hLm]; simp only [List.map_cons, List.map_nil, hmq]; rfl⟩
            · refine ⟨_, rfl, ?_⟩
              -- call slices.Clone[[]stagecoach/api.Did,stagecoach/api.Did] (tmp 30)
              have hs6 := H.size
              have hlt := fun (y : Maker) (hy : y ∈ L) (j : Nat) (hj : inBlock y.la j) => ((hLO.own y hy).blk hj).2
              refine RL.call (pCloneD _ r.la r.lc r.last ((hO.own r hrH).sl.ext (by first | exact hw' | exact Ext.refl _)) (by omega)) rfl rfl ?_
              rintro v w73 ⟨⟨a5, c5, rfl, hC⟩, hx⟩
              replace H := H.ext hx; replace hbt := hbt.ext hx; replace hb4 := hb4.ext hx; replace hI := hI.ext hx; replace hm := hm.ext hx; replace hE := hE.ext hx; replace hO := hO.ext hx; replace hL := hL.ext hx; replace hLO := hLO.ext hx
              refine RL.nil ?_
              refine AL.m 8 (by kernel_rfl) rfl (ld_box rfl hb4 rfl) rfl ?_
              refine AL.p 9 (by kernel_rfl) rfl (sub rfl rfl (by omega)) rfl ?_
              refine AL.p 10 (by kernel_rfl) rfl (ix_o rfl rfl hje hj (hE.sl.someA (by decide) hj)) rfl ?_
              refine AL.m 11 (by kernel_rfl) rfl (ld_o0 rfl hE.sl (Ext.refl _) rfl hj rfl (by decide)) rfl ?_
              refine AL.p 16 (by kernel_rfl) rfl (bld rfl rfl) rfl ?_
              refine AL.o 17 (by kernel_rfl) rfl ?_
              refine RL.buildSlice w0.heap.size H.size rfl rfl rfl rfl rfl ?_
              intro w74 i33 hi33 hx hb33
              replace H := H.ext hx; replace hbt := hbt.ext hx; replace hb4 := hb4.ext hx; replace hI := hI.ext hx; replace hm := hm.ext hx; replace hE := hE.ext hx; replace hO := hO.ext hx; replace hL := hL.ext hx; replace hLO := hLO.ext hx; replace hC := hC.ext hx; clear hx
              refine RL.nil ?_
              refine AL.o 18 (by kernel_rfl) rfl ?_
              refine RL.appendS rfl hL H.size rfl (show Sl _ _ [(⟨q.1.id, D.E[ji], q.1.part, a5, c5, r.last⟩ : Maker)] from Box.sl1 hb33) rfl rfl (by decide) rfl cell1 (by omega) (by simp only [maxLen]; omega) rfl ?_
              intro w75 a34 c34 hu hb34 hfr34
              replace hbt := hbt.upd hu (fun h => hL.box_apart hbt (by decide) h)
              replace hb4 := hb4.upd hu (fun h => hL.box_apart hb4 (by decide) h)
              replace hI := hI.upd hu (hI.nea hL)
              replace hm := hm.upd hu (hm.nea hL)
              replace hE := hE.upd hu (fun j hj e => hE.apart hL (by decide) hj e)
              replace hO := hO.ow hL (by decide) hu
              replace hLO := hLO.ow hL (by decide) hu
              replace hC := hC.upd hu (fun j hj e => hC.apart hL (by decide) hj e)
              replace H := Ext.own H hL hu
              have hLO2 := hLO.snoc (s := (⟨q.1.id, D.E[ji], q.1.part, a5, c5, r.last⟩ : Maker)) (hC.mono hs6) (fun y hy j hj hj2 => by have h1 := hlt y hy j hj; have h2 := (hC.blk hj2).1; omega)
              refine RL.nil ?_
              refine AL.p 19 (by kernel_rfl) rfl (asgL rfl) rfl ?_
              refine AL.nil (by kernel_rfl) ?_
              refine ⟨(a34, c34, L ++ [(⟨q.1.id, D.E[ji], q.1.part, a5, c5, r.last⟩ : Maker)]), Head.intro (by repeat (first | with_reducible exact AgreeOff.refl _ _ | with_reducible exact AgreeOff.mix _ _ _ | refine AgreeOff.look rfl ?_ | refine AgreeOff.mixs rfl ?_)) ⟨rfl, trivial⟩, H, hbt, hb4, hI, hm, hE, hO, hb34, hLO2, by rw [List.map_append, List.map_append, hLm]; simp only [List.map_cons, List.map_nil, hmq]; rfl⟩
          · refine ⟨_, rfl, ?_⟩
            refine RL.m (ld_box rfl hb4 rfl) rfl ?_
            refine RL.nil ?_
            refine AL.p 9 (by kernel_rfl) rfl (sub rfl rfl (by omega)) rfl ?_
            -- call slices.Clone[[]stagecoach/api.Did,stagecoach/api.Did] (tmp 30)
            have hs6 := H.size
            have hlt := fun (y : Maker) (hy : y ∈ L) (j : Nat) (hj : inBlock y.la j) => ((hLO.own y hy).blk hj).2
            refine AL.x 15 (by kernel_rfl) rfl rfl (fun w' hw' => pCloneD _ r.la r.lc r.last ((hO.own r hrH).sl.ext (by first | exact hw' | exact Ext.refl _)) (by omega)) ?_
            refine AX.m 6 (by kernel_rfl) rfl rfl (ld_box rfl hbt rfl) rfl ?_
            refine AX.m 10 (by kernel_rfl) rfl rfl (Pure.does (ix_o rfl rfl hje hj (hE.sl.someA (by decide) hj)) _) rfl ?_
            refine AX.m 11 (by kernel_rfl) rfl rfl (ld_o0 rfl hE.sl (Ext.refl _) rfl hj rfl (by decide)) rfl ?_
            refine AX.o (by kernel_rfl) rfl ?_
            rintro v w76 ⟨⟨a5, c5, rfl, hC⟩, hx⟩
            replace H := H.ext hx; replace hbt := hbt.ext hx; replace hb4 := hb4.ext hx; replace hI := hI.ext hx; replace hm := hm.ext hx; replace hE := hE.ext hx; replace hO := hO.ext hx; replace hL := hL.ext hx; replace hLO := hLO.ext hx
            refine AL.p 16 (by kernel_rfl) rfl (bld rfl rfl) rfl ?_
            refine AL.o 17 (by kernel_rfl) rfl ?_
            refine RL.buildSlice w0.heap.size H.size rfl rfl rfl rfl rfl ?_
            intro w77 i33 hi33 hx hb33
            replace H := H.ext hx; replace hbt := hbt.ext hx; replace hb4 := hb4.ext hx; replace hI := hI.ext hx; replace hm := hm.ext hx; replace hE := hE.ext hx; replace hO := hO.ext hx; replace hL := hL.ext hx; replace hLO := hLO.ext hx; replace hC := hC.ext hx; clear hx
            refine RL.nil ?_
            refine AL.o 18 (by kernel_rfl) rfl ?_
            refine RL.appendS rfl hL H.size rfl (show Sl _ _ [(⟨q.1.id, D.E[ji], q.1.part, a5, c5, r.last⟩ : Maker)] from Box.sl1 hb33) rfl rfl (by decide) rfl cell1 (by omega) (by simp only [maxLen]; omega) rfl ?_
            intro w78 a34 c34 hu hb34 hfr34
            replace hbt := hbt.upd hu (fun h => hL.box_apart hbt (by decide) h)
            replace hb4 := hb4.upd hu (fun h => hL.box_apart hb4 (by decide) h)
            replace hI := hI.upd hu (hI.nea hL)
            replace hm := hm.upd hu (hm.nea hL)
            replace hE := hE.upd hu (fun j hj e => hE.apart hL (by decide) hj e)
            replace hO := hO.ow hL (by decide) hu
            replace hLO := hLO.ow hL (by decide) hu
            replace hC := hC.upd hu (fun j hj e => hC.apart hL (by decide) hj e)
            replace H := Ext.own H hL hu
            have hLO2 := hLO.snoc (s := (⟨q.1.id, D.E[ji], q.1.part, a5, c5, r.last⟩ : Maker)) (hC.mono hs6) (fun y hy j hj hj2 => by have h1 := hlt y hy j hj; have h2 := (hC.blk hj2).1; omega)
            refine RL.nil ?_
            refine AL.p 19 (by kernel_rfl) rfl (asgL rfl) rfl ?_
            refine AL.nil (by kernel_rfl) ?_
            refine ⟨(a34, c34, L ++ [(⟨q.1.id, D.E[ji], q.1.part, a5, c5, r.last⟩ : Maker)]), Head.intro (by repeat (first | with_reducible exact AgreeOff.refl _ _ | with_reducible exact AgreeOff.mix _ _ _ | refine AgreeOff.look rfl ?_ | refine AgreeOff.mixs rfl ?_)) ⟨rfl, trivial⟩, H, hbt, hb4, hI, hm, hE, hO, hb34, hLO2, by rw [List.map_append, List.map_append, hLm]; simp only [List.map_cons, List.map_nil, hmq]; rfl⟩
          · refine ⟨_, rfl, ?_⟩
            -- call slices.Clone[[]stagecoach/api.Did,stagecoach/api.Did] (tmp 30)
            have hs6 := H.size
            have hlt := fun (y : Maker) (hy : y ∈ L) (j : Nat) (hj : inBlock y.la j) => ((hLO.own y hy).blk hj).2
            refine RL.call (pCloneD _ r.la r.lc r.last ((hO.own r hrH).sl.ext (by first | exact hw' | exact Ext.refl _)) (by omega)) rfl rfl ?_
            rintro v w79 ⟨⟨a5, c5, rfl, hC⟩, hx⟩
            replace H := H.ext hx; replace hbt := hbt.ext hx; replace hb4 := hb4.ext hx; replace hI := hI.ext hx; replace hm := hm.ext hx; replace hE := hE.ext hx; replace hO := hO.ext hx; replace hL := hL.ext hx; replace hLO := hLO.ext hx
            refine RL.nil ?_
            refine AL.m 8 (by kernel_rfl) rfl (ld_box rfl hb4 rfl) rfl ?_
            refine AL.p 9 (by kernel_rfl) rfl (sub rfl rfl (by omega)) rfl ?_
            refine AL.m 6 (by kernel_rfl) rfl (ld_box rfl hbt rfl) rfl ?_
            refine AL.p 10 (by kernel_rfl) rfl (ix_o rfl rfl hje hj (hE.sl.someA (by decide) hj)) rfl ?_
            refine AL.m 11 (by kernel_rfl) rfl (ld_o0 rfl hE.sl (Ext.refl _) rfl hj rfl (by decide)) rfl ?_
            refine AL.p 16 (by kernel_rfl) rfl (bld rfl rfl) rfl ?_
            refine AL.o 17 (by kernel_rfl) rfl ?_
            refine RL.buildSlice w0.heap.size H.size rfl rfl rfl rfl rfl ?_
            intro w80 i33 hi33 hx hb33
            replace H := H.ext hx; replace hbt := hbt.ext hx; replace hb4 := hb4.ext hx; replace hI := hI.ext hx; replace hm := hm.ext hx; replace hE := hE.ext hx; replace hO := hO.ext hx; replace hL := hL.ext hx; replace hLO := hLO.ext hx; replace hC := hC.ext hx; clear hx
            refine RL.nil ?_
            refine AL.o 18 (by kernel_rfl) rfl ?_
            refine RL.appendS rfl hL H.size rfl (show Sl _ _ [(⟨q.1.id, D.E[ji], q.1.part, a5, c5, r.last⟩ : Maker)] from Box.sl1 hb33) rfl rfl (by decide) rfl cell1 (by omega) (by simp only [maxLen]; omega) rfl ?_
            intro w81 a34 c34 hu hb34 hfr34
            replace hbt := hbt.upd hu (fun h => hL.box_apart hbt (by decide) h)
            replace hb4 := hb4.upd hu (fun h => hL.box_apart hb4 (by decide) h)
            replace hI := hI.upd hu (hI.nea hL)
            replace hm := hm.upd hu (hm.nea hL)
            replace hE := hE.upd hu (fun j hj e => hE.apart hL (by decide) hj e)
            replace hO := hO.ow hL (by decide) hu
            replace hLO := hLO.ow hL (by decide) hu
            replace hC := hC.upd hu (fun j hj e => hC.apart hL (by decide) hj e)
            replace H := Ext.own H hL hu
            have hLO2 := hLO.snoc (s := (⟨q.1.id, D.E[ji], q.1.part, a5, c5, r.last⟩ : Maker)) (hC.mono hs6) (fun y hy j hj hj2 => by have h1 := hlt y hy j hj; have h2 := (hC.blk hj2).1; omega)
            refine RL.nil ?_
            refine AL.p 19 (by kernel_rfl) rfl (asgL rfl) rfl ?_
            refine AL.nil (by kernel_rfl) ?_
            refine ⟨(a34, c34, L ++ [(⟨q.1.id, D.E[ji], q.1.part, a5, c5, r.last⟩ : Maker)]), Head.intro (by repeat (first | with_reducible exact AgreeOff.refl _ _ | with_reducible exact AgreeOff.mix _ _ _ | refine AgreeOff.look rfl ?_ | refine AgreeOff.mixs rfl ?_)) ⟨rfl, trivial⟩, H, hbt, hb4, hI, hm, hE, hO, hb34, hLO2, by rw [List.map_append, List.map_append, hLm]; simp only [List.map_cons, List.map_nil, hmq]; rfl⟩
        · refine ⟨_, rfl, ?_⟩
          refine RL.m (ld_box rfl hbt rfl) rfl ?_
          refine RL.nil ?_
          refine AL.all (rs := [2, 8, 15]) (by kernel_rfl) rfl ?_
          rintro i hi; simp only [List.mem_cons, List.not_mem_nil, or_false] at hi; rcases hi with rfl | rfl | rfl
          · refine ⟨_, rfl, ?_⟩
            refine RL.m (ld_box rfl hb4 rfl) rfl ?_
            refine RL.nil ?_
            refine AL.all (rs := [8, 15]) (by kernel_rfl) rfl ?_
            rintro i hi; simp only [List.mem_cons, List.not_mem_nil, or_false] at hi; rcases hi with rfl | rfl
            · refine ⟨_, rfl, ?_⟩
              refine RL.m (ld_box rfl hb4 rfl) rfl ?_
              refine RL.nil ?_
              refine AL.p 9 (by kernel_rfl) rfl (sub rfl rfl (by omega)) rfl ?_
              refine AL.p 10 (by kernel_rfl) rfl (ix_o rfl rfl hje hj (hE.sl.someA (by decide) hj)) rfl ?_
              -- call slices.Clone[[]stagecoach/api.Did,stagecoach/api.Did] (tmp 30)
              have hs6 := H.size
              have hlt := fun (y : Maker) (hy : y ∈ L) (j : Nat) (hj : inBlock y.la j) => ((hLO.own y hy).blk hj).2
              refine AL.x 15 (by kernel_rfl) rfl rfl (fun w' hw' => pCloneD _ r.la r.lc r.last ((hO.own r hrH).sl.ext (by first | exact hw' | exact Ext.refl _)) (by omega)) ?_
              refine AX.m 11 (by kernel_rfl) rfl rfl (ld_o0 rfl hE.sl (Ext.refl _) rfl hj rfl (by decide)) rfl ?_
              refine AX.o (by kernel_rfl) rfl ?_
              rintro v w82 ⟨⟨a5, c5, rfl, hC⟩, hx⟩
              replace H := H.ext hx; replace hbt := hbt.ext hx; replace hb4 := hb4.ext hx; replace hI := hI.ext hx; replace hm := hm.ext hx; replace hE := hE.ext hx; replace hO := hO.ext hx; replace hL := hL.ext hx; replace hLO := hLO.ext hx
              refine AL.p 16 (by kernel_rfl) rfl (bld rfl rfl) rfl ?_
              refine AL.o 17 (by kernel_rfl) rfl ?_
              refine RL.buildSlice w0.heap.size H.size rfl rfl rfl rfl rfl ?_
              intro w83 i33 hi33 hx hb33
              replace H := H.ext hx; replace hbt := hbt.ext hx; replace hb4 := hb4.ext hx; replace hI := hI.ext hx; replace hm := hm.ext hx; replace hE := hE.ext hx; replace hO := hO.ext hx; replace hL := hL.ext hx; replace hLO := hLO.ext hx; replace hC := hC.ext hx; clear hx
              refine RL.nil ?_
              refine AL.o 18 (by kernel_rfl) rfl ?_
              refine RL.appendS rfl hL H.size rfl (show Sl _ _ [(⟨q.1.id, D.E[ji], q.1.part, a5, c5, r.last⟩ : Maker)] from Box.sl1 hb33) rfl rfl (by decide) rfl cell1 (by omega) (by simp only [maxLen]; omega) rfl ?_
              intro w84 a34 c34 hu hb34 hfr34
              replace hbt := hbt.upd hu (fun h => hL.box_apart hbt (by decide) h)
              replace hb4 := hb4.upd hu (fun h => hL.box_apart hb4 (by decide) h)
              replace hI := hI.upd hu (hI.nea hL)
              replace hm := hm.upd hu (hm.nea hL)
              replace hE := hE.upd hu (fun j hj e => hE.apart hL (by decide) hj e)
              replace hO := hO.ow hL (by decide) hu
              replace hLO := hLO.ow hL (by decide) hu
              replace hC := hC.upd hu (fun j hj e => hC.apart hL (by decide) hj e)
              replace H := Ext.own H hL hu
              have hLO2 := hLO.snoc (s := (⟨q.1.id, D.E[ji], q.1.part, a5, c5, r.last⟩ : Maker)) (hC.mono hs6) (fun y hy j hj hj2 => by have h1 := hlt y hy j hj; have h2 := (hC.blk hj2).1; omega)
              refine RL.nil ?_
              refine AL.p 19 (by kernel_rfl) rfl (asgL rfl) rfl ?_
              refine AL.nil (by kernel_rfl) ?_
              refine ⟨(a34, c34, L ++ [(⟨q.1.id, D.E[ji], q.1.part, a5, c5, r.last⟩ : Maker)]), Head.intro (by repeat (first | with_reducible exact AgreeOff.refl _ _ | with_reducible exact AgreeOff.mix _ _ _ | refine AgreeOff.look rfl ?_ | refine AgreeOff.mixs rfl ?_)) ⟨rfl, trivial⟩, H, hbt, hb4, hI, hm, hE, hO, hb34, hLO2, by rw [List.map_append, List.map_append, hLm]; simp only [List.map_cons, List.map_nil, hmq]; rfl⟩
            · refine ⟨_, rfl, ?_⟩
              -- call slices.Clone[[]stagecoach/api.Did,stagecoach/api.Did] (tmp 30)
              have hs6 := H.size
              have hlt := fun (y : Maker) (hy : y ∈ L) (j : Nat) (hj : inBlock y.la j) => ((hLO.own y hy).blk hj).2
              refine RL.call (pCloneD _ r.la r.lc r.last ((hO.own r hrH).sl.ext (by first | exact hw' | exact Ext.refl _)) (by omega)) rfl rfl ?_
              rintro v w85 ⟨⟨a5, c5, rfl, hC⟩, hx⟩
              replace H := H.ext hx; replace hbt := hbt.ext hx; replace hb4 := hb4.ext hx; replace hI := hI.ext hx; replace hm := hm.ext hx; replace hE := hE.ext hx; replace hO := hO.ext hx; replace hL := hL.ext hx; replace hLO := hLO.ext hx
              refine RL.nil ?_
              refine AL.m 8 (by kernel_rfl) rfl (ld_box rfl hb4 rfl) rfl ?_
              refine AL.p 9 (by kernel_rfl) rfl (sub rfl rfl (by omega)) rfl ?_
              refine AL.p 10 (by kernel_rfl) rfl (ix_o rfl rfl hje hj (hE.sl.someA (by decide) hj)) rfl ?_
              refine AL.m 11 (by kernel_rfl) rfl (ld_o0 rfl hE.sl (Ext.refl _) rfl hj rfl (by decide)) rfl ?_
              refine AL.p 16 (by kernel_rfl) rfl (bld rfl rfl) rfl ?_
              refine AL.o 17 (by kernel_rfl) rfl ?_
              refine RL.buildSlice w0.heap.size H.size rfl rfl rfl rfl rfl ?_
              intro w86 i33 hi33 hx hb33
              replace H := H.ext hx; replace hbt := hbt.ext hx; replace hb4 := hb4.ext hx; replace hI := hI.ext hx; replace hm := hm.ext hx; replace hE := hE.ext hx; replace hO := hO.ext hx; replace hL := hL.ext hx; replace hLO := hLO.ext hx; replace hC := hC.ext hx; clear hx
              refine RL.nil ?_
              refine AL.o 18 (by kernel_rfl) rfl ?_
              refine RL.appendS rfl hL H.size rfl (show Sl _ _ [(⟨q.1.id, D.E[ji], q.1.part, a5, c5, r.last⟩ : Maker)] from Box.sl1 hb33) rfl rfl (by decide) rfl cell1 (by omega) (by simp only [maxLen]; omega) rfl ?_
              intro w87 a34 c34 hu hb34 hfr34
              replace hbt := hbt.upd hu (fun h => hL.box_apart hbt (by decide) h)
              replace hb4 := hb4.upd hu (fun h => hL.box_apart hb4 (by decide) h)
              replace hI := hI.upd hu (hI.nea hL)
              replace hm := hm.upd hu (hm.nea hL)
              replace hE := hE.upd hu (fun j hj e => hE.apart hL (by decide) hj e)
              replace hO := hO.ow hL (by decide) hu
              replace hLO := hLO.ow hL (by decide) hu
              replace hC := hC.upd hu (fun j hj e => hC.apart hL (by decide) hj e)
              replace H := Ext.own H hL hu
              have hLO2 := hLO.snoc (s := (⟨q.1.id, D.E[ji], q.1.part, a5, c5, r.last⟩ : Maker)) (hC.mono hs6) (fun y hy j hj hj2 => by have h1 := hlt y hy j hj; have h2 := (hC.blk hj2).1; omega)
              refine RL.nil ?_
              refine AL.p 19 (by kernel_rfl) rfl (asgL rfl) rfl ?_
              refine AL.nil (by kernel_rfl) ?_
              refine ⟨(a34, c34, L ++ [(⟨q.1.id, D.E[ji], q.1.part, a5, c5, r.last⟩ : Maker)]), Head.intro (by repeat (first | with_reducible exact AgreeOff.refl _ _ | with_reducible exact AgreeOff.mix _ _ _ | refine AgreeOff.look rfl ?_ | refine AgreeOff.mixs rfl ?_)) ⟨rfl, trivial⟩, H, hbt, hb4, hI, hm, hE, hO, hb34, hLO2, by rw [List.map_append, List.map_append, hLm]; simp only [List.map_cons, List.map_nil, hmq]; rfl⟩
          · refine ⟨_, rfl, ?_⟩
            refine RL.m (ld_box rfl hb4 rfl) rfl ?_
            refine RL.nil ?_
            refine AL.p 9 (by kernel_rfl) rfl (sub rfl rfl (by omega)) rfl ?_
            refine AL.p 10 (by kernel_rfl) rfl (ix_o rfl rfl hje hj (hE.sl.someA (by decide) hj)) rfl ?_
            -- call slices.Clone[[]stagecoach/api.Did,stagecoach/api.Did] (tmp 30)
            have hs6 := H.size
            have hlt := fun (y : Maker) (hy : y ∈ L) (j : Nat) (hj : inBlock y.la j) => ((hLO.own y hy).blk hj).2
            refine AL.x 15 (by kernel_rfl) rfl rfl (fun w' hw' => pCloneD _ r.la r.lc r.last ((hO.own r hrH).sl.ext (by first | exact hw' | exact Ext.refl _)) (by omega)) ?_
            refine AX.m 2 (by kernel_rfl) rfl rfl (ld_box rfl hb4 rfl) rfl ?_
            refine AX.m 11 (by kernel_rfl) rfl rfl (ld_o0 rfl hE.sl (Ext.refl _) rfl hj rfl (by decide)) rfl ?_
            refine AX.o (by kernel_rfl) rfl ?_
            rintro v w88 ⟨⟨a5, c5, rfl, hC⟩, hx⟩
            replace H := H.ext hx; replace hbt := hbt.ext hx; replace hb4 := hb4.ext hx; replace hI := hI.ext hx; replace hm := hm.ext hx; replace hE := hE.ext hx; replace hO := hO.ext hx; replace hL := hL.ext hx; replace hLO := hLO.ext hx
            refine AL.p 16 (by kernel_rfl) rfl (bld rfl rfl) rfl ?_
            refine AL.o 17 (by kernel_rfl) rfl ?_
            refine RL.buildSlice w0.heap.size H.size rfl rfl rfl rfl rfl ?_
            intro w89 i33 hi33 hx hb33
            replace H := H.ext hx; replace hbt := hbt.ext hx; replace hb4 := hb4.ext hx; replace hI := hI.ext hx; replace hm := hm.ext hx; replace hE := hE.ext hx; replace hO := hO.ext hx; replace hL := hL.ext hx; replace hLO := hLO.ext hx; replace hC := hC.ext hx; clear hx
            refine RL.nil ?_
            refine AL.o 18 (by kernel_rfl) rfl ?_
            refine RL.appendS rfl hL H.size rfl (show Sl _ _ [(⟨q.1.id, D.E[ji], q.1.part, a5, c5, r.last⟩ : Maker)] from Box.sl1 hb33) rfl rfl (by decide) rfl cell1 (by omega) (by simp only [maxLen]; omega) rfl ?_
            intro w90 a34 c34 hu hb34 hfr34
            replace hbt := hbt.upd hu (fun h => hL.box_apart hbt (by decide) h)
            replace hb4 := hb4.upd hu (fun h => hL.box_apart hb4 (by decide) h)
            replace hI := hI.upd hu (hI.nea hL)
            replace hm := hm.upd hu (hm.nea hL)
            replace hE := hE.upd hu (fun j hj e => hE.apart hL (by decide) hj e)
            replace hO := hO.ow hL (by decide) hu
            replace hLO := hLO.ow hL (by decide) hu
            replace hC := hC.upd hu (fun j hj e => hC.apart hL (by decide) hj e)
            replace H := Ext.own H hL hu
            have hLO2 := hLO.snoc (s := (⟨q.1.id, D.E[ji], q.1.part, a5, c5, r.last⟩ : Maker)) (hC.mono hs6) (fun y hy j hj hj2 => by have h1 := hlt y hy j hj; have h2 := (hC.blk hj2).1; omega)
            refine RL.nil ?_
            refine AL.p 19 (by kernel_rfl) rfl (asgL rfl) rfl ?_
            refine AL.nil (by kernel_rfl) ?_
            refine ⟨(a34, c34, L ++ [(⟨q.1.id, D.E[ji], q.1.part, a5, c5, r.last⟩ : Maker)]), Head.intro (by repeat (first | with_reducible exact AgreeOff.refl _ _ | with_reducible exact AgreeOff.mix _ _ _ | refine AgreeOff.look rfl ?_ | refine AgreeOff.mixs rfl ?_)) ⟨rfl, trivial⟩, H, hbt, hb4, hI, hm, hE, hO, hb34, hLO2, by rw [List.map_append, List.map_append, hLm]; simp only [List.map_cons, List.map_nil, hmq]; rfl⟩
          · refine ⟨_, rfl, ?_⟩
            -- call slices.Clone[[]stagecoach/api.Did,stagecoach/api.Did] (tmp 30)
            have hs6 := H.size
            have hlt := fun (y : Maker) (hy : y ∈ L) (j : Nat) (hj : inBlock y.la j) => ((hLO.own y hy).blk hj).2
            refine RL.call (pCloneD _ r.la r.lc r.last ((hO.own r hrH).sl.ext (by first | exact hw' | exact Ext.refl _)) (by omega)) rfl rfl ?_
            rintro v w91 ⟨⟨a5, c5, rfl, hC⟩, hx⟩
            replace H := H.ext hx; replace hbt := hbt.ext hx; replace hb4 := hb4.ext hx; replace hI := hI.ext hx; replace hm := hm.ext hx; replace hE := hE.ext hx; replace hO := hO.ext hx; replace hL := hL.ext hx; replace hLO := hLO.ext hx
            refine RL.nil ?_
            refine AL.m 8 (by kernel_rfl) rfl (ld_box rfl hb4 rfl) rfl ?_
            refine AL.p 9 (by kernel_rfl) rfl (sub rfl rfl (by omega)) rfl ?_
            refine AL.p 10 (by kernel_rfl) rfl (ix_o rfl rfl hje hj (hE.sl.someA (by decide) hj)) rfl ?_
            refine AL.m 2 (by kernel_rfl) rfl (ld_box rfl hb4 rfl) rfl ?_
            refine AL.m 11 (by kernel_rfl) rfl (ld_o0 rfl hE.sl (Ext.refl _) rfl hj rfl (by decide)) rfl ?_
            refine AL.p 16 (by kernel_rfl) rfl (bld rfl rfl) rfl ?_
            refine AL.o 17 (by kernel_rfl) rfl ?_
            refine RL.buildSlice w0.heap.size H.size rfl rfl rfl rfl rfl ?_
            intro w92 i33 hi33 hx hb33
            replace H := H.ext hx; replace hbt := hbt.ext hx; replace hb4 := hb4.ext hx; replace hI := hI.ext hx; replace hm := hm.ext hx; replace hE := hE.ext hx; replace hO := hO.ext hx; replace hL := hL.ext hx; replace hLO := hLO.ext hx; replace hC := hC.ext hx; clear hx
            refine RL.nil ?_
            refine AL.o 18 (by kernel_rfl) rfl ?_
            refine RL.appendS rfl hL H.size rfl (show Sl _ _ [(⟨q.1.id, D.E[ji], q.1.part, a5, c5, r.last⟩ : Maker)] from Box.sl1 hb33) rfl rfl (by decide) rfl cell1 (by omega) (by simp only [maxLen]; omega) rfl ?_
            intro w93 a34 c34 hu hb34 hfr34
            replace hbt := hbt.upd hu (fun h => hL.box_apart hbt (by decide) h)
            replace hb4 := hb4.upd hu (fun h => hL.box_apart hb4 (by decide) h)
            replace hI := hI.upd hu (hI.nea hL)
            replace hm := hm.upd hu (hm.nea hL)
            replace hE := hE.upd hu (fun j hj e => hE.apart hL (by decide) hj e)
            replace hO := hO.ow hL (by decide) hu
            replace hLO := hLO.ow hL (by decide) hu
            replace hC := hC.upd hu (fun j hj e => hC.apart hL (by decide) hj e)
            replace H := Ext.own H hL hu
            have hLO2 := hLO.snoc (s := (⟨q.1.id, D.E[ji], q.1.part, a5, c5, r.last⟩ : Maker)) (hC.mono hs6) (fun y hy j hj hj2 => by have h1 := hlt y hy j hj; have h2 := (hC.blk hj2).1; omega)
            refine RL.nil ?_
            refine AL.p 19 (by kernel_rfl) rfl (asgL rfl) rfl ?_
            refine AL.nil (by kernel_rfl) ?_
            refine ⟨(a34, c34, L ++ [(⟨q.1.id, D.E[ji], q.1.part, a5, c5, r.last⟩ : Maker)]), Head.intro (by repeat (first | with_reducible exact AgreeOff.refl _ _ | with_reducible exact AgreeOff.mix _ _ _ | refine AgreeOff.look rfl ?_ | refine AgreeOff.mixs rfl ?_)) ⟨rfl, trivial⟩, H, hbt, hb4, hI, hm, hE, hO, hb34, hLO2, by rw [List.map_append, List.map_append, hLm]; simp only [List.map_cons, List.map_nil, hmq]; rfl⟩
        · refine ⟨_, rfl, ?_⟩
          refine RL.m (ld_box rfl hb4 rfl) rfl ?_
          refine RL.nil ?_
          refine AL.p 9 (by kernel_rfl) rfl (sub rfl rfl (by omega)) rfl ?_
          -- call slices.Clone[[]stagecoach/api.Did,stagecoach/api.Did] (tmp 30)
          have hs6 := H.size
          have hlt := fun (y : Maker) (hy : y ∈ L) (j : Nat) (hj : inBlock y.la j) => ((hLO.own y hy).blk hj).2
          refine AL.x 15 (by kernel_rfl) rfl rfl (fun w' hw' => pCloneD _ r.la r.lc r.last ((hO.own r hrH).sl.ext (by first | exact hw' | exact Ext.refl _)) (by omega)) ?_
          refine AX.m 2 (by kernel_rfl) rfl rfl (ld_box rfl hb4 rfl) rfl ?_
          refine AX.m 6 (by kernel_rfl) rfl rfl (ld_box rfl hbt rfl) rfl ?_
          refine AX.m 10 (by kernel_rfl) rfl rfl (Pure.does (ix_o rfl rfl hje hj (hE.sl.someA (by decide) hj)) _) rfl ?_
          refine AX.m 11 (by kernel_rfl) rfl rfl (ld_o0 rfl hE.sl (Ext.refl _) rfl hj rfl (by decide)) rfl ?_
          refine AX.o (by kernel_rfl) rfl ?_
          rintro v w94 ⟨⟨a5, c5, rfl, hC⟩, hx⟩
          replace H := H.ext hx; replace hbt := hbt.ext hx; replace hb4 := hb4.ext hx; replace hI := hI.ext hx; replace hm := hm.ext hx; replace hE := hE.ext hx; replace hO := hO.ext hx; replace hL := hL.ext hx; replace hLO := hLO.ext hx
          refine AL.p 16 (by kernel_rfl) rfl (bld rfl rfl) rfl ?_
          refine AL.o 17 (by kernel_rfl) rfl ?_
          refine RL.buildSlice w0.heap.size H.size rfl rfl rfl rfl rfl ?_
          intro w95 i33 hi33 hx hb33
          replace H := H.ext hx; replace hbt := hbt.ext hx; replace hb4 := hb4.ext hx; replace hI := hI.ext hx; replace hm := hm.ext hx; replace hE := hE.ext hx; replace hO := hO.ext hx; replace hL := hL.ext hx; replace hLO := hLO.ext hx; replace hC := hC.ext hx; clear hx
          refine RL.nil ?_
          refine AL.o 18 (by kernel_rfl) rfl ?_
          refine RL.appendS rfl hL H.size rfl (show Sl _ _ [(⟨q.1.id, D.E[ji], q.1.part, a5, c5, r.last⟩ : Maker)] from Box.sl1 hb33) rfl rfl (by decide) rfl cell1 (by omega) (by simp only [maxLen]; omega) rfl ?_
          intro w96 a34 c34 hu hb34 hfr34
          replace hbt := hbt.upd hu (fun h => hL.box_apart hbt (by decide) h)
          replace hb4 := hb4.upd hu (fun h => hL.box_apart hb4 (by decide) h)
          replace hI := hI.upd hu (hI.nea hL)
          replace hm := hm.upd hu (hm.nea hL)
          replace hE := hE.upd hu (fun j hj e => hE.apart hL (by decide) hj e)
          replace hO := hO.ow hL (by decide) hu
          replace hLO := hLO.ow hL (by decide) hu
          replace hC := hC.upd hu (fun j hj e => hC.apart hL (by decide) hj e)
          replace H := Ext.own H hL hu
          have hLO2 := hLO.snoc (s := (⟨q.1.id, D.E[ji], q.1.part, a5, c5, r.last⟩ : Maker)) (hC.mono hs6) (fun y hy j hj hj2 => by have h1 := hlt y hy j hj; have h2 := (hC.blk hj2).1; omega)
          refine RL.nil ?_
          refine AL.p 19 (by kernel_rfl) rfl (asgL rfl) rfl ?_
          refine AL.nil (by kernel_rfl) ?_
          refine ⟨(a34, c34, L ++ [(⟨q.1.id, D.E[ji], q.1.part, a5, c5, r.last⟩ : Maker)]), Head.intro (by repeat (first | with_reducible exact AgreeOff.refl _ _ | with_reducible exact AgreeOff.mix _ _ _ | refine AgreeOff.look rfl ?_ | refine AgreeOff.mixs rfl ?_)) ⟨rfl, trivial⟩, H, hbt, hb4, hI, hm, hE, hO, hb34, hLO2, by rw [List.map_append, List.map_append, hLm]; simp only [List.map_cons, List.map_nil, hmq]; rfl⟩
        · refine ⟨_, rfl, ?_⟩
          -- call slices.Clone[[]stagecoach/api.Did,stagecoach/api.Did] (tmp 30)
          have hs6 := H.size
          have hlt := fun (y : Maker) (hy : y ∈ L) (j : Nat) (hj : inBlock y.la j) => ((hLO.own y hy).blk hj).2
          refine RL.call (pCloneD _ r.la r.lc r.last ((hO.own r hrH).sl.ext (by first | exact hw' | exact Ext.refl _)) (by omega)) rfl rfl ?_
          rintro v w97 ⟨⟨a5, c5, rfl, hC⟩, hx⟩
          replace H := H.ext hx; replace hbt := hbt.ext hx; replace hb4 := hb4.ext hx; replace hI := hI.ext hx; replace hm := hm.ext hx; replace hE := hE.ext hx; replace hO := hO.ext hx; replace hL := hL.ext hx; replace hLO := hLO.ext hx
          refine RL.nil ?_
          refine AL.m 8 (by kernel_rfl) rfl (ld_box rfl hb4 rfl) rfl ?_
          refine AL.p 9 (by kernel_rfl) rfl (sub rfl rfl (by omega)) rfl ?_
          refine AL.m 2 (by kernel_rfl) rfl (ld_box rfl hb4 rfl) rfl ?_
          refine AL.m 6 (by kernel_rfl) rfl (ld_box rfl hbt rfl) rfl ?_
          refine AL.p 10 (by kernel_rfl) rfl (ix_o rfl rfl hje hj (hE.sl.someA (by decide) hj)) rfl ?_
          refine AL.m 11 (by kernel_rfl) rfl (ld_o0 rfl hE.sl (Ext.refl _) rfl hj rfl (by decide)) rfl ?_
          refine AL.p 16 (by kernel_rfl) rfl (bld rfl rfl) rfl ?_
          refine AL.o 17 (by kernel_rfl) rfl ?_
          refine RL.buildSlice w0.heap.size H.size rfl rfl rfl rfl rfl ?_
          intro w98 i33 hi33 hx hb33
          replace H := H.ext hx; replace hbt := hbt.ext hx; replace hb4 := hb4.ext hx; replace hI := hI.ext hx; replace hm := hm.ext hx; replace hE := hE.ext hx; replace hO := hO.ext hx; replace hL := hL.ext hx; replace hLO := hLO.ext hx; replace hC := hC.ext hx; clear hx
          refine RL.nil ?_
          refine AL.o 18 (by kernel_rfl) rfl ?_
          refine RL.appendS rfl hL H.size rfl (show Sl _ _ [(⟨q.1.id, D.E[ji], q.1.part, a5, c5, r.last⟩ : Maker)] from Box.sl1 hb33) rfl rfl (by decide) rfl cell1 (by omega) (by simp only [maxLen]; omega) rfl ?_
          intro w99 a34 c34 hu hb34 hfr34
          replace hbt := hbt.upd hu (fun h => hL.box_apart hbt (by decide) h)
          replace hb4 := hb4.upd hu (fun h => hL.box_apart hb4 (by decide) h)
          replace hI := hI.upd hu (hI.nea hL)
          replace hm := hm.upd hu (hm.nea hL)
          replace hE := hE.upd hu (fun j hj e => hE.apart hL (by decide) hj e)
          replace hO := hO.ow hL (by decide) hu
          replace hLO := hLO.ow hL (by decide) hu
          replace hC := hC.upd hu (fun j hj e => hC.apart hL (by decide) hj e)
          replace H := Ext.own H hL hu
          have hLO2 := hLO.snoc (s := (⟨q.1.id, D.E[ji], q.1.part, a5, c5, r.last⟩ : Maker)) (hC.mono hs6) (fun y hy j hj hj2 => by have h1 := hlt y hy j hj; have h2 := (hC.blk hj2).1; omega)
          refine RL.nil ?_
          refine AL.p 19 (by kernel_rfl) rfl (asgL rfl) rfl ?_
          refine AL.nil (by kernel_rfl) ?_
          refine ⟨(a34, c34, L ++ [(⟨q.1.id, D.E[ji], q.1.part, a5, c5, r.last⟩ : Maker)]), Head.intro (by repeat (first | with_reducible exact AgreeOff.refl _ _ | with_reducible exact AgreeOff.mix _ _ _ | refine AgreeOff.look rfl ?_ | refine AgreeOff.mixs rfl ?_)) ⟨rfl, trivial⟩, H, hbt, hb4, hI, hm, hE, hO, hb34, hLO2, by rw [List.map_append, List.map_append, hLm]; simp only [List.map_cons, List.map_nil, hmq]; rfl⟩
      · refine ⟨_, rfl, ?_⟩
        -- call slices.Clone[[]stagecoach/api.Did,stagecoach/api.Did] (tmp 30)
        have hs6 := H.size
        have hlt := fun (y : Maker) (hy : y ∈ L) (j : Nat) (hj : inBlock y.la j) => ((hLO.own y hy).blk hj).2
        refine RL.call (pCloneD _ r.la r.lc r.last ((hO.own r hrH).sl.ext (by first | exact hw' | exact Ext.refl _)) (by omega)) rfl rfl ?_
        rintro v w100 ⟨⟨a5, c5, rfl, hC⟩, hx⟩
        replace H := H.ext hx; replace hbt := hbt.ext hx; replace hb4 := hb4.ext hx; replace hI := hI.ext hx; replace hm := hm.ext hx; replace hE := hE.ext hx; replace hO := hO.ext hx; replace hL := hL.ext hx; replace hLO := hLO.ext hx
        refine RL.nil ?_
        refine AL.m 8 (by kernel_rfl) rfl (ld_box rfl hb4 rfl) rfl ?_
        refine AL.p 9 (by kernel_rfl) rfl (sub rfl rfl (by omega)) rfl ?_
        refine AL.m 2 (by kernel_rfl) rfl (ld_box rfl hb4 rfl) rfl ?_
        refine AL.m 6 (by kernel_rfl) rfl (ld_box rfl hbt rfl) rfl ?_
        refine AL.p 10 (by kernel_rfl) rfl (ix_o rfl rfl hje hj (hE.sl.someA (by decide) hj)) rfl ?_
        refine AL.m 11 (by kernel_rfl) rfl (ld_o0 rfl hE.sl (Ext.refl _) rfl hj rfl (by decide)) rfl ?_
        refine AL.m 13 (by kernel_rfl) rfl (ldS_box rfl hb4 (Nat.le_of_ble_eq_true rfl) rfl) rfl ?_
        refine AL.p 16 (by kernel_rfl) rfl (bld rfl rfl) rfl ?_
        refine AL.o 17 (by kernel_rfl) rfl ?_
        refine RL.buildSlice w0.heap.size H.size rfl rfl rfl rfl rfl ?_
        intro w101 i33 hi33 hx hb33
        replace H := H.ext hx; replace hbt := hbt.ext hx; replace hb4 := hb4.ext hx; replace hI := hI.ext hx; replace hm := hm.ext hx; replace hE := hE.ext hx; replace hO := hO.ext hx; replace hL := hL.ext hx; replace hLO := hLO.ext hx; replace hC := hC.ext hx; clear hx
        refine RL.nil ?_
        refine AL.o 18 (by kernel_rfl) rfl ?_
        refine RL.appendS rfl hL H.size rfl (show Sl _ _ [(⟨q.1.id, D.E[ji], q.1.part, a5, c5, r.last⟩ : Maker)] from Box.sl1 hb33) rfl rfl (by decide) rfl cell1 (by omega) (by simp only [maxLen]; omega) rfl ?_
        intro w102 a34 c34 hu hb34 hfr34
        replace hbt := hbt.upd hu (fun h => hL.box_apart hbt (by decide) h)
        replace hb4 := hb4.upd hu (fun h => hL.box_apart hb4 (by decide) h)
        replace hI := hI.upd hu (hI.nea hL)
        replace hm := hm.upd hu (hm.nea hL)
        replace hE := hE.upd hu (fun j hj e => hE.apart hL (by decide) hj e)
        replace hO := hO.ow hL (by decide) hu
        replace hLO := hLO.ow hL (by decide) hu
        replace hC := hC.upd hu (fun j hj e => hC.apart hL (by decide) hj e)
        replace H := Ext.own H hL hu
        have hLO2 := hLO.snoc (s := (⟨q.1.id, D.E[ji], q.1.part, a5, c5, r.last⟩ : Maker)) (hC.mono hs6) (fun y hy j hj hj2 => by have h1 := hlt y hy j hj; have h2 := (hC.blk hj2).1; omega)
        refine RL.nil ?_
        refine AL.p 19 (by kernel_rfl) rfl (asgL rfl) rfl ?_
        refine AL.nil (by kernel_rfl) ?_
        refine ⟨(a34, c34, L ++ [(⟨q.1.id, D.E[ji], q.1.part, a5, c5, r.last⟩ : Maker)]), Head.intro (by repeat (first | with_reducible exact AgreeOff.refl _ _ | with_reducible exact AgreeOff.mix _ _ _ | refine AgreeOff.look rfl ?_ | refine AgreeOff.mixs rfl ?_)) ⟨rfl, trivial⟩, H, hbt, hb4, hI, hm, hE, hO, hb34, hLO2, by rw [List.map_append, List.map_append, hLm]; simp only [List.map_cons, List.map_nil, hmq]; rfl⟩
    rintro ⟨a9, c9, L9⟩ jc w103 ⟨H, hbt, hb4, hI, hm, hE, hO, hL, hLO, hLm⟩
    refine ⟨k - 1, by omega, j + 1, done ++ [q], seen.push q.2.2, _, _, _, by omega, Head.intro (by repeat (first | with_reducible exact AgreeOff.mix _ _ _ | refine AgreeOff.look rfl ?_ | refine AgreeOff.mixs rfl ?_)) ⟨rfl, trivial⟩, H, hbt, hI, hS2, by simp [hdl], hm, hE, hO, hL, hLO, hLm⟩
  · refine WP.exit ?_
    refine WP.regionS ?_
    refine RL.r (mvL rfl) rfl ?_
    -- call slices.SortFunc[[]stagecoach/api.Maker,stagecoach/api.Maker] (tmp 35) (func 31)
    obtain rfl : o = none := Classical.not_not.1 hc
    obtain ⟨hall, hI⟩ := ho
    have hperm := hS.perm hstm hall
    refine RL.call (pSort _ _ a3 c3 L hL (by omega)) rfl rfl ?_
    rintro _ w104 ⟨⟨L2, hp2, hs2, hL2⟩, hx⟩
    replace H := Ext.own H hL hx; replace hLO := hLO.ow hL (by decide) hx
    refine RL.nil ?_
    refine WP.regionS ?_
    refine RL.r (mvL rfl) rfl ?_
    refine RL.r (asgL rfl) rfl ?_
    refine RL.nil ?_
    refine WP.ret ?_
    have hfin := makers_eq (E := D.E) hr hmnod hHS hok.srt hperm hLm hp2 hs2
    refine fin1_ret rfl ⟨⟨a3, c3, L2, slE hp2.length_eq.symm, hL2, hLO.perm hp2, hfin⟩, H⟩
end Go.Proofs.Ytbggmjnhfacjpaa
