/-
  The document's table of producers: the walk of Open.
-/
import Derived.Test.YtbggmjnhfacjpaaRef08b
set_option linter.unusedVariables false
namespace Go.Proofs.Ytbggmjnhfacjpaa
open Go Go.Eng Go.RowKit
def DRs (B : Nat) (w : World) (L : List Maker) : Prop := ∀ x ∈ L, DR B w x
theorem DRs.ext {B : Nat} {w w' : World} {L : List Maker} (h : DRs B w L) (k : Ext w w') : DRs B w' L := fun x hx => (h x hx).ext k
theorem DRs.upd {X : Nat → Prop} {B : Nat} {w w' : World} {L : List Maker} (h : DRs B w L) (k : Upd X w w') (hx : ∀ x ∈ L, ∀ j, inBlock x.la j → ¬ X j) : DRs B w' L := fun x hm => (h x hm).upd k (hx x hm)
theorem DRs.bx {B B' b : Nat} {w w' : World} {L : List Maker} {T : TypeId} {cs : List Value} (h : DRs B w L) (hb : Box B' w b T cs) (hT : 53 ≠ T) (k : Upd (· = b) w w') : DRs B w' L := h.upd k fun x hx j hj e => (h x hx).nbox hb hT (e ▸ hj)
theorem DRs.ow {α : Type} [Lies α] {B B' c : Nat} {w w' : World} {L : List Maker} {T : TypeId} {a : Option Addr} {l : List α} (h : DRs B w L) (ho : Own B' w T a c l) (hT : 53 ≠ T) (k : Upd (inBlock a) w w') : DRs B w' L := h.upd k fun x hx j hj => (h x hx).nown ho hT j hj
theorem mkP_append {E : List Int} {S : List Pl} (h : ∀ x ∈ S, isD E x.id) (v : Int) : S.map (mkP (E ++ [v])) = S.map (mkP E) := by
  apply List.map_congr_left
  intro x hx
  unfold mkP
  rw [ep_append (h x hx)]
theorem mkP_set {E : List Int} {S : List Pl} {id : Int} (h : ∀ x ∈ S, isD E x.id) (hid : isD E id) (v : Int) : (S.filter fun x => decide (x.id ≠ id)).map (mkP (E.set (id - 1).toNat v)) = (S.filter fun x => decide (x.id ≠ id)).map (mkP E) := by
  apply List.map_congr_left
  intro x hx
  obtain ⟨h1, h2⟩ := List.mem_filter.1 hx
  unfold mkP
  rw [ep_set_ne hid (h x h1) (fun e => (of_decide_eq_true h2) e.symm)]
theorem mk_filter {E : List Int} {S : List Pl} {L : List Maker} (h : L.map Maker.mk' = S.map (mkP E)) (id : Int) : (L.filter fun x => decide (x.id ≠ id)).map Maker.mk' = (S.filter fun x => decide (x.id ≠ id)).map (mkP E) := by
  have h1 := congrArg (List.filter fun x : Mk => decide (x.id ≠ id)) h
  rw [List.filter_map, List.filter_map] at h1
  exact h1
def fL (L : List Maker) (id : Int) (j : Nat) : List Maker := (L.take j).filter fun x => decide (x.id ≠ id)
theorem fL_yes {L : List Maker} {id : Int} {j : Nat} (hj : j < L.length) (h : L[j].id ≠ id) : fL L id (j + 1) = fL L id j ++ [L[j]] := by
  unfold fL
  rw [List.take_succ_eq_append_getElem hj, List.filter_append]
  simp [h]
theorem fL_no {L : List Maker} {id : Int} {j : Nat} (hj : j < L.length) (h : ¬ L[j].id ≠ id) : fL L id (j + 1) = fL L id j := by
  unfold fL
  rw [List.take_succ_eq_append_getElem hj, List.filter_append]
  simp [Classical.not_not.1 h]
theorem fL_le (L : List Maker) (id : Int) (j : Nat) : (fL L id j).length ≤ j := by
  unfold fL
  refine Nat.le_trans (List.length_filter_le _ _) ?_
  rw [List.length_take]
  omega
theorem fL_all {L : List Maker} {id : Int} {j : Nat} (h : L.length ≤ j) : fL L id j = L.filter fun x => decide (x.id ≠ id) := by
  unfold fL
  rw [List.take_of_length_le h]
set_option maxRecDepth 20000 in
set_option maxHeartbeats 1600000 in
theorem rOpen (w0 : World) (B i : Nat) (Y : Nat → Prop) (D : Ds) (hR : Tr B w0 i Y D) (K : Int) (M : Nat) (hok : okD K M D) (hM : M ≤ 100000) (id : Int) :
    Ct Try.prog 16 #[.pointer (some ⟨i, 0, none⟩), .int .i64 id] w0 fun v w' => (v = .tuple #[.int .i64 (openA D id).1, .int .i64 (openA D id).2.1, .int .i64 (openA D id).2.2] ∧ ∃ Y', Tr B w' i Y' (openD D id) ∧ Grew Y Y' w0.heap.size) ∧ Upd Y w0 w' := by
  refine Ct.intro3 Try.func16 Try.ntmps16 rfl rfl (by decide) rfl ?_
  have H : Upd (Y) w0 w0 := Upd.refl _ w0
  obtain ⟨a, c, b2, d, L, hQ, hLm, hY⟩ := hR.at_
  have hbt := hQ.box
  have hE := hQ.eps
  have hO := hQ.row
  have hDr : DRs B w0 L := hQ.dr
  have hl32 := hok.len
  have hlen : L.length = D.S.length := by have h9 := congrArg List.length hLm; simpa using h9
  have hcnt := hok.cnt
  have hOlt : ∀ k, inBlock b2 k → k < w0.heap.size := fun k hk => (hO.blk hk).2
  have hBs : B ≤ w0.heap.size := by have := hbt.old; have := hbt.lt; omega
  refine WP.regionS ?_
  refine RL.r (asgI rfl) rfl ?_
  refine RL.r (asgI rfl) rfl ?_
  refine RL.r (asgI rfl) rfl ?_
  refine RL.nil ?_
  refine WP.seq ?_
  refine WP.regionS ?_
  refine RL.r (mvI rfl) rfl ?_
  refine RL.r (eql rfl rfl) rfl ?_
  refine RL.nil ?_
  refine WP.cond rfl (fun hc => ?_) (fun hc => ?_)
  · refine WP.seq ?_
    refine WP.regionS ?_
    refine RL.r (mvP rfl) rfl ?_
    refine RL.r (nilck rfl) rfl ?_
    refine RL.r (fa_box rfl) rfl ?_
    refine RL.m (ld_box rfl hbt rfl) rfl ?_
    refine RL.r (len_sl rfl) rfl ?_
    refine RL.r (geq rfl rfl) rfl ?_
    refine RL.nil ?_
    refine WP.cond rfl (fun hc => ?_) (fun hc => ?_)
    · refine WP.regionS ?_
      refine RL.r (asgI rfl) rfl ?_
      refine RL.r (asgI rfl) rfl ?_
      refine RL.r (asgI rfl) rfl ?_
      refine RL.nil ?_
      refine WP.ret ?_
      have hc : id = 0 ∧ 32 ≤ D.E.length := ⟨by assumption, by omega⟩
      refine fin3_ret rfl rfl rfl ⟨⟨openV (by unfold openA; rw [if_pos hc]), Y, by unfold openD; rw [if_pos hc]; exact hR, Grew.refl _ _⟩, H⟩
    · refine WP.skip ?_
      refine WP.regionS ?_
      refine RL.r (mvP rfl) rfl ?_
      refine RL.r (mvP rfl) rfl ?_
      refine RL.r (nilck rfl) rfl ?_
      refine RL.r (fa_box rfl) rfl ?_
      refine RL.m (ld_box rfl hbt rfl) rfl ?_
      refine RL.buildSlice w0.heap.size H.size rfl rfl rfl rfl rfl ?_
      intro w1 i22 hi22 hx hb22
      replace H := H.ext hx; replace hbt := hbt.ext hx; replace hR := hR.ext hx; replace hE := hE.ext hx; replace hO := hO.ext hx; replace hDr := hDr.ext hx; clear hx
      refine RL.appendS rfl hE (Nat.le_trans hBs (Upd.size H)) rfl (show Sl _ _ [(0 : Int)] from Box.sl1 hb22) rfl rfl (by decide) rfl cell1 (by omega) (by simp only [maxLen]; omega) rfl ?_
      intro w2 a23 c23 hu hb23 hfr23
      have hs2 := Upd.size H
      replace hbt := hbt.upd hu (fun h => hE.box_apart hbt (by decide) h)
      replace hO := hO.upd hu (fun j hj e => hO.apart hE (by decide) hj e)
      replace hDr := hDr.ow hE (by decide) hu
      replace H := Upd.upd H hu (fun j _ hj => by rw [hY]; exact .inr (.inl hj))
      refine RL.r (nilck rfl) rfl ?_
      refine RL.r (fa_box rfl) rfl ?_
      have hbt_0 := hbt
      refine RL.store1 rfl hbt rfl rfl rfl rfl ?_
      intro w3 hu hbt
      replace hO := hO.upd hu (fun j hj e => hO.box_apart hbt_0 (by decide) (e ▸ hj))
      replace hDr := hDr.bx hbt_0 (by decide) hu
      replace hb23 := hb23.upd hu (fun j hj e => hb23.box_apart hbt_0 (by decide) (e ▸ hj))
      replace H := Upd.upd H hu (fun j _ hj => by rw [hY]; exact .inl hj)
      refine RL.nil ?_
      refine WP.regionS ?_
      refine RL.r (mvP rfl) rfl ?_
      refine RL.r (nilck rfl) rfl ?_
      refine RL.r (fa_box rfl) rfl ?_
      refine RL.m (ld_box rfl hbt rfl) rfl ?_
      refine RL.r (len_sl rfl) rfl ?_
      refine RL.r (asgI rfl) rfl ?_
      refine RL.r (asgI rfl) rfl ?_
      refine RL.r (asgI rfl) rfl ?_
      refine RL.nil ?_
      refine WP.ret ?_
      have hid0 : id = 0 := by assumption
      have hn : ¬ (id = 0 ∧ 32 ≤ D.E.length) := fun h => by omega
      refine fin3_ret rfl rfl rfl ⟨⟨openV (by unfold openA; rw [if_neg hn, if_pos hid0, List.length_append]; rfl), terrR i a23 b2 L, by unfold openD; rw [if_neg hn, if_pos hid0]; exact ⟨a23, c23, b2, d, L, ⟨hbt, hb23, hO, hDr⟩, by rw [mkP_append hok.id]; exact hLm, rfl⟩, ?_⟩, H⟩
      rw [hY]
      rintro k (h | h | h | h)
      · exact .inl (.inl h)
      · rcases hfr23 k h with h1 | h1
        · exact .inl (.inr (.inl h1))
        · exact .inr (by omega)
      · exact .inl (.inr (.inr (.inl h)))
      · exact .inl (.inr (.inr (.inr h)))
  · refine WP.skip ?_
    refine WP.seq ?_
    refine WP.regionS ?_
    refine RL.r (mvP rfl) rfl ?_
    refine RL.r (mvI rfl) rfl ?_
    -- call (*stagecoach/stagecoachref08.Table).is (tmp 31) (tmp 32)
    have hn : ¬ (id = 0 ∧ 32 ≤ D.E.length) := fun h => (show ¬ id = 0 by assumption) h.1
    refine RL.call (rIs _ B i a b2 c d D.E L hbt id) rfl rfl ?_
    rintro _ w4 ⟨rfl, hx⟩
    replace H := H.ext hx; replace hbt := hbt.ext hx; replace hR := hR.ext hx; replace hE := hE.ext hx; replace hO := hO.ext hx; replace hDr := hDr.ext hx
    first | refine RL.r (notD rfl) rfl ?_ | refine RL.r (not_ rfl) rfl ?_
    refine RL.nil ?_
    refine WP.cond rfl (fun hc => ?_) (fun hc => ?_)
    · refine WP.regionS ?_
      refine RL.r (asgI rfl) rfl ?_
      refine RL.r (asgI rfl) rfl ?_
      refine RL.r (asgI rfl) rfl ?_
      refine RL.nil ?_
      refine WP.ret ?_
      refine fin3_ret rfl rfl rfl ⟨⟨openV (by unfold openA; rw [if_neg (by assumption), if_neg (by assumption), if_pos hc]), Y, by unfold openD; rw [if_neg (by assumption), if_neg (by assumption), if_pos hc]; exact hR, Grew.refl _ _⟩, H⟩
    · refine WP.skip ?_
      refine WP.seq ?_
      refine WP.regionS ?_
      refine RL.r (mvP rfl) rfl ?_
      refine RL.r (nilck rfl) rfl ?_
      refine RL.r (fa_box rfl) rfl ?_
      refine RL.m (ld_box rfl hbt rfl) rfl ?_
      refine RL.r (mvI rfl) rfl ?_
      refine RL.r (sub rfl rfl (by first | omega | (have hid : isD D.E id := Classical.not_not.1 (by assumption); unfold isD at hid; omega))) rfl ?_
      have hid := Classical.not_not.1 (show ¬ ¬ isD D.E id from hc)
      obtain ⟨ji, hj, hje, hep⟩ := isD_at hid
      have hnum := hok.num _ (List.getElem_mem hj)
      unfold numB at hnum
      have hid2 := hid
      unfold isD at hid2
      refine RL.r (ix_o rfl rfl hje hj (hE.sl.someA (by decide) hj)) rfl ?_
      refine RL.m (ld_o0 rfl hE.sl (Ext.refl _) rfl hj rfl (by decide)) rfl ?_
      refine RL.r (eql rfl rfl) rfl ?_
      refine RL.nil ?_
      refine WP.cond rfl (fun hc => ?_) (fun hc => ?_)
      · refine WP.regionS ?_
        refine RL.r (asgI rfl) rfl ?_
        refine RL.r (asgI rfl) rfl ?_
        refine RL.r (asgI rfl) rfl ?_
        refine RL.nil ?_
        refine WP.ret ?_
        have hc2 : 1099511627776 ≤ ep D.E id := by rw [hep]; omega
        refine fin3_ret rfl rfl rfl ⟨⟨openV (by unfold openA; rw [if_neg (by assumption), if_neg (by assumption), if_neg (by assumption), if_pos hc2]), Y, by unfold openD; rw [if_neg (by assumption), if_neg (by assumption), if_neg (by assumption), if_pos hc2]; exact hR, Grew.refl _ _⟩, H⟩
      · refine WP.skip ?_
        refine WP.seq ?_
        refine WP.any ?_
        intro w5 hx; replace H := H.ext hx; replace hbt := hbt.ext hx; replace hR := hR.ext hx; replace hE := hE.ext hx; replace hO := hO.ext hx; replace hDr := hDr.ext hx
        refine AL.p 0 (by kernel_rfl) rfl (mvP rfl) rfl ?_
        refine AL.p 1 (by kernel_rfl) rfl (nilck rfl) rfl ?_
        refine AL.p 2 (by kernel_rfl) rfl (fa_box rfl) rfl ?_
        refine AL.p 4 (by kernel_rfl) rfl (mvI rfl) rfl ?_
        refine AL.p 5 (by kernel_rfl) rfl (sub rfl rfl (by first | omega | (have hid : isD D.E id := Classical.not_not.1 (by assumption); unfold isD at hid; omega))) rfl ?_
        refine AL.p 6 (by kernel_rfl) rfl (mvP rfl) rfl ?_
        refine AL.p 7 (by kernel_rfl) rfl (nilck rfl) rfl ?_
        refine AL.p 8 (by kernel_rfl) rfl (fa_box rfl) rfl ?_
        refine AL.p 10 (by kernel_rfl) rfl (mvI rfl) rfl ?_
        refine AL.p 11 (by kernel_rfl) rfl (sub rfl rfl (by first | omega | (have hid : isD D.E id := Classical.not_not.1 (by assumption); unfold isD at hid; omega))) rfl ?_
        refine AL.m 9 (by kernel_rfl) rfl (ld_box rfl hbt rfl) rfl ?_
        refine AL.p 12 (by kernel_rfl) rfl (ix_o rfl rfl hje hj (hE.sl.someA (by decide) hj)) rfl ?_
        refine AL.m 13 (by kernel_rfl) rfl (ld_o0 rfl hE.sl (Ext.refl _) rfl hj rfl (by decide)) rfl ?_
        refine AL.p 14 (by kernel_rfl) rfl (add rfl rfl (by omega)) rfl ?_
        refine AL.m 3 (by kernel_rfl) rfl (ld_box rfl hbt rfl) rfl ?_
        refine AL.p 15 (by kernel_rfl) rfl (ix_o rfl rfl hje hj (hE.sl.someA (by decide) hj)) rfl ?_
        refine AL.o 16 (by kernel_rfl) rfl ?_
        refine RL.setOwn (u := (D.E[ji] + 1 : Int)) (i := ji) (off := 0) (v := .int .i64 (D.E[ji] + 1)) (vs := [.int .i64 (D.E[ji] + 1)]) rfl hE hj rfl rfl rfl (Nat.le_of_ble_eq_true rfl) rfl (fun v hv => by obtain rfl := List.mem_singleton.1 hv; rfl) ?_
        intro w6 hu hE2
        replace hbt := hbt.upd hu (fun h => hE.box_apart hbt (by decide) h)
        replace hO := hO.upd hu (fun j hj e => hO.apart hE (by decide) hj e)
        replace hDr := hDr.ow hE (by decide) hu
        replace H := Upd.upd H hu (fun j _ hj => by rw [hY]; exact .inr (.inl hj))
        replace hE := hE2
        clear hE2
        replace hR := hE
        have hle : ¬ 1099511627776 ≤ ep D.E id := by rw [hep]; omega
        refine RL.nil ?_
        refine AL.nil (by kernel_rfl) ?_
        refine WP.regionS ?_
        refine RL.build0 (α := Maker) w0.heap.size (Upd.size H) rfl ?_
        intro w7 i60 hi60 hx hb60
        replace H := H.ext hx; replace hbt := hbt.ext hx; replace hR := hR.ext hx; replace hE := hE.ext hx; replace hO := hO.ext hx; replace hDr := hDr.ext hx; clear hx
        refine RL.r (asgL rfl) rfl ?_
        refine RL.nil ?_
        refine WP.seq ?_
        refine WP.regionS ?_
        refine RL.r (asgI rfl) rfl ?_
        refine RL.nil ?_
        refine WP.block ?_
        refine WP.loop (fun k e' w' => ∃ j : Nat, ∃ (a7 : Option Addr) (c7 : Nat),  j + k = L.length ∧ Head [7, 8, 61, 62, 63, 64, 65, 66, 67, 68, 69, 70, 71, 72, 73, 74, 75, 76, 77, 78, 79, 80, 81, 82, 83, 84, 85, 86, 87, 88, 89] _ [(7, .slice a7 (fL L id j).length c7), (8, .int .i64 (j : Int))] e' ∧ Upd (Y) w0 w' ∧ Box B w' i 65 [.slice a D.E.length c, .slice b2 L.length d] ∧ Own B w' 3 a c (D.E.set ji (D.E[ji] + 1)) ∧ Own B w' 33 b2 d L ∧ DRs B w' L ∧ Own w0.heap.size w' 33 a7 c7 (fL L id j)) (L.length)
          ⟨0, _, _, by omega, Head.intro (AgreeOff.refl _ _) ⟨rfl, rfl, trivial⟩, H, hbt, hE, hO, hDr, hb60⟩ ?_
        clear H hbt hE hO hDr hb60
        rintro k e w8 ⟨j, a7, c7, hjk, ⟨jk, rfl⟩, H, hbt, hE, hO, hDr, hRs⟩
        have hfl := fL_le L id j
        refine WP.seq ?_
        refine WP.regionS ?_
        refine RL.r (mvI rfl) rfl ?_
        refine RL.r (mvP rfl) rfl ?_
        refine RL.r (nilck rfl) rfl ?_
        refine RL.r (fa_box rfl) rfl ?_
        refine RL.m (ld_box rfl hbt rfl) rfl ?_
        refine RL.r (len_sl rfl) rfl ?_
        refine RL.r (lss rfl rfl) rfl ?_
        refine RL.nil ?_
        refine WP.cond rfl (fun hc => ?_) (fun hc => ?_)
        · refine WP.skip ?_
          refine WP.seq ?_
          refine WP.block ?_
          refine WP.regionS ?_
          refine RL.r (mvP rfl) rfl ?_
          refine RL.r (nilck rfl) rfl ?_
          refine RL.r (fa_box rfl) rfl ?_
          refine RL.m (ld_box rfl hbt rfl) rfl ?_
          refine RL.r (mvI rfl) rfl ?_
          have hj2 : j < L.length := by omega
          obtain ⟨q, hq⟩ := hO.sl.isAddr (by decide) hj2
          subst hq
          refine RL.r (ix_o rfl rfl rfl hj2 (Option.some_ne_none _)) rfl ?_
          refine RL.r (fa_el hO.sl.1 rfl) rfl ?_
          refine RL.m (ld_el rfl hO.sl (Ext.refl _) rfl hj2 rfl) rfl ?_
          refine RL.r (mvI rfl) rfl ?_
          refine RL.r (neq rfl rfl) rfl ?_
          refine RL.nil ?_
          refine WP.cond rfl (fun hc => ?_) (fun hc => ?_)
          · refine WP.region ?_
            refine RL.r (mvL rfl) rfl ?_
            refine RL.r (mvP rfl) rfl ?_
            refine RL.r (nilck rfl) rfl ?_
            refine RL.r (fa_box rfl) rfl ?_
            refine RL.m (ld_box rfl hbt rfl) rfl ?_
            refine RL.r (mvI rfl) rfl ?_
            refine RL.r (ix_o rfl rfl rfl hj2 (Option.some_ne_none _)) rfl ?_
            refine RL.m (ldS_o0 rfl hO.sl (Ext.refl _) rfl rfl hj2 (by decide)) rfl ?_
            refine RL.buildSlice w0.heap.size H.size rfl rfl rfl rfl rfl ?_
            intro w9 i88 hi88 hx hb88
            replace H := H.ext hx; replace hbt := hbt.ext hx; replace hE := hE.ext hx; replace hO := hO.ext hx; replace hDr := hDr.ext hx; replace hRs := hRs.ext hx; clear hx
            refine RL.appendS rfl hRs (Upd.size H) rfl (show Sl _ _ [L[j]] from Box.sl1 hb88) rfl rfl (by decide) rfl cell1 (by omega) (by simp only [maxLen]; omega) rfl ?_
            intro w10 a89 c89 hu hb89 hfr89
            replace hbt := hbt.upd hu (fun h => hRs.box_apart hbt (by decide) h)
            replace hE := hE.upd hu (fun j hj e => hE.apart hRs (by decide) hj e)
            replace hO := hO.upd hu (fun j hj e => by have h1 := hOlt j hj; have h2 := (hRs.blk e).1; omega)
            replace hDr := hDr.ow hRs (by decide) hu
            replace H := Upd.own H hRs hu
            refine RL.r (asgL rfl) rfl ?_
            refine RL.nil ?_
            refine WP.region ?_
            refine RL.r (mvI rfl) rfl ?_
            refine RL.r (add rfl rfl (by omega)) rfl ?_
            refine RL.r (asgI rfl) rfl ?_
            refine RL.nil ?_
            refine ⟨k - 1, by omega, j + 1, _, _, by omega, Head.intro (by repeat (first | with_reducible exact AgreeOff.mix _ _ _ | refine AgreeOff.look rfl ?_ | refine AgreeOff.mixs rfl ?_)) ⟨slE (by rw [fL_yes hj2 hc]), rfl, trivial⟩, H, hbt, hE, hO, hDr, by rw [fL_yes hj2 hc]; exact hb89⟩
          · refine WP.skip ?_
            refine WP.region ?_
            refine RL.r (mvI rfl) rfl ?_
            refine RL.r (add rfl rfl (by omega)) rfl ?_
            refine RL.r (asgI rfl) rfl ?_
            refine RL.nil ?_
            refine ⟨k - 1, by omega, j + 1, _, _, by omega, Head.intro (by repeat (first | with_reducible exact AgreeOff.mix _ _ _ | refine AgreeOff.look rfl ?_ | refine AgreeOff.mixs rfl ?_)) ⟨slE (by rw [fL_no hj2 hc]), rfl, trivial⟩, H, hbt, hE, hO, hDr, by rw [fL_no hj2 hc]; exact hRs⟩
        · refine WP.exit ?_
          refine WP.regionS ?_
          refine RL.r (mvP rfl) rfl ?_
          refine RL.r (mvL rfl) rfl ?_
          refine RL.r (nilck rfl) rfl ?_
          refine RL.r (fa_box rfl) rfl ?_
          have hbt_0 := hbt
          refine RL.store1 rfl hbt rfl rfl rfl rfl ?_
          intro w11 hu hbt
          replace hE := hE.upd hu (fun j hj e => hE.box_apart hbt_0 (by decide) (e ▸ hj))
          replace hO := hO.upd hu (fun j hj e => hO.box_apart hbt_0 (by decide) (e ▸ hj))
          replace hDr := hDr.bx hbt_0 (by decide) hu
          replace hRs := hRs.upd hu (fun j hj e => hRs.box_apart hbt_0 (by decide) (e ▸ hj))
          replace H := Upd.upd H hu (fun j _ hj => by rw [hY]; exact .inl hj)
          refine RL.nil ?_
          refine WP.seq ?_
          refine WP.draw (by kernel_rfl) ?_
          refine QL.r (mvI rfl) rfl ?_
          refine QL.r (mvP rfl) rfl ?_
          refine QL.r (nilck rfl) rfl ?_
          refine QL.r (fa_box rfl) rfl ?_
          refine QL.m (ld_box rfl hbt rfl) rfl ?_
          refine QL.r (mvI rfl) rfl ?_
          refine QL.r (sub rfl rfl (by first | omega | (have hid : isD D.E id := Classical.not_not.1 (by assumption); unfold isD at hid; omega))) rfl ?_
          refine QL.r (ix_o rfl rfl hje hj (hE.sl.someA (i := ji) (by decide) (by rw [List.length_set]; exact hj))) rfl ?_
          refine QL.m (ld_o0 rfl hE.sl (Ext.refl _) rfl (show ji < _ by rw [List.length_set]; exact hj) rfl (by decide)) rfl ?_
          refine QL.r (asgI rfl) rfl ?_
          refine QL.r (asgI rfl) rfl ?_
          refine QL.r (asgI rfl) rfl ?_
          refine QL.nil ?_; intro w12 hx; replace H := H.ext hx; replace hbt := hbt.ext hx; replace hE := hE.ext hx; replace hO := hO.ext hx; replace hDr := hDr.ext hx; replace hRs := hRs.ext hx
          refine WP.ret ?_
          have hfa := fL_all (L := L) (id := id) (j := j) (by omega)
          rw [hfa] at hRs hbt
          have hjn := isD_ix hje
          refine fin3_ret rfl rfl rfl ⟨⟨openV (by unfold openA; rw [if_neg (by assumption), if_neg (by assumption), if_neg (by assumption), if_neg hle, hep, List.getElem_set_self]), terrR i a a7 (L.filter fun x => decide (x.id ≠ id)), ?_, ?_⟩, H⟩
          · unfold openD
            rw [if_neg (by assumption), if_neg (by assumption), if_neg (by assumption), if_neg hle, hep, hjn]
            refine ⟨a, c, a7, c7, _, ⟨by rw [List.length_set]; exact hbt, hE, hRs.mono hBs, fun x hx => hDr x (List.mem_filter.1 hx).1⟩, ?_, rfl⟩
            have h1 := mkP_set hok.id hid (D.E[ji] + 1)
            rw [hjn] at h1
            rw [mk_filter hLm id]
            exact h1.symm
          · rw [hY]
            rintro k (h | h | h | ⟨x, hx, h⟩)
            · exact .inl (.inl h)
            · exact .inl (.inr (.inl h))
            · exact .inr (hRs.blk h).1
            · exact .inl (.inr (.inr (.inr ⟨x, (List.mem_filter.1 hx).1, h⟩)))
end Go.Proofs.Ytbggmjnhfacjpaa
