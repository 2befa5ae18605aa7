/-
  DedupTold: the walk.
-/
import Derived.Test.YtbggmjnhfacjpaaSame08
set_option linter.unusedVariables false
namespace Go.Proofs.Ytbggmjnhfacjpaa
open Go Go.Eng Go.RowKit
/-- topics of at most 40 bytes -/
def topS (D : Ds) : Prop := ∀ x ∈ D.S, x.part.topic.size ≤ 40
theorem topS0 : topS d0 := fun x hx => by cases hx
theorem topS_open {D : Ds} (h : topS D) (id : Int) : topS (openD D id) := by
  unfold openD
  split
  · exact h
  · split
    · exact h
    · split
      · exact h
      · split
        · exact h
        · exact fun x hx => h x (List.mem_filter.1 hx).1
theorem topS_done {D : Ds} (h : topS D) {p : Part} (hp : p.topic.size ≤ 40) (id epoch seq : Int) (n : Nat) (off : Int) : topS (doneDN D p id epoch seq n off) := by
  unfold doneDN
  split
  · intro x hx
    rcases ePut_mem.1 hx with rfl | ⟨h1, _⟩
    · exact hp
    · exact h x h1
  · exact h
/-- what is told is what is remembered -/
theorem mk_at {E : List Int} {S : List Pl} {l : List Maker} (hl : l.map Maker.mk' = S.map (mkP E)) (i : Nat) (hi : i < l.length) : ∃ hi2 : i < S.length, l[i].mk' = mkP E S[i] := by
  have hlen : l.length = S.length := by have := congrArg List.length hl; simpa using this
  have h1 : (l.map Maker.mk')[i]? = (S.map (mkP E))[i]? := by rw [hl]
  rw [List.getElem?_map, List.getElem?_map, List.getElem?_eq_getElem hi, List.getElem?_eq_getElem (show i < S.length by omega)] at h1
  exact ⟨by omega, Option.some.inj h1⟩
theorem mk_pl {E : List Int} {S : List Pl} {l : List Maker} (hl : l.map Maker.mk' = S.map (mkP E)) : l.map Maker.pl = S := by
  have h := congrArg (List.map Mk.pl) hl
  rw [List.map_map, List.map_map] at h
  rw [show (Mk.pl ∘ Maker.mk') = Maker.pl from rfl, show (Mk.pl ∘ mkP E) = id from rfl, List.map_id] at h
  exact h
theorem told_at {K : Int} {M : Nat} {D : Ds} (h : okD K M D) (ht : topS D) {l : List Maker} (hl : l.map Maker.mk' = D.S.map (mkP D.E)) (i : Nat) (hi : i < l.length) : rowK K l[i].last ∧ l[i].part.topic.size ≤ 40 ∧ (0 < i → bfr (l[i - 1]'(by omega)) l[i]) := by
  obtain ⟨hi2, e⟩ := mk_at hl i hi
  have e4 : l[i].last = D.S[i].last := congrArg Mk.last e
  have e3 : l[i].part = D.S[i].part := congrArg Mk.part e
  refine ⟨by rw [e4]; exact h.row _ (List.getElem_mem hi2), by rw [e3]; exact ht _ (List.getElem_mem hi2), fun h0 => ?_⟩
  obtain ⟨hi3, e'⟩ := mk_at hl (i - 1) (by omega)
  have h3 := List.pairwise_iff_getElem.1 h.srt (i - 1) i hi3 hi2 (by omega)
  have k4 : key l[i - 1] = key D.S[i - 1] := congrArg (fun m : Mk => (⟨m.id, m.part⟩ : DKey)) e'
  have k5 : key l[i] = key D.S[i] := congrArg (fun m : Mk => (⟨m.id, m.part⟩ : DKey)) e
  show KOrd.lt (key l[i - 1]) (key l[i])
  rw [k4, k5]
  exact h3
set_option maxRecDepth 20000 in
set_option maxHeartbeats 1600000 in
theorem lTold (w0 : World) (a : Option Addr) (c : Nat) (l : List DOp) (hl : SlI w0 a l) :
    Ct Try.prog 7 #[.slice a l.length c] w0 fun v w' => v = .bool true ∧ Ext w0 w' := by
  refine Ct.intro1 Try.func7 Try.ntmps7 rfl rfl (by decide) rfl ?_
  have H : Ext w0 w0 := Ext.refl w0
  refine WP.regionS ?_
  refine RL.r (asgB rfl) rfl ?_
  refine RL.nil ?_
  refine WP.regionS ?_
  -- call stagecoach/dedup.New 
  have hs0 := H.size
  refine RL.call (pNew _) rfl rfl ?_
  rintro v w1 ⟨⟨it, m, rfl, hbt, hmm⟩, hx⟩
  replace H := H.ext hx
  have hT := tg_new hbt hmm
  replace hT := hT.mono hs0
  refine RL.r (asgP rfl) rfl ?_
  refine RL.nil ?_
  refine WP.seq ?_
  refine WP.regionS ?_
  refine RL.r (mvP rfl) rfl ?_
  refine RL.r (peqn rfl rfl) rfl ?_
  refine RL.nil ?_
  refine WP.cond rfl (fun hc => ?_) (fun hc => ?_)
  · refine WP.regionS ?_
    refine RL.r (asgB rfl) rfl ?_
    refine RL.nil ?_
    refine WP.ret ?_
    refine fin1_ret rfl ⟨absurd hc (by simp), H⟩
  · refine WP.skip ?_
    refine WP.seq ?_
    refine WP.regionS ?_
    refine RL.r (asgI rfl) rfl ?_
    refine RL.nil ?_
    refine WP.block ?_
    refine WP.loop (fun k e' w' => ∃ j : Nat, ∃ (D : Ds) (Z : Nat → Prop),  j + k = min l.length 60 ∧ Head [4, 5, 14, 15, 16, 17, 18, 19, 20, 21, 22, 23, 24, 25, 26, 27, 28, 29, 30, 31, 32, 33, 34, 35, 36, 37, 38, 39, 40, 41, 42, 43, 44, 45, 46, 47, 48, 49, 50, 51, 52, 53, 54, 55, 56, 57, 58, 59, 60, 61, 62, 63, 64, 65] _ [(4, .int .i64 (j : Int))] e' ∧ Ext w0 w' ∧ Tg w0.heap.size w' it Z D ∧ okD (4 * (j : Int)) j D ∧ topS D) (min l.length 60)
      ⟨0, _, _, by omega, Head.intro (AgreeOff.refl _ _) ⟨rfl, trivial⟩, H, hT, okD0, topS0⟩ ?_
    clear H hT
    rintro k e w2 ⟨j, D, Z, hjk, ⟨jk, rfl⟩, H, hT, hok, htop⟩
    refine WP.seq ?_
    refine WP.seq (WP.quiet ?_)
    refine QL.r (mvI rfl) rfl ?_
    refine QL.r (mvL rfl) rfl ?_
    refine QL.r (len_sl rfl) rfl ?_
    refine QL.r (lss rfl rfl) rfl ?_
    refine QL.r (mvB rfl) rfl ?_
    refine QL.gg (gwT rfl rfl) (fun hg => (mvI rfl).does _) rfl ?_
    refine QL.gg (gwT rfl rfl) (fun hg => (lss (gs hg rfl) rfl).does _) rfl ?_
    refine QL.r (pickAnd rfl (fun hn => gs hn rfl)) rfl ?_
    refine QL.nil ?_; intro w3 hx; replace H := H.ext hx; replace hT := hT.ext hx
    refine WP.cond rfl (fun hc => ?_) (fun hc => ?_)
    · refine WP.skip ?_
      refine WP.seq ?_
      refine WP.block ?_
      refine WP.regionS ?_
      refine RL.r (mvL rfl) rfl ?_
      refine RL.r (mvI rfl) rfl ?_
      have hj : j < l.length := by omega
      have hl := hl (List.ne_nil_of_length_pos (by omega))
      obtain ⟨q, hq⟩ := hl.isAddr (by decide) hj
      subst hq
      have hand := andv_le 3 (by decide) ((l[j].b.recs.length : Nat) : Int)
      refine RL.r (ix_o rfl rfl rfl hj (Option.some_ne_none _)) rfl ?_
      refine RL.m (ldS_o0 rfl hl H rfl rfl hj (by decide)) rfl ?_
      refine RL.alloc w0.heap.size H.size rfl rfl ?_
      intro w4 i5 hi5 hx hb5
      refine RL.storeS rfl hb5 rfl rfl rfl rfl ?_
      intro w5 hu hb5
      replace hx := hx.box hu (Nat.le_of_eq hi5.symm)
      replace H := H.ext hx; replace hT := hT.ext hx; clear hx hu
      refine RL.nil ?_
      refine WP.regionS ?_
      refine RL.r (fa_box rfl) rfl ?_
      refine RL.r (fa_box rfl) rfl ?_
      refine RL.m (ld_box rfl hb5 rfl) rfl ?_
      refine RL.r (fa_box rfl) rfl ?_
      refine RL.r (fa_box rfl) rfl ?_
      refine RL.m (ld_box rfl hb5 rfl) rfl ?_
      refine RL.r (len_str rfl) rfl ?_
      refine RL.r (min_i rfl rfl) rfl ?_
      refine RL.r (slcS (n := min l[j].part.topic.size 40) rfl rfl (by omega) (by omega)) rfl ?_
      refine RL.r (fa_box rfl) rfl ?_
      refine RL.r (fa_box rfl) rfl ?_
      have hb5_0 := hb5
      refine RL.store1 rfl hb5 rfl rfl rfl rfl ?_
      intro w6 hu hb5
      replace hT := hT.bx hb5_0 (by decide) (by decide) (by decide) hu
      replace H := H.box hu hb5.old
      refine RL.nil ?_
      refine WP.regionS ?_
      refine RL.r (fa_box rfl) rfl ?_
      refine RL.m (ld_box rfl hb5 rfl) rfl ?_
      refine RL.r (eql rfl rfl) rfl ?_
      refine RL.nil ?_
      refine WP.cond rfl (fun hc => ?_) (fun hc => ?_)
      · refine WP.region ?_
        refine RL.r (mvP rfl) rfl ?_
        refine RL.r (fa_box rfl) rfl ?_
        refine RL.m (ld_box rfl hb5 rfl) rfl ?_
        -- call (*stagecoach/dedup.Table).Open (tmp 42) (tmp 44)
        refine RL.call (pOpen _ _ it Z D hT _ _ hok l[j].id) rfl rfl ?_
        rintro _ w7 ⟨⟨rfl, Z2, hT2, _⟩, hx⟩
        replace H := ext_z H hT (Nat.le_refl _) hx; replace hb5 := box_z hb5 hT (by decide) (by decide) (by decide) hx
        replace hT := hT2; clear hT2
        refine RL.nil ?_
        refine WP.region ?_
        refine RL.r (mvI rfl) rfl ?_
        refine RL.r (add rfl rfl (by omega)) rfl ?_
        refine RL.r (asgI rfl) rfl ?_
        refine RL.nil ?_
        refine ⟨k - 1, by omega, j + 1, _, _, by omega, Head.intro (by repeat (first | with_reducible exact AgreeOff.mix _ _ _ | refine AgreeOff.look rfl ?_ | refine AgreeOff.mixs rfl ?_)) ⟨rfl, trivial⟩, H, hT, (okD_open hok _).mono (by omega) (by omega), topS_open htop _⟩
      · refine WP.any ?_
        intro w8 hx; replace H := H.ext hx; replace hb5 := hb5.ext hx; replace hT := hT.ext hx
        refine AL.p 0 (by kernel_rfl) rfl (mvP rfl) rfl ?_
        refine AL.p 1 (by kernel_rfl) rfl (fa_box rfl) rfl ?_
        refine AL.p 3 (by kernel_rfl) rfl (fa_box rfl) rfl ?_
        refine AL.p 4 (by kernel_rfl) rfl (fa_box rfl) rfl ?_
        refine AL.p 6 (by kernel_rfl) rfl (fa_box rfl) rfl ?_
        refine AL.p 7 (by kernel_rfl) rfl (fa_box rfl) rfl ?_
        refine AL.p 9 (by kernel_rfl) rfl (fa_box rfl) rfl ?_
        refine AL.p 10 (by kernel_rfl) rfl (fa_box rfl) rfl ?_
        refine AL.p 12 (by kernel_rfl) rfl (fa_box rfl) rfl ?_
        refine AL.p 13 (by kernel_rfl) rfl (fa_box rfl) rfl ?_
        refine AL.m 14 (by kernel_rfl) rfl (ld_box rfl hb5 rfl) rfl ?_
        refine AL.p 15 (by kernel_rfl) rfl (len_sl rfl) rfl ?_
        refine AL.p 16 (by kernel_rfl) rfl (andk (K := 3) rfl rfl (by decide)) rfl ?_
        refine AL.p 17 (by kernel_rfl) rfl (add rfl rfl (by omega)) rfl ?_
        refine AL.m 5 (by kernel_rfl) rfl (ld_box rfl hb5 rfl) rfl ?_
        refine AL.m 8 (by kernel_rfl) rfl (ld_box rfl hb5 rfl) rfl ?_
        refine AL.m 11 (by kernel_rfl) rfl (ld_box rfl hb5 rfl) rfl ?_
        -- call stagecoach/stagecoachlaw08.of (tmp 51) (tmp 54) (tmp 57) (tmp 63)
        have hOf : ∀ w', Ct Try.prog 19 #[.int .i64 l[j].b.prod, .int .i64 l[j].b.epoch, .int .i64 l[j].b.seq, .int .i64 (1 + ((andv 3 ((l[j].b.recs.length : Nat) : Int) : Nat) : Int))] w' fun v w'' => (∃ (ra : Option Addr) (rc : Nat) (recs : List Rec), v = .agg (Lies.enc (⟨l[j].b.prod, l[j].b.epoch, l[j].b.seq, ra, rc, recs⟩ : Bat)).toArray ∧ recs.length = (1 + ((andv 3 ((l[j].b.recs.length : Nat) : Int) : Nat) : Int)).toNat) ∧ Ext w' w'' := fun w' => pOf w' _ _ _ _ (by omega)
        refine AL.x 18 (by kernel_rfl) rfl rfl (fun w' hw' => hOf w') ?_
        refine AX.m 2 (by kernel_rfl) rfl rfl (ldS_box rfl hb5 (Nat.le_of_ble_eq_true rfl) rfl) rfl ?_
        refine AX.o (by kernel_rfl) rfl ?_
        rintro v w9 ⟨⟨ra, rc, recs, rfl, hrl⟩, hx⟩
        replace H := H.ext hx; replace hb5 := hb5.ext hx; replace hT := hT.ext hx
        refine AL.o 19 (by kernel_rfl) rfl ?_
        -- call (*stagecoach/dedup.Table).Done (tmp 46) (tmp 48) (tmp 64) (const (int i64 5))
        have hrn : recs.length = (1 + andv 3 ((l[j].b.recs.length : Nat) : Int)) := by omega
        refine RL.call (pDoneN _ _ it Z D hT _ _ hok (by omega) (cutP l[j].part) l[j].b.prod l[j].b.epoch l[j].b.seq ra rc recs 5 hrn rfl rfl) rfl rfl ?_
        rintro _ w10 ⟨⟨rfl, Z2, hT2, _⟩, hx⟩
        replace H := ext_z H hT (Nat.le_refl _) hx; replace hb5 := box_z hb5 hT (by decide) (by decide) (by decide) hx
        replace hT := hT2; clear hT2
        refine RL.nil ?_
        refine AL.nil (by kernel_rfl) ?_
        refine WP.region ?_
        refine RL.r (mvI rfl) rfl ?_
        refine RL.r (add rfl rfl (by omega)) rfl ?_
        refine RL.r (asgI rfl) rfl ?_
        refine RL.nil ?_
        refine ⟨k - 1, by omega, j + 1, _, _, by omega, Head.intro (by repeat (first | with_reducible exact AgreeOff.mix _ _ _ | refine AgreeOff.look rfl ?_ | refine AgreeOff.mixs rfl ?_)) ⟨rfl, trivial⟩, H, hT, (okD_done hok (by omega) _ _ _ _ _ _).mono (by omega) (by omega), topS_done htop (cutP_le _) _ _ _ _ _⟩
    · refine WP.exit ?_
      refine WP.regionS ?_
      refine RL.r (mvP rfl) rfl ?_
      -- call (*stagecoach/dedup.Table).Makers (tmp 66)
      have hsM := H.size
      refine RL.call (pMakers _ _ it Z D hT _ _ hok (by omega)) rfl rfl ?_
      rintro v w11 ⟨⟨aM, cM, Lm, rfl, hM, hMO, hMm⟩, hx⟩
      replace H := H.ext hx; replace hT := hT.ext hx
      replace hM := hM.mono hsM
      replace hMO := hMO.mono hsM
      refine RL.r (asgL rfl) rfl ?_
      refine RL.nil ?_
      refine WP.seq ?_
      refine WP.regionS ?_
      refine RL.r (asgI rfl) rfl ?_
      refine RL.nil ?_
      refine WP.block ?_
      refine WP.loop (fun k1 e' w' => ∃ j1 : Nat,  j1 + k1 = Lm.length ∧ Head [2, 7, 8, 68, 69, 70, 71, 72, 73, 74, 75, 76, 77, 78, 79, 80, 81, 82, 83, 84, 85, 86, 87, 88, 89, 90, 91, 92, 93, 94, 95, 96, 97, 98, 99, 100, 101, 102, 103, 104, 105, 106, 107, 108, 109, 110, 111, 112, 113, 114, 115, 116, 117, 118, 119, 120, 121, 122, 123, 124, 125, 126, 127, 128, 129, 130, 131, 132, 133, 134, 135, 136, 137, 138, 139, 140, 141, 142, 143, 144, 145, 146, 147] _ [(7, .int .i64 (j1 : Int))] e' ∧ Ext w0 w' ∧ Tg w0.heap.size w' it Z D ∧ Own w0.heap.size w' 33 aM cM Lm ∧ OwnsD w0.heap.size w' Lm) (Lm.length)
        ⟨0, by omega, Head.intro (AgreeOff.refl _ _) ⟨rfl, trivial⟩, H, hT, hM, hMO⟩ ?_
      clear H hT hM hMO
      rintro k1 e w12 ⟨j1, hjk1, ⟨jk1, rfl⟩, H, hT, hM, hMO⟩
      have hLS : Lm.length = D.S.length := by have h9 := congrArg List.length hMm; simpa using h9
      have hcnt := hok.cnt
      refine WP.seq ?_
      refine WP.regionS ?_
      refine RL.r (mvI rfl) rfl ?_
      refine RL.r (mvL rfl) rfl ?_
      refine RL.r (len_sl rfl) rfl ?_
      refine RL.r (lss rfl rfl) rfl ?_
      refine RL.nil ?_
      refine WP.cond rfl (fun hc => ?_) (fun hc => ?_)
      · refine WP.skip ?_
        refine WP.seq ?_
        refine WP.block ?_
        refine WP.seq ?_
        refine WP.seq ?_
        refine WP.draw (by kernel_rfl) ?_
        refine QL.r (mvI rfl) rfl ?_
        refine QL.r (gtr rfl rfl) rfl ?_
        refine QL.r (mvB rfl) rfl ?_
        refine QL.gg (gwT rfl rfl) (fun hg => (mvL rfl).does _) rfl ?_
        refine QL.gg (gwT rfl rfl) (fun hg => (mvI rfl).does _) rfl ?_
        refine QL.gg (gwT rfl rfl) (fun hg => (sub (gs hg rfl) rfl (by omega)).does _) rfl ?_
        have hj1 : j1 < Lm.length := by omega
        have hj0 : j1 - 1 < Lm.length := by omega
        have htl := told_at hok htop hMm j1 hj1
        obtain ⟨qM, hqM⟩ := hM.sl.isAddr (by decide) hj1
        subst hqM
        refine QL.gg (gwT rfl rfl) (fun hg => (ix_o (gs hg rfl) (gs hg rfl) (show ((j1 : Int) - 1) = ((j1 - 1 : Nat) : Int) by omega) hj0 (Option.some_ne_none _)).does _) rfl ?_
        refine QL.gg (gwT rfl rfl) (fun hg => ldS_o0 (gs hg rfl) hM.sl (Ext.refl _) rfl rfl hj0 (by decide)) rfl ?_
        refine QL.gg (gwT rfl rfl) (fun hg => (mvL rfl).does _) rfl ?_
        refine QL.gg (gwT rfl rfl) (fun hg => (mvI rfl).does _) rfl ?_
        refine QL.gg (gwT rfl rfl) (fun hg => (ix_o (gs hg rfl) (gs hg rfl) rfl hj1 (Option.some_ne_none _)).does _) rfl ?_
        refine QL.gg (gwT rfl rfl) (fun hg => ldS_o0 (gs hg rfl) hM.sl (Ext.refl _) rfl rfl hj1 (by decide)) rfl ?_
        -- call stagecoach/stagecoachref08.Before (tmp 81) (tmp 85)
        have hBf : ∀ w', Ext w12 w' → Ct Try.prog 22 #[.agg (Lies.enc Lm[j1 - 1]).toArray, .agg (Lies.enc Lm[j1]).toArray] w' fun v w'' => v = .bool (decide (bfr Lm[j1 - 1] Lm[j1])) ∧ Ext w' w'' := fun w' _ => rBefore w' Lm[j1 - 1] Lm[j1] (by have := (told_at hok htop hMm (j1 - 1) hj0).2.1; omega)
        refine QL.gcall (gwT rfl rfl) (fun hg w' hw' => hBf w' hw') (fun hg => EvL.cons (gs hg rfl) (EvL.cons (gs hg rfl) (EvL.nil))) rfl ?_
        first | refine QL.gg (gwT rfl rfl) (fun hg => (notD (gs hg rfl)).does _) rfl ?_ | refine QL.gg (gwT rfl rfl) (fun hg => (not_ (gs hg rfl)).does _) rfl ?_
        refine QL.r (pickAnd rfl (fun hn => gs hn rfl)) rfl ?_
        refine QL.r (mvB rfl) rfl ?_
        refine QL.gg (gwF rfl rfl) (fun hg => (mvL rfl).does _) rfl ?_
        refine QL.gg (gwF rfl rfl) (fun hg => (mvI rfl).does _) rfl ?_
        refine QL.gg (gwF rfl rfl) (fun hg => (ix_o (gs hg rfl) (gs hg rfl) rfl hj1 (Option.some_ne_none _)).does _) rfl ?_
        refine QL.gg (gwF rfl rfl) (fun hg => (fa_el hM.sl.1 (gs hg rfl)).does _) rfl ?_
        refine QL.gg (gwF rfl rfl) (fun hg => ld_el (gs hg rfl) hM.sl (Ext.refl _) rfl hj1 rfl) rfl ?_
        refine QL.gg (gwF rfl rfl) (fun hg => (len_sl (gs hg rfl)).does _) rfl ?_
        refine QL.gg (gwF rfl rfl) (fun hg => (lss (gs hg rfl) rfl).does _) rfl ?_
        refine QL.r (pickOr rfl (fun hn => gs hn rfl)) rfl ?_
        refine QL.r (mvB rfl) rfl ?_
        refine QL.gg (gwF rfl rfl) (fun hg => (mvL rfl).does _) rfl ?_
        refine QL.gg (gwF rfl rfl) (fun hg => (mvI rfl).does _) rfl ?_
        refine QL.gg (gwF rfl rfl) (fun hg => (ix_o (gs hg rfl) (gs hg rfl) rfl hj1 (Option.some_ne_none _)).does _) rfl ?_
        refine QL.gg (gwF rfl rfl) (fun hg => (fa_el hM.sl.1 (gs hg rfl)).does _) rfl ?_
        refine QL.gg (gwF rfl rfl) (fun hg => ld_el (gs hg rfl) hM.sl (Ext.refl _) rfl hj1 rfl) rfl ?_
        refine QL.gg (gwF rfl rfl) (fun hg => (len_sl (gs hg rfl)).does _) rfl ?_
        refine QL.gg (gwF rfl rfl) (fun hg => (gtr (gs hg rfl) rfl).does _) rfl ?_
        refine QL.r (pickOr rfl (fun hn => gs hn rfl)) rfl ?_
        refine QL.nil ?_; intro w14 hx; replace H := H.ext hx; replace hT := hT.ext hx; replace hM := hM.ext hx; replace hMO := hMO.ext hx
        refine WP.cond rfl (fun hc => ?_) (fun hc => ?_)
        · refine WP.regionS ?_
          refine RL.r (asgB rfl) rfl ?_
          refine RL.nil ?_
          refine WP.ret ?_
          have hbad : False := by
            obtain ⟨⟨r1, r2, _⟩, _, r3⟩ := htl
            rcases hc with (⟨h1, h2⟩ | hc) | hc
            · exact h2 (r3 (by omega))
            · omega
            · omega
          refine fin1_ret rfl ⟨hbad.elim, H⟩
        · refine WP.skip ?_
          refine WP.regionS ?_
          refine RL.r (asgI rfl) rfl ?_
          refine RL.nil ?_
          refine WP.block ?_
          refine WP.loop (fun k2 e' w' => ∃ j2 : Nat,  j2 + k2 = Lm[j1].last.length - 1 ∧ Head [2, 8, 107, 108, 109, 110, 111, 112, 113, 114, 115, 116, 117, 118, 119, 120, 121, 122, 123, 124, 125, 126, 127, 128, 129, 130, 131, 132, 133, 134, 135, 136, 137, 138, 139, 140, 141, 142, 143, 144, 145, 146, 147] _ [(8, .int .i64 ((j2 : Int) + 1))] e' ∧ Ext w0 w' ∧ Tg w0.heap.size w' it Z D ∧ Own w0.heap.size w' 33 (some qM) cM Lm ∧ OwnsD w0.heap.size w' Lm) (Lm[j1].last.length - 1)
            ⟨0, by omega, Head.intro (AgreeOff.refl _ _) ⟨rfl, trivial⟩, H, hT, hM, hMO⟩ ?_
          clear H hT hM hMO
          rintro k2 e w15 ⟨j2, hjk2, ⟨jk2, rfl⟩, H, hT, hM, hMO⟩
          refine WP.seq ?_
          refine WP.regionS ?_
          refine RL.r (mvI rfl) rfl ?_
          refine RL.r (mvL rfl) rfl ?_
          refine RL.r (mvI rfl) rfl ?_
          refine RL.r (ix_o rfl rfl rfl hj1 (Option.some_ne_none _)) rfl ?_
          refine RL.r (fa_el hM.sl.1 rfl) rfl ?_
          refine RL.m (ld_el rfl hM.sl (Ext.refl _) rfl hj1 rfl) rfl ?_
          refine RL.r (len_sl rfl) rfl ?_
          refine RL.r (lss rfl rfl) rfl ?_
          refine RL.nil ?_
          refine WP.cond rfl (fun hc => ?_) (fun hc => ?_)
          · refine WP.skip ?_
            refine WP.seq ?_
            refine WP.block ?_
            refine WP.seq ?_
            refine WP.draw (by kernel_rfl) ?_
            refine QL.r (mvL rfl) rfl ?_
            refine QL.r (mvI rfl) rfl ?_
            have hrw := (hMO.own _ (List.getElem_mem hj1)).sl
            have hk : j2 + 1 < Lm[j1].last.length := by omega
            have hk0 : j2 < Lm[j1].last.length := by omega
            obtain ⟨q4, hq4⟩ := hrw.isAddr (by decide) hk
            have hrw4 := hrw
            rw [hq4] at hrw4
            have hrow := htl.1.2.2
            have hr1 := hrow (j2 + 1) hk
            have hr0 := hrow j2 hk0
            refine QL.r (ix_o rfl rfl rfl hj1 (Option.some_ne_none _)) rfl ?_
            refine QL.r (fa_el hM.sl.1 rfl) rfl ?_
            refine QL.m (ld_el rfl hM.sl (Ext.refl _) rfl hj1 (show (Lies.enc Lm[j1])[4]? = some (.slice (some q4) Lm[j1].last.length Lm[j1].lc) by rw [← hq4]; rfl)) rfl ?_
            refine QL.r (mvI rfl) rfl ?_
            refine QL.r (ix_o rfl rfl (show ((j2 : Int) + 1) = ((j2 + 1 : Nat) : Int) by omega) hk (Option.some_ne_none _)) rfl ?_
            refine QL.r (fa_el hrw4.1 rfl) rfl ?_
            refine QL.m (ld_el rfl hrw4 (Ext.refl _) rfl hk rfl) rfl ?_
            refine QL.r (mvL rfl) rfl ?_
            refine QL.r (mvI rfl) rfl ?_
            refine QL.r (ix_o rfl rfl rfl hj1 (Option.some_ne_none _)) rfl ?_
            refine QL.r (fa_el hM.sl.1 rfl) rfl ?_
            refine QL.m (ld_el rfl hM.sl (Ext.refl _) rfl hj1 (show (Lies.enc Lm[j1])[4]? = some (.slice (some q4) Lm[j1].last.length Lm[j1].lc) by rw [← hq4]; rfl)) rfl ?_
            refine QL.r (mvI rfl) rfl ?_
            refine QL.r (sub rfl rfl (by omega)) rfl ?_
            refine QL.r (ix_o rfl rfl (show ((j2 : Int) + 1 - 1) = ((j2 : Nat) : Int) by omega) hk0 (Option.some_ne_none _)) rfl ?_
            refine QL.r (fa_el hrw4.1 rfl) rfl ?_
            refine QL.m (ld_el rfl hrw4 (Ext.refl _) rfl hk0 rfl) rfl ?_
            refine QL.r (mvL rfl) rfl ?_
            refine QL.r (mvI rfl) rfl ?_
            refine QL.r (ix_o rfl rfl rfl hj1 (Option.some_ne_none _)) rfl ?_
            refine QL.r (fa_el hM.sl.1 rfl) rfl ?_
            refine QL.m (ld_el rfl hM.sl (Ext.refl _) rfl hj1 (show (Lies.enc Lm[j1])[4]? = some (.slice (some q4) Lm[j1].last.length Lm[j1].lc) by rw [← hq4]; rfl)) rfl ?_
            refine QL.r (mvI rfl) rfl ?_
            refine QL.r (sub rfl rfl (by omega)) rfl ?_
            refine QL.r (ix_o rfl rfl (show ((j2 : Int) + 1 - 1) = ((j2 : Nat) : Int) by omega) hk0 (Option.some_ne_none _)) rfl ?_
            refine QL.r (fa_el hrw4.1 rfl) rfl ?_
            refine QL.m (ld_el rfl hrw4 (Ext.refl _) rfl hk0 rfl) rfl ?_
            refine QL.r (add rfl rfl (by omega)) rfl ?_
            refine QL.r (neq rfl rfl) rfl ?_
            refine QL.nil ?_; intro w16 hx; replace H := H.ext hx; replace hT := hT.ext hx; replace hM := hM.ext hx; replace hMO := hMO.ext hx
            refine WP.cond rfl (fun hc => ?_) (fun hc => ?_)
            · refine WP.regionS ?_
              refine RL.r (asgB rfl) rfl ?_
              refine RL.nil ?_
              refine WP.ret ?_
              have hbad : False := by
                have h5 := hr1.2.2.2.2 (by omega)
                simp only [Nat.add_sub_cancel] at h5
                exact hc h5
              refine fin1_ret rfl ⟨hbad.elim, H⟩
            · refine WP.skip ?_
              refine WP.region ?_
              refine RL.r (mvI rfl) rfl ?_
              refine RL.r (add rfl rfl (by omega)) rfl ?_
              refine RL.r (asgI rfl) rfl ?_
              refine RL.nil ?_
              refine ⟨k2 - 1, by omega, j2 + 1, by omega, Head.intro (by repeat (first | with_reducible exact AgreeOff.mix _ _ _ | refine AgreeOff.look rfl ?_ | refine AgreeOff.mixs rfl ?_)) ⟨rfl, trivial⟩, H, hT, hM, hMO⟩
          · refine WP.exit ?_
            refine WP.region ?_
            refine RL.r (mvI rfl) rfl ?_
            refine RL.r (add rfl rfl (by omega)) rfl ?_
            refine RL.r (asgI rfl) rfl ?_
            refine RL.nil ?_
            refine ⟨k1 - 1, by omega, j1 + 1, by omega, Head.intro (by repeat (first | with_reducible exact AgreeOff.mix _ _ _ | refine AgreeOff.look rfl ?_ | refine AgreeOff.mixs rfl ?_)) ⟨rfl, trivial⟩, H, hT, hM, hMO⟩
      · refine WP.exit ?_
        refine WP.regionS ?_
        refine RL.r (mvP rfl) rfl ?_
        -- call (*stagecoach/dedup.Table).Epochs (tmp 149)
        refine RL.call (pEpochs _ _ it Z D hT (by have := hok.len; omega)) rfl rfl ?_
        rintro v w17 ⟨⟨aE, cE, rfl, hE⟩, hx⟩
        replace H := H.ext hx; replace hT := hT.ext hx; replace hM := hM.ext hx; replace hMO := hMO.ext hx
        refine RL.r (mvL rfl) rfl ?_
        -- call stagecoach/dedup.Load (tmp 150) (tmp 151)
        have h0 : ldE D.E Lm = 0 := okD_ldE hok (by omega) hMm
        refine RL.call (pLoad_ok _ aE cE D.E hE.sl (by have := hok.len; omega) aM cM Lm hM.sl (by omega) (rows_of hMO) h0) rfl rfl ?_
        rintro v w18 ⟨⟨iu, Zu, rfl, hU⟩, hx⟩
        replace H := H.ext hx; replace hT := hT.ext hx; replace hM := hM.ext hx; replace hMO := hMO.ext hx; replace hE := hE.ext hx
        refine RL.r (mvU rfl) rfl ?_
        refine RL.r (ex0 rfl) rfl ?_
        refine RL.r (ex1 rfl) rfl ?_
        refine RL.r (asgP rfl) rfl ?_
        refine RL.r (asgI rfl) rfl ?_
        refine RL.nil ?_
        refine WP.regionS ?_
        refine RL.r (mvP rfl) rfl ?_
        refine RL.r (pneqn rfl rfl) rfl ?_
        refine RL.mvT rfl (Option.some_ne_none _) rfl ?_
        refine RL.yes rfl rfl rfl ?_
        refine RL.r (mvI rfl) rfl ?_
        refine RL.yes rfl rfl rfl ?_
        refine RL.r (eql rfl rfl) rfl ?_
        refine RL.r (pickT rfl) rfl ?_
        refine RL.mvT rfl rfl rfl ?_
        refine RL.yes rfl rfl rfl ?_
        refine RL.r (mvP rfl) rfl ?_
        refine RL.yes rfl rfl rfl ?_
        -- call (*stagecoach/dedup.Table).Makers (tmp 162)
        refine RL.call (pMakers _ _ iu Zu _ hU _ _ (ldE_okD h0) (by omega)) rfl rfl ?_
        rintro v w19 ⟨⟨aN, cN, Ln, rfl, hN, hNO, hNm⟩, hx⟩
        replace H := H.ext hx; replace hT := hT.ext hx; replace hM := hM.ext hx; replace hMO := hMO.ext hx; replace hU := hU.ext hx
        refine RL.yes rfl rfl rfl ?_
        refine RL.r (mvL rfl) rfl ?_
        refine RL.yes rfl rfl rfl ?_
        -- call stagecoach/stagecoachref08.Same (tmp 163) (tmp 164)
        have hmm9 : Ln.map Maker.mk' = Lm.map Maker.mk' := by rw [hNm, hMm, mk_pl hMm]
        have hLn : Ln.length = Lm.length := by have h9 := congrArg List.length hmm9; simpa using h9
        refine RL.call (rSame _ aN aM cN cM Ln Lm hN.sl hM.sl (fun i h => (hNO.own _ (List.getElem_mem h)).sl) (fun i h => (hMO.own _ (List.getElem_mem h)).sl) (by omega) (fun i h => by
          obtain ⟨h2, e⟩ := mk_at hNm i h
          have e4 : Ln[i].last = ((Lm.map Maker.pl)[i]'h2).last := congrArg Mk.last e
          have h5 := ((ldE_okD h0).row _ (List.getElem_mem h2)).2.1
          rw [e4]
          exact Nat.le_trans h5 (by decide))) rfl rfl ?_
        rintro _ w20 ⟨rfl, hx⟩
        replace H := H.ext hx; replace hT := hT.ext hx; replace hM := hM.ext hx; replace hMO := hMO.ext hx; replace hU := hU.ext hx; replace hN := hN.ext hx; replace hNO := hNO.ext hx
        refine RL.r (pickT rfl) rfl ?_
        refine RL.mvT rfl hmm9 rfl ?_
        refine RL.yes rfl rfl rfl ?_
        -- call stagecoach/stagecoachlaw08.fixed 
        refine RL.call (lFixed _) rfl rfl ?_
        rintro _ w21 ⟨rfl, hx⟩
        replace H := H.ext hx; replace hT := hT.ext hx; replace hM := hM.ext hx; replace hMO := hMO.ext hx; replace hU := hU.ext hx; replace hN := hN.ext hx; replace hNO := hNO.ext hx
        refine RL.r (pickT rfl) rfl ?_
        refine RL.r (asgB rfl) rfl ?_
        refine RL.nil ?_
        refine WP.ret ?_
        refine fin1_ret rfl ⟨rfl, H⟩
end Go.Proofs.Ytbggmjnhfacjpaa
