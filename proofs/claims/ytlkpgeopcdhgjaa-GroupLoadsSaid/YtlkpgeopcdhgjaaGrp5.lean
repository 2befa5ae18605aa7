/-
  The walk of a group's Expire.
-/
import Derived.Test.YtlkpgeopcdhgjaaGrp4
set_option linter.unusedVariables false
namespace Go.Proofs.Ytlkpgeopcdhgjaa
open Go Go.Eng Go.RowKit
theorem gExpire (w0 : World) (B i m : Nat) (G : Gs) (hT : Tg B w0 i m G) (now : Int) :
    Ct Try.prog 16 #[.pointer (some ⟨i, 0, none⟩), .int .i64 now] w0 fun v w' => ((∃ a c, v = .slice a (expL G now).length c ∧ Own w0.heap.size w' 9 a c (expL G now)) ∧ Tg B w' i m (expG G now)) ∧ Upd (XG i m) w0 w' := by
  refine Ct.intro1 Try.func16 Try.ntmps16 rfl rfl (by decide) rfl ?_
  have H : Upd (XG i m) w0 w0 := Upd.refl _ w0
  obtain ⟨H0, lb, c, hm, hr, hst, how⟩ := hT.map
  have hbt := hT.box
  have hok := hT.ok
  have hln := (rep_len hr).trans (st_len hst)
  have hle8 := hok.len
  have hnum := hok.num
  have hel : (expL G now).length ≤ 8 := by unfold expL; rw [List.length_map]; exact Nat.le_trans (List.length_filter_le _ _) hle8
  refine WP.regionS ?_
  refine RL.box1 w0.heap.size H.size rfl rfl rfl ?_
  intro w1 i2 hi2 hx hb2
  have net_2 := hbt.ne hi2
  replace H := H.ext hx; replace hbt := hbt.ext hx; replace hm := hm.ext hx; clear hx
  refine RL.box1 w0.heap.size H.size rfl rfl rfl ?_
  intro w2 i3 hi3 hx hb3
  have net_3 := hbt.ne hi3
  have ne2_3 := hb2.ne hi3
  replace H := H.ext hx; replace hbt := hbt.ext hx; replace hb2 := hb2.ext hx; replace hm := hm.ext hx; clear hx
  refine RL.r (asgL rfl) rfl ?_
  refine RL.nil ?_
  refine WP.regionS ?_
  refine RL.r (mkfn) rfl ?_
  refine RL.alloc w0.heap.size H.size rfl rfl ?_
  intro w3 i5 hi5 hx hb5
  have net_5 := hbt.ne hi5
  have ne2_5 := hb2.ne hi5
  have ne3_5 := hb3.ne hi5
  refine RL.store1 rfl hb5 rfl rfl rfl rfl ?_
  intro w4 hu hb5
  replace hx := hx.box hu (Nat.le_of_eq hi5.symm)
  replace H := H.ext hx; replace hbt := hbt.ext hx; replace hb2 := hb2.ext hx; replace hb3 := hb3.ext hx; replace hm := hm.ext hx; clear hx hu
  refine RL.nil ?_
  refine WP.regionS ?_
  refine RL.m (ld_box rfl hb2 rfl) rfl ?_
  -- call (*stagecoach/group.Group).names (tmp 10)
  have hT4 : Tg B w4 i m G := ⟨hbt, ⟨H0, lb, c, hm, hr, hst, owns_xg hT how H⟩, hok⟩
  have hb24 := hb2
  have hb34 := hb3
  have hb54 := hb5
  have hsz := H.size
  refine RL.call (gNames _ B i m G hT4) rfl rfl ?_
  rintro v w5 ⟨⟨a7, c7, rfl, hN⟩, hx⟩
  replace H := H.ext hx; replace hbt := hbt.ext hx; replace hb2 := hb2.ext hx; replace hb3 := hb3.ext hx; replace hb5 := hb5.ext hx; replace hm := hm.ext hx
  have hX := hx
  refine RL.r (mkfn) rfl ?_
  -- call slices.DeleteFunc[[]string,string] (tmp 11) (tmp 12)
  have hfl : (names G.S).filter (fun x => !(!lateN G.S now x)) = expL G now := by
    rw [← expL_eq hok.srt]
    congr 1
    funext x
    rw [Bool.not_not]
  refine RL.call ((gDeleteF _ _ a7 c7 (names G.S) hX.size hN (by rw [names_len]; omega) 39 [.pointer (some ⟨i5, 0, none⟩)] (fun nm => !lateN G.S now nm) (fun w' s hu => gSoon w' B _ _ _ i m i2 i3 i5 G now (hT4.ext (Ext.own hX hN hu)) (hb34.ext (Ext.own hX hN hu)) (hb24.ext (Ext.own hX hN hu)) (hb54.ext (Ext.own hX hN hu)) s)).mono (fun v w' ⟨⟨h1, h2⟩, h3⟩ => (⟨⟨h1.trans (slE (by rw [hfl])), hfl ▸ h2⟩, h3⟩ : (v = Value.slice a7 (expL G now).length c7 ∧ Own _ w' 9 a7 c7 (expL G now)) ∧ Upd (inBlock a7) _ w'))) rfl rfl ?_
  rintro _ w6 ⟨⟨rfl, hN2⟩, hx⟩
  replace H := Upd.own H (hN.mono hsz) hx; replace hbt := hbt.upd hx (fun h => hN.box_apart hbt (by decide) h); replace hb2 := hb2.upd hx (fun h => hN.box_apart hb2 (by decide) h); replace hb3 := hb3.upd hx (fun h => hN.box_apart hb3 (by decide) h); replace hb5 := hb5.upd hx (fun h => hN.box_apart hb5 (by decide) h); replace hm := hm.upd hx (hm.nea hN)
  refine RL.r (asgL rfl) rfl ?_
  refine RL.nil ?_
  refine WP.seq ?_
  refine WP.regionS ?_
  refine RL.r (mvL rfl) rfl ?_
  refine RL.r (len_sl rfl) rfl ?_
  refine RL.r (mvI rfl) rfl ?_
  refine RL.nil ?_
  refine WP.block ?_
  refine WP.loop (fun k e' w' => ∃ j : Nat, ∃ (lb1 : List (ByteArray × Value × Nat)) (c1 : Nat),  j + k = (expL G now).length ∧ Head [8, 16, 17, 18, 19, 20, 21, 22, 23, 24, 25] _ [(16, .int .i64 (j : Int))] e' ∧ Upd (XG i m) w0 w' ∧ Box B w' i 75 [.int .i64 G.gen, .bool G.rb, .map (some m)] ∧ Box w0.heap.size w' i2 22 [.pointer (some ⟨i, 0, none⟩)] ∧ Box w0.heap.size w' i3 3 [.int .i64 now] ∧ Box w0.heap.size w' i5 80 [.func (.func 36) #[] #[.pointer (some ⟨i3, 0, none⟩), .pointer (some ⟨i2, 0, none⟩)]] ∧ MpB Try.prog 9 B w' m lb1 c1 ∧ Rep lb1 (delAll H0 ((expL G now).take j)) ∧ Own w0.heap.size w' 9 a7 c7 (expL G now)) ((expL G now).length)
    ⟨0, lb, c, by omega, Head.intro (AgreeOff.refl _ _) ⟨rfl, trivial⟩, H, hbt, hb2, hb3, hb5, hm, (by rw [List.take_zero, delAll_nil]; exact hr), hN2.mono hsz⟩ ?_
  clear H hbt hb2 hb3 hb5 hm
  rintro k e w7 ⟨j, lb1, c1, hjk, ⟨jk, rfl⟩, H, hbt, hb2, hb3, hb5, hm, hr1, hN⟩
  refine WP.regionS ?_
  refine RL.r (lss rfl rfl) rfl ?_
  refine RL.nil ?_
  refine WP.seq ?_
  refine WP.cond rfl (fun hc => ?_) (fun hc => ?_)
  · refine WP.skip ?_
    refine WP.seq ?_
    refine WP.block ?_
    refine WP.regionS ?_
    have hj : j < (expL G now).length := by omega
    have hNs := hN.sl
    obtain ⟨q, hq⟩ := hNs.isAddr (by decide) hj
    subst hq
    refine RL.r (ix rfl rfl rfl (by omega)) rfl ?_
    refine RL.m (ld_e0 rfl hNs (Ext.refl _) rfl (by omega) rfl) rfl ?_
    refine RL.r (asgS rfl) rfl ?_
    refine RL.nil ?_
    refine WP.region ?_
    refine RL.m (ld_box rfl hb2 rfl) rfl ?_
    refine RL.r (nilck rfl) rfl ?_
    refine RL.r (fa_box rfl) rfl ?_
    refine RL.m (ld_box rfl hbt rfl) rfl ?_
    refine RL.r (mvS rfl) rfl ?_
    refine RL.delM0 (k := (expL G now)[j]) rfl hm rfl ?_
    intro w8 hu hm'
    replace hbt := hbt.upd hu (fun e => hm.neb hbt e.symm)
    replace hb2 := hb2.upd hu (fun e => hm.neb hb2 e.symm)
    replace hb3 := hb3.upd hu (fun e => hm.neb hb3 e.symm)
    replace hb5 := hb5.upd hu (fun e => hm.neb hb5 e.symm)
    replace hN := hN.upd hu (fun k hk e => hm.nea hN (e ▸ hk))
    replace H := Upd.upd H hu (fun k hk he => Or.inr he)
    replace hm := hm'
    refine RL.nil ?_
    refine WP.region ?_
    refine RL.r (add rfl rfl (by omega)) rfl ?_
    refine RL.r (mvI rfl) rfl ?_
    refine RL.nil ?_
    refine ⟨k - 1, by omega, j + 1, _, _, by omega, Head.intro (by repeat (first | with_reducible exact AgreeOff.mix _ _ _ | refine AgreeOff.look rfl ?_ | refine AgreeOff.mixs rfl ?_)) ⟨rfl, trivial⟩, H, hbt, hb2, hb3, hb5, hm, (by rw [List.take_succ_eq_append_getElem hj, ← delAll_push]; exact rep_del hr1 _), hN⟩
  · refine WP.exit ?_
    refine WP.seq ?_
    refine WP.regionS ?_
    refine RL.r (mvL rfl) rfl ?_
    refine RL.r (len_sl rfl) rfl ?_
    refine RL.r (gtr rfl rfl) rfl ?_
    refine RL.nil ?_
    refine WP.cond rfl (fun hc => ?_) (fun hc => ?_)
    · refine WP.region ?_
      refine RL.m (ld_box rfl hb2 rfl) rfl ?_
      -- call (*stagecoach/group.Group).next (tmp 29)
      have hall : (expL G now).take j = expL G now := List.take_of_length_le (by omega)
      rw [hall] at hr1
      refine RL.call (gNext _ B i m G.gen G.rb hbt hnum) rfl rfl ?_
      rintro _ w9 ⟨⟨rfl, hb9⟩, hx⟩
      replace H := Upd.upd H hx (fun k hk he => Or.inl he); replace hm := hm.upd hx (hm.neb hbt); replace hN := hN.upd hx (fun k hk e => hN.box_apart hbt (by decide) (e ▸ hk))
      refine RL.nil ?_
      refine WP.regionS ?_
      refine RL.r (mvL rfl) rfl ?_
      refine RL.r (asgL rfl) rfl ?_
      refine RL.nil ?_
      refine WP.ret ?_
      have hown := owns_xg hT how H
      refine fin1_ret rfl ⟨⟨⟨a7, c7, rfl, hN⟩, ?_⟩, H⟩
      have hokl := okG_exp hok now
      have hg : expG G now = ⟨nextN G.gen, G.rb, expS G.S now⟩ := by unfold expG; rw [if_pos (by omega)]
      rw [hg] at hokl ⊢
      exact ⟨hb9, ⟨delAll H0 (expL G now), _, _, hm, hr1, delAll_exp hst hok.srt now, hown.sub fun x hx => (List.mem_filter.1 hx).1⟩, hokl⟩
    · refine WP.skip ?_
      refine WP.regionS ?_
      refine RL.r (mvL rfl) rfl ?_
      refine RL.r (asgL rfl) rfl ?_
      refine RL.nil ?_
      refine WP.ret ?_
      have hown := owns_xg hT how H
      have hall : (expL G now).take j = expL G now := List.take_of_length_le (by omega)
      rw [hall] at hr1
      refine fin1_ret rfl ⟨⟨⟨a7, c7, rfl, hN⟩, ?_⟩, H⟩
      have hokl := okG_exp hok now
      have hg : expG G now = ⟨G.gen, G.rb, expS G.S now⟩ := by unfold expG; rw [if_neg (by omega)]
      rw [hg] at hokl ⊢
      exact ⟨hbt, ⟨delAll H0 (expL G now), _, _, hm, hr1, delAll_exp hst hok.srt now, hown.sub fun x hx => (List.mem_filter.1 hx).1⟩, hokl⟩
end Go.Proofs.Ytlkpgeopcdhgjaa
