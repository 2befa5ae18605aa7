/-
  The walk of Done.
-/
import Derived.Test.YtbggmjnhfacjpaaDed2
set_option linter.unusedVariables false
namespace Go.Proofs.Ytbggmjnhfacjpaa
open Go Go.Eng Go.RowKit
def pushL (l : List Did) (d : Did) : List Did := (l ++ [d]).drop ((l ++ [d]).length - 5)
def doneE (D : Ds) (p : Part) (b : Bat) (off : Int) : Int :=
  if (askA D p b).2.2 ≠ 0 then (askA D p b).2.2 else if (askA D p b).2.1 = true then 82 else if (b.recs.length : Int) = 0 ∨ ¬ numB off then 1 else 0
def doneD (D : Ds) (p : Part) (b : Bat) (off : Int) : Ds :=
  if doneE D p b off = 0 ∧ b.prod ≠ 0 then ⟨D.E, ePut D.S ⟨b.prod, p, pushL (lastD D.S ⟨b.prod, p⟩) ⟨b.seq, (b.recs.length : Int), off⟩⟩⟩ else D
theorem Own.len_le {α : Type} [Lies α] {B c : Nat} {w : World} {T : TypeId} {a : Option Addr} {l : List α} (h : Own B w T a c l) : l.length ≤ c := by
  rcases h.cases with ⟨_, _, rfl⟩ | ⟨_, _, _, _, _, h1, _⟩
  · simp
  · exact h1
theorem tl_put {B i m c cc cc' : Nat} {w : World} {a : Option Addr} {E : List Int} {Hs : List Maker} {lb : List (DKey × Value × Nat)} {s : Maker} (hb : Box B w i 71 [.slice a E.length c, .map (some m)]) (hE : Own B w 3 a c E) (hm : MpD B w m (setB lb cc (key s) (Valued.val s)) cc') (hr : Rep lb Hs) (hn : (lb.map (·.1)).Nodup) (hO : OwnsD B w (eDel Hs (key s))) (hs : Own B w 53 s.la s.lc s.last) (n : Nat) (hold : ∀ x ∈ Hs, ∀ j, inBlock x.la j → j < n) (hnew : ∀ j, inBlock s.la j → n ≤ j) : Tl B w i m a c E (ePut Hs s) := by
  refine ⟨hb, hE, ⟨_, _, hm, rep_put hr hn cc s⟩, ?_⟩
  rw [← ePut_eDel]
  refine OwnsD.put (eDel_keys (rep_nodup hr hn) _) hO hs (fun x hx j hj hj2 => ?_)
  have h1 := hold x (eDel_mem.1 hx).1 j hj
  have h2 := hnew j hj2
  omega
theorem terr_put {i m : Nat} {a : Option Addr} {Hs : List Maker} {s : Maker} {n : Nat} (hnew : ∀ j, inBlock s.la j → n ≤ j) : Grew (terr i m a Hs) (terr i m a (ePut Hs s)) n := by
  rintro k (h | h | h | ⟨x, hx, h⟩)
  · exact .inl (.inl h)
  · exact .inl (.inr (.inl h))
  · exact .inl (.inr (.inr (.inl h)))
  · rcases ePut_mem.1 hx with rfl | ⟨h1, _⟩
    · exact .inr (hnew k h)
    · exact .inl (.inr (.inr (.inr ⟨x, h1, h⟩)))
set_option maxRecDepth 20000 in
theorem pDone (w0 : World) (B i : Nat) (Z : Nat → Prop) (D : Ds) (hT : Tg B w0 i Z D) (K : Int) (M : Nat) (hok : okD K M D) (hK : 0 ≤ K ∧ K ≤ 4611686018427387904) (p : Part) (b : Bat) (off : Int) :
    Ct Try.prog 13 #[.pointer (some ⟨i, 0, none⟩), .agg (Lies.enc p).toArray, .agg (Lies.enc b).toArray, .int .i64 off] w0 fun v w' => (v = .int .i64 (doneE D p b off) ∧ ∃ Z', Tg B w' i Z' (doneD D p b off) ∧ Grew Z Z' w0.heap.size) ∧ Upd Z w0 w' := by
  refine Ct.intro1 Try.func13 Try.ntmps13 rfl rfl (by decide) rfl ?_
  have H : Upd (Z) w0 w0 := Upd.refl _ w0
  obtain ⟨m, a, c, Hs, hL, hHS, hZ⟩ := hT.at_
  have hbt := hL.box
  have hE := hL.eps
  have hO := hL.own
  obtain ⟨lb, cc, hm, hr⟩ := hL.map
  have hmnod := hm.nod
  have hBs : B ≤ w0.heap.size := by have := hbt.old; have := hbt.lt; omega
  obtain ⟨la, lc, hget, hrow, hapt, hapd⟩ := row_get hL hm hr ⟨b.prod, p⟩
  rw [hHS] at hget hrow
  have hll := lastD_len hok ⟨b.prod, p⟩
  refine WP.regionS ?_
  refine RL.boxS w0.heap.size H.size rfl rfl ?_
  intro w1 i5 hi5 hx hb5
  have net_5 := hbt.ne hi5
  replace H := H.ext hx; replace hbt := hbt.ext hx; replace hT := hT.ext hx; replace hm := hm.ext hx; replace hE := hE.ext hx; replace hO := hO.ext hx; replace hrow := hrow.ext hx; clear hx
  refine RL.boxS w0.heap.size H.size rfl rfl ?_
  intro w2 i6 hi6 hx hb6
  have net_6 := hbt.ne hi6
  have ne5_6 := hb5.ne hi6
  replace H := H.ext hx; replace hbt := hbt.ext hx; replace hb5 := hb5.ext hx; replace hT := hT.ext hx; replace hm := hm.ext hx; replace hE := hE.ext hx; replace hO := hO.ext hx; replace hrow := hrow.ext hx; clear hx
  refine RL.r (asgI rfl) rfl ?_
  refine RL.nil ?_
  refine WP.regionS ?_
  refine RL.r (mvP rfl) rfl ?_
  refine RL.m (ldS_box rfl hb5 (Nat.le_of_ble_eq_true rfl) rfl) rfl ?_
  refine RL.m (ldS_box rfl hb6 (Nat.le_of_ble_eq_true rfl) rfl) rfl ?_
  -- call (*stagecoach/dedup.Table).Ask (tmp 15) (tmp 16) (tmp 17)
  refine RL.call (pAsk _ B i Z D hT K M hok hK p b) rfl rfl ?_
  rintro _ w3 ⟨rfl, hx⟩
  replace H := H.ext hx; replace hbt := hbt.ext hx; replace hb5 := hb5.ext hx; replace hb6 := hb6.ext hx; replace hT := hT.ext hx; replace hm := hm.ext hx; replace hE := hE.ext hx; replace hO := hO.ext hx; replace hrow := hrow.ext hx
  refine RL.r (mvU rfl) rfl ?_
  refine RL.r (ex0 rfl) rfl ?_
  refine RL.r (ex1 rfl) rfl ?_
  refine RL.r (ex2 rfl) rfl ?_
  refine RL.r (asgI rfl) rfl ?_
  refine RL.r (asgB rfl) rfl ?_
  refine RL.r (asgI rfl) rfl ?_
  refine RL.nil ?_
  refine WP.seq ?_
  refine WP.block ?_
  refine WP.regionS ?_
  refine RL.r (mvI rfl) rfl ?_
  refine RL.r (neq rfl rfl) rfl ?_
  refine RL.r (asgB rfl) rfl ?_
  refine RL.nil ?_
  refine WP.cond rfl (fun hc => ?_) (fun hc => ?_)
  · refine WP.regionS ?_
    refine RL.r (mvI rfl) rfl ?_
    refine RL.r (asgI rfl) rfl ?_
    refine RL.nil ?_
    refine WP.ret ?_
    have hE1 : doneE D p b off = (askA D p b).2.2 := by unfold doneE; rw [if_pos hc]
    refine fin1_ret rfl ⟨⟨intE hE1.symm, Z, by unfold doneD; rw [if_neg (by rw [hE1]; intro h9; have := h9.1; first | contradiction | omega)]; exact hT, Grew.refl _ _⟩, H⟩
  · refine WP.regionS ?_
    refine RL.r (mvB rfl) rfl ?_
    refine RL.r (asgB rfl) rfl ?_
    refine RL.nil ?_
    refine WP.cond rfl (fun hc => ?_) (fun hc => ?_)
    · refine WP.regionS ?_
      refine RL.r (asgI rfl) rfl ?_
      refine RL.nil ?_
      refine WP.ret ?_
      have hE1 : doneE D p b off = 82 := by unfold doneE; rw [if_neg (by assumption), if_pos hc]
      refine fin1_ret rfl ⟨⟨intE hE1.symm, Z, by unfold doneD; rw [if_neg (by rw [hE1]; intro h9; have := h9.1; first | contradiction | omega)]; exact hT, Grew.refl _ _⟩, H⟩
    · refine WP.seq (WP.quiet ?_)
      refine QL.r (fa_box rfl) rfl ?_
      refine QL.m (ld_box rfl hb6 rfl) rfl ?_
      refine QL.r (len_sl rfl) rfl ?_
      refine QL.r (eql rfl rfl) rfl ?_
      refine QL.r (mvB rfl) rfl ?_
      refine QL.gg (gwF rfl rfl) (fun hg => (mvI rfl).does _) rfl ?_
      -- call stagecoach/dedup.number (tmp 34)
      refine QL.gcall (gwF rfl rfl) (fun hg w' hw' => pNum w' off) (fun hg => EvL.cons (gs hg rfl) (EvL.nil)) rfl ?_
      first | refine QL.gg (gwF rfl rfl) (fun hg => (notD (gs hg rfl)).does _) rfl ?_ | refine QL.gg (gwF rfl rfl) (fun hg => (not_ (gs hg rfl)).does _) rfl ?_
      refine QL.r (pickOr rfl (fun hn => gs hn rfl)) rfl ?_
      refine QL.r (asgB rfl) rfl ?_
      refine QL.nil ?_; intro w5 hx; replace H := H.ext hx; replace hbt := hbt.ext hx; replace hb5 := hb5.ext hx; replace hb6 := hb6.ext hx; replace hT := hT.ext hx; replace hm := hm.ext hx; replace hE := hE.ext hx; replace hO := hO.ext hx; replace hrow := hrow.ext hx
      refine WP.cond rfl (fun hc => ?_) (fun hc => ?_)
      · refine WP.regionS ?_
        refine RL.r (asgI rfl) rfl ?_
        refine RL.nil ?_
        refine WP.ret ?_
        have hE1 : doneE D p b off = 1 := by unfold doneE; rw [if_neg (by assumption), if_neg (by assumption), if_pos hc]
        refine fin1_ret rfl ⟨⟨intE hE1.symm, Z, by unfold doneD; rw [if_neg (by rw [hE1]; intro h9; have := h9.1; first | contradiction | omega)]; exact hT, Grew.refl _ _⟩, H⟩
      · refine WP.regionS ?_
        refine RL.r (fa_box rfl) rfl ?_
        refine RL.m (ld_box rfl hb6 rfl) rfl ?_
        refine RL.r (eql rfl rfl) rfl ?_
        refine RL.r (asgB rfl) rfl ?_
        refine RL.nil ?_
        refine WP.cond rfl (fun hc => ?_) (fun hc => ?_)
        · refine WP.regionS ?_
          refine RL.r (asgI rfl) rfl ?_
          refine RL.nil ?_
          refine WP.ret ?_
          have hE1 : doneE D p b off = 0 := by unfold doneE; rw [if_neg (by assumption), if_neg (by assumption), if_neg (by assumption)]
          refine fin1_ret rfl ⟨⟨intE hE1.symm, Z, by unfold doneD; rw [if_neg (fun h => h.2 hc)]; exact hT, Grew.refl _ _⟩, H⟩
        · refine WP.skip ?_
          refine WP.regionS ?_
          refine RL.r (fa_box rfl) rfl ?_
          refine RL.m (ld_box rfl hb6 rfl) rfl ?_
          refine RL.m (ldS_box rfl hb5 (Nat.le_of_ble_eq_true rfl) rfl) rfl ?_
          refine RL.r (bld rfl rfl) rfl ?_
          refine RL.alloc w0.heap.size H.size rfl rfl ?_
          intro w6 i12 hi12 hx hb12
          have net_12 := hbt.ne hi12
          have ne5_12 := hb5.ne hi12
          have ne6_12 := hb6.ne hi12
          refine RL.storeS rfl hb12 rfl rfl rfl rfl ?_
          intro w7 hu hb12
          replace hx := hx.box hu (Nat.le_of_eq hi12.symm)
          replace H := H.ext hx; replace hbt := hbt.ext hx; replace hb5 := hb5.ext hx; replace hb6 := hb6.ext hx; replace hT := hT.ext hx; replace hm := hm.ext hx; replace hE := hE.ext hx; replace hO := hO.ext hx; replace hrow := hrow.ext hx; clear hx hu
          refine RL.nil ?_
          refine WP.seq ?_
          refine WP.any ?_
          intro w8 hx; replace H := H.ext hx; replace hbt := hbt.ext hx; replace hb5 := hb5.ext hx; replace hb6 := hb6.ext hx; replace hb12 := hb12.ext hx; replace hT := hT.ext hx; replace hm := hm.ext hx; replace hE := hE.ext hx; replace hO := hO.ext hx; replace hrow := hrow.ext hx
          refine AL.p 0 (by kernel_rfl) rfl (mvP rfl) rfl ?_
          refine AL.p 1 (by kernel_rfl) rfl (nilck rfl) rfl ?_
          refine AL.p 2 (by kernel_rfl) rfl (fa_box rfl) rfl ?_
          refine AL.p 6 (by kernel_rfl) rfl (fa_box rfl) rfl ?_
          refine AL.p 8 (by kernel_rfl) rfl (fa_box rfl) rfl ?_
          refine AL.p 11 (by kernel_rfl) rfl (mvI rfl) rfl ?_
          refine AL.m 3 (by kernel_rfl) rfl (ld_box rfl hbt rfl) rfl ?_
          refine AL.m 4 (by kernel_rfl) rfl (ldS_box rfl hb12 (Nat.le_of_ble_eq_true rfl) rfl) rfl ?_
          refine AL.m 5 (by kernel_rfl) rfl (lkL (k := ⟨b.prod, p⟩) rfl hm rfl (hget)) rfl ?_
          refine AL.m 7 (by kernel_rfl) rfl (ld_box rfl hb6 rfl) rfl ?_
          refine AL.m 9 (by kernel_rfl) rfl (ld_box rfl hb6 rfl) rfl ?_
          refine AL.p 10 (by kernel_rfl) rfl (len_sl rfl) rfl ?_
          refine AL.p 12 (by kernel_rfl) rfl (bld rfl rfl) rfl ?_
          refine AL.o 13 (by kernel_rfl) rfl ?_
          refine RL.buildSlice w0.heap.size H.size rfl rfl rfl rfl rfl ?_
          intro w9 i59 hi59 hx hb59
          replace H := H.ext hx; replace hbt := hbt.ext hx; replace hb5 := hb5.ext hx; replace hb6 := hb6.ext hx; replace hb12 := hb12.ext hx; replace hT := hT.ext hx; replace hm := hm.ext hx; replace hE := hE.ext hx; replace hO := hO.ext hx; replace hrow := hrow.ext hx; clear hx
          refine RL.nil ?_
          refine AL.o 14 (by kernel_rfl) rfl ?_
          refine RL.appendS rfl hrow (Nat.le_trans hBs H.size) rfl (show Sl _ _ [(⟨b.seq, (b.recs.length : Int), off⟩ : Did)] from Box.sl1 hb59) rfl rfl (by decide) rfl cell1 (by omega) (by simp only [maxLen]; omega) rfl ?_
          intro w10 a60 c60 hu hb60 hfr60
          have hO2 : OwnsD B w10 (eDel Hs ⟨b.prod, p⟩) := (hO.sub List.filter_sublist).upd hu (fun x hx j hj e => hapd x hx j hj e)
          replace hb5 := hb5.upd hu (fun h => hrow.box_apart hb5 (by decide) h)
          replace hb6 := hb6.upd hu (fun h => hrow.box_apart hb6 (by decide) h)
          replace hb12 := hb12.upd hu (fun h => hrow.box_apart hb12 (by decide) h)
          replace hbt := hbt.upd hu (fun h => hrow.box_apart hbt (by decide) h)
          replace hm := hm.upd hu (hm.nea hrow)
          replace hE := hE.upd hu (fun j hj e => hE.apart hrow (by decide) hj e)
          replace H := Upd.upd H hu (fun j _ hj => by obtain ⟨x, hx, _, hj2⟩ := hapt j hj; rw [hZ]; exact .inr (.inr (.inr ⟨x, hx, hj2⟩)))
          have hL5 : (lastD D.S ⟨b.prod, p⟩ ++ [(⟨b.seq, (b.recs.length : Int), off⟩ : Did)] : List Did).length ≤ 6 := by rw [List.length_append]; simp; omega
          generalize hL2 : lastD D.S ⟨b.prod, p⟩ ++ [(⟨b.seq, (b.recs.length : Int), off⟩ : Did)] = L2 at hb60 hL5 ⊢
          have hle60 := Own.len_le hb60
          have hCl : ∀ w', Ext w10 w' → Ct Try.prog 34 #[.slice (restA a60 c60 (L2.length - 5) 3) (L2.length - (L2.length - 5)) (c60 - (L2.length - 5))] w' fun v w'' => (∃ a' c', v = .slice a' (L2.drop (L2.length - 5)).length c' ∧ Own w'.heap.size w'' 53 a' c' (L2.drop (L2.length - 5))) ∧ Ext w' w'' := by
            intro w' hw'
            have h := pCloneD w' (restA a60 c60 (L2.length - 5) 3) (c60 - (L2.length - 5)) (L2.drop (L2.length - 5)) ((hb60.sl.ext hw').suf rfl (by omega) hle60 (by decide)) (by rw [List.length_drop]; omega)
            rw [List.length_drop] at h ⊢
            exact h
          refine RL.nil ?_
          refine AL.p 15 (by kernel_rfl) rfl (asgL rfl) rfl ?_
          refine AL.nil (by kernel_rfl) ?_
          refine WP.seq ?_
          refine WP.any ?_
          intro w11 hx; replace H := H.ext hx; replace hbt := hbt.ext hx; replace hb5 := hb5.ext hx; replace hb6 := hb6.ext hx; replace hb12 := hb12.ext hx; replace hm := hm.ext hx; replace hE := hE.ext hx; replace hO2 := hO2.ext hx; replace hb60 := hb60.ext hx
          refine AL.p 0 (by kernel_rfl) rfl (mvP rfl) rfl ?_
          refine AL.p 1 (by kernel_rfl) rfl (nilck rfl) rfl ?_
          refine AL.p 2 (by kernel_rfl) rfl (fa_box rfl) rfl ?_
          refine AL.p 5 (by kernel_rfl) rfl (mvL rfl) rfl ?_
          refine AL.p 6 (by kernel_rfl) rfl (mvL rfl) rfl ?_
          refine AL.p 7 (by kernel_rfl) rfl (len_sl rfl) rfl ?_
          refine AL.p 8 (by kernel_rfl) rfl (sub rfl rfl (by omega)) rfl ?_
          refine AL.p 9 (by kernel_rfl) rfl (max_i rfl rfl) rfl ?_
          refine AL.p 10 (by kernel_rfl) rfl (slcD rfl rfl (show max (0 : Int) ((L2.length : Int) - 5) = ((L2.length - 5 : Nat) : Int) by omega) (by omega)) rfl ?_
          -- call slices.Clone[[]stagecoach/api.Did,stagecoach/api.Did] (tmp 71)
          have hs11 := H.size
          refine AL.x 11 (by kernel_rfl) rfl rfl (fun w' hw' => hCl w' (Ext.trans hx hw')) ?_
          refine AX.m 3 (by kernel_rfl) rfl rfl (ld_box rfl hbt rfl) rfl ?_
          refine AX.m 4 (by kernel_rfl) rfl rfl (ldS_box rfl hb12 (Nat.le_of_ble_eq_true rfl) rfl) rfl ?_
          refine AX.o (by kernel_rfl) rfl ?_
          rintro v w12 ⟨⟨a3, c3, rfl, hCn⟩, hx⟩
          replace H := H.ext hx; replace hbt := hbt.ext hx; replace hb5 := hb5.ext hx; replace hb6 := hb6.ext hx; replace hb12 := hb12.ext hx; replace hm := hm.ext hx; replace hE := hE.ext hx; replace hO2 := hO2.ext hx; replace hb60 := hb60.ext hx
          refine AL.o 12 (by kernel_rfl) rfl ?_
          refine RL.updM (k := ⟨b.prod, p⟩) (v := .slice a3 (L2.drop (L2.length - 5)).length c3) rfl hm rfl rfl ?_
          intro w13 hu hm2
          replace hbt := hbt.upd hu (fun e => hm.neb hbt e.symm)
          replace hE := hE.upd hu (fun j hj e => hm.nea hE (e ▸ hj))
          replace hO2 := hO2.mp hm hu
          replace hCn := hCn.upd hu (fun j hj e => hm.nea hCn (e ▸ hj))
          replace H := Upd.upd H hu (fun j _ hj => by rw [hZ]; exact .inr (.inl hj))
          refine RL.nil ?_
          refine AL.nil (by kernel_rfl) ?_
          refine WP.regionS ?_
          refine RL.r (asgI rfl) rfl ?_
          refine RL.nil ?_
          refine WP.ret ?_
          have hE1 : doneE D p b off = 0 := by unfold doneE; rw [if_neg (by assumption), if_neg (by assumption), if_neg (by assumption)]
          have hnew : ∀ j, inBlock a3 j → w0.heap.size ≤ j := fun j hj => Nat.le_trans hs11 (hCn.blk hj).1
          have htl := tl_put (s := (⟨b.prod, 0, p, a3, c3, L2.drop (L2.length - 5)⟩ : Maker)) hbt hE hm2 hr hmnod hO2 (hCn.mono (Nat.le_trans hBs hs11)) w0.heap.size (fun x hx j hj => ((hL.own.own x hx).blk hj).2) hnew
          refine fin1_ret rfl ⟨⟨intE hE1.symm, terr i m a (ePut Hs ⟨b.prod, 0, p, a3, c3, L2.drop (L2.length - 5)⟩), ⟨m, a, c, _, ?_, ?_, rfl⟩, by rw [hZ]; exact terr_put hnew⟩, H⟩
          · unfold doneD
            rw [if_pos ⟨hE1, by assumption⟩]
            exact htl
          · unfold doneD
            rw [if_pos ⟨hE1, by assumption⟩, ePut_pl, hHS]
            unfold pushL
            rw [hL2]
            rfl
end Go.Proofs.Ytbggmjnhfacjpaa
