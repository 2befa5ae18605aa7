/-
  The walks of Ask and Epochs.
-/
import Derived.Test.YtbggmjnhfacjpaaDed1
set_option linter.unusedVariables false
namespace Go.Proofs.Ytbggmjnhfacjpaa
open Go Go.Eng Go.RowKit
/-- what is told of a batch: where it was appended, whether it was, what is wrong -/
def askA (D : Ds) (p : Part) (b : Bat) : Int × Bool × Int :=
  if b.prod = 0 then (0, false, 0)
  else if ¬ isD D.E b.prod then (0, false, 80)
  else if b.epoch < ep D.E b.prod then (0, false, 81)
  else if ep D.E b.prod < b.epoch then (0, false, 80)
  else if b.seq = dueL (lastD D.S ⟨b.prod, p⟩) then (0, false, 0)
  else match idxB (lastD D.S ⟨b.prod, p⟩) b with
    | none => (0, false, 82)
    | some i => ((((lastD D.S ⟨b.prod, p⟩)[i]?).map Did.off).getD 0, true, 0)
theorem askV {x : Int × Bool × Int} {r e : Int} {t : Bool} (h : x = (r, t, e)) : Value.tuple #[.int .i64 r, .bool t, .int .i64 e] = .tuple #[.int .i64 x.1, .bool (decide (x.2.1 = true)), .int .i64 x.2.2] := by rw [h]; cases t <;> rfl
theorem idxB_some {l : List Did} {b : Bat} {i : Nat} (h : idxB l b = some i) : ∃ hi : i < l.length, isB b l[i] := by
  unfold idxB at h
  rw [List.findIdx?_eq_some_iff_getElem] at h
  obtain ⟨hi, h1, _⟩ := h
  exact ⟨hi, by simpa using h1⟩
theorem isD_at {E : List Int} {id : Int} (h : isD E id) : ∃ j : Nat, ∃ hj : j < E.length, id - 1 = (j : Int) ∧ ep E id = E[j] := by
  refine ⟨(id - 1).toNat, ?_, ?_, ?_⟩
  · unfold isD at h; omega
  · unfold isD at h; omega
  · unfold ep
    rw [List.getElem?_eq_getElem (by unfold isD at h; omega)]
    rfl
theorem row_get {B i m c cc : Nat} {w : World} {a : Option Addr} {E : List Int} {Hs : List Maker} {lb : List (DKey × Value × Nat)} (hL : Tl B w i m a c E Hs) (hm : MpD B w m lb cc) (hr : Rep lb Hs) (k : DKey) : ∃ la lc, (getB lb k).getD (.slice none 0 0) = .slice la (lastD (Hs.map Maker.pl) k).length lc ∧ Own B w 53 la lc (lastD (Hs.map Maker.pl) k) ∧ (∀ j, inBlock la j → ∃ x ∈ Hs, key x = k ∧ inBlock x.la j) ∧ (∀ y ∈ eDel Hs k, ∀ j, inBlock y.la j → ¬ inBlock la j) := by
  have hg := rep_get hr hm.nod k
  cases hq : eGet Hs k with
  | none =>
    rw [hq] at hg
    have h0 : lastD (Hs.map Maker.pl) k = [] := lastD_none (by rw [eGet_pl, hq]; rfl)
    refine ⟨none, 0, by rw [hg, h0]; rfl, by rw [h0]; exact Own.nil _ _ _, fun j hj => ?_, fun y hy j _ hj => ?_⟩
    · obtain ⟨p, hp, _⟩ := hj; cases hp
    · obtain ⟨p, hp, _⟩ := hj; cases hp
  | some x =>
    rw [hq] at hg
    obtain ⟨hx, hk⟩ := eGet_some hq
    have h0 : lastD (Hs.map Maker.pl) k = x.last := lastD_some (x := x.pl) (by rw [eGet_pl, hq]; rfl)
    refine ⟨x.la, x.lc, by rw [hg, h0]; rfl, by rw [h0]; exact hL.own.own x hx, fun j hj => ⟨x, hx, hk, hj⟩, fun y hy j hj hj2 => ?_⟩
    obtain ⟨hy1, hy2⟩ := eDel_mem.1 hy
    exact pw_of (fun x y h => apM.symm h) hL.own.ap hy1 hx (fun e => hy2 (by rw [e]; exact hk)) j hj hj2
set_option maxRecDepth 20000 in
theorem pAsk (w0 : World) (B i : Nat) (Z : Nat → Prop) (D : Ds) (hT : Tg B w0 i Z D) (K : Int) (M : Nat) (hok : okD K M D) (hK : 0 ≤ K ∧ K ≤ 4611686018427387904) (p : Part) (b : Bat) :
    Ct Try.prog 20 #[.pointer (some ⟨i, 0, none⟩), .agg (Lies.enc p).toArray, .agg (Lies.enc b).toArray] w0 fun v w' => v = .tuple #[.int .i64 (askA D p b).1, .bool (decide ((askA D p b).2.1 = true)), .int .i64 (askA D p b).2.2] ∧ Ext w0 w' := by
  refine Ct.intro3 Try.func20 Try.ntmps20 rfl rfl (by decide) rfl ?_
  have H : Ext w0 w0 := Ext.refl w0
  obtain ⟨m, a, c, Hs, hL, hHS, rfl⟩ := hT.at_
  have hbt := hL.box
  obtain ⟨lb, cc, hm, hr⟩ := hL.map
  obtain ⟨la, lc, hget, hrow, hapt, hapd⟩ := row_get hL hm hr ⟨b.prod, p⟩
  rw [hHS] at hget hrow
  have hll := lastD_len hok ⟨b.prod, p⟩
  have hdue := lastD_due hok hK.1 ⟨b.prod, p⟩
  refine WP.regionS ?_
  refine RL.boxS w0.heap.size H.size rfl rfl ?_
  intro w1 i4 hi4 hx hb4
  have net_4 := hbt.ne hi4
  replace H := H.ext hx; replace hbt := hbt.ext hx; clear hx
  refine RL.boxS w0.heap.size H.size rfl rfl ?_
  intro w2 i5 hi5 hx hb5
  have net_5 := hbt.ne hi5
  have ne4_5 := hb4.ne hi5
  replace H := H.ext hx; replace hbt := hbt.ext hx; replace hb4 := hb4.ext hx; clear hx
  refine RL.r (asgI rfl) rfl ?_
  refine RL.r (asgB rfl) rfl ?_
  refine RL.r (asgI rfl) rfl ?_
  refine RL.nil ?_
  refine WP.seq ?_
  refine WP.regionS ?_
  refine RL.r (fa_box rfl) rfl ?_
  refine RL.m (ld_box rfl hb5 rfl) rfl ?_
  refine RL.r (eql rfl rfl) rfl ?_
  refine RL.nil ?_
  refine WP.cond rfl (fun hc => ?_) (fun hc => ?_)
  · refine WP.regionS ?_
    refine RL.r (asgI rfl) rfl ?_
    refine RL.r (asgB rfl) rfl ?_
    refine RL.r (asgI rfl) rfl ?_
    refine RL.nil ?_
    refine WP.ret ?_
    refine fin3_ret rfl rfl rfl ⟨askV (by unfold askA; rw [if_pos hc]), H⟩
  · refine WP.skip ?_
    refine WP.seq ?_
    refine WP.regionS ?_
    refine RL.r (mvP rfl) rfl ?_
    refine RL.r (fa_box rfl) rfl ?_
    refine RL.m (ld_box rfl hb5 rfl) rfl ?_
    -- call (*stagecoach/dedup.Table).is (tmp 15) (tmp 17)
    refine RL.call (pIs _ B i a c m D.E hbt b.prod) rfl rfl ?_
    rintro _ w3 ⟨rfl, hx⟩
    replace H := H.ext hx; replace hbt := hbt.ext hx; replace hb4 := hb4.ext hx; replace hb5 := hb5.ext hx
    first | refine RL.r (notD rfl) rfl ?_ | refine RL.r (not_ rfl) rfl ?_
    refine RL.nil ?_
    refine WP.cond rfl (fun hc => ?_) (fun hc => ?_)
    · refine WP.regionS ?_
      refine RL.r (asgI rfl) rfl ?_
      refine RL.r (asgB rfl) rfl ?_
      refine RL.r (asgI rfl) rfl ?_
      refine RL.nil ?_
      refine WP.ret ?_
      refine fin3_ret rfl rfl rfl ⟨askV (by unfold askA; rw [if_neg (by assumption), if_pos hc]), H⟩
    · refine WP.skip ?_
      refine WP.seq ?_
      refine WP.seq ?_
      refine WP.draw (by kernel_rfl) ?_
      refine QL.r (mvP rfl) rfl ?_
      refine QL.r (nilck rfl) rfl ?_
      refine QL.r (fa_box rfl) rfl ?_
      refine QL.m (ld_box rfl hbt rfl) rfl ?_
      refine QL.r (fa_box rfl) rfl ?_
      refine QL.m (ld_box rfl hb5 rfl) rfl ?_
      refine QL.r (sub rfl rfl (by have hid := Classical.not_not.1 (show ¬ ¬ isD D.E b.prod from hc); unfold isD at hid; have := hok.len; omega)) rfl ?_
      have hid := Classical.not_not.1 (show ¬ ¬ isD D.E b.prod from hc)
      obtain ⟨j, hj, hje, hep⟩ := isD_at hid
      obtain ⟨q, hq⟩ := hL.eps.sl.isAddr (by decide) hj
      subst hq
      refine QL.r (ix rfl rfl hje hj) rfl ?_
      refine QL.m (ld_e0 rfl hL.eps.sl H rfl hj rfl) rfl ?_
      refine QL.r (asgI rfl) rfl ?_
      refine QL.nil ?_; intro w4 hx; replace H := H.ext hx; replace hbt := hbt.ext hx; replace hb4 := hb4.ext hx; replace hb5 := hb5.ext hx
      refine WP.block ?_
      refine WP.regionS ?_
      refine RL.r (mvI rfl) rfl ?_
      refine RL.r (fa_box rfl) rfl ?_
      refine RL.m (ld_box rfl hb5 rfl) rfl ?_
      refine RL.r (gtr rfl rfl) rfl ?_
      refine RL.r (asgB rfl) rfl ?_
      refine RL.nil ?_
      refine WP.cond rfl (fun hc => ?_) (fun hc => ?_)
      · refine WP.regionS ?_
        refine RL.r (asgI rfl) rfl ?_
        refine RL.r (asgB rfl) rfl ?_
        refine RL.r (asgI rfl) rfl ?_
        refine RL.nil ?_
        refine WP.ret ?_
        refine fin3_ret rfl rfl rfl ⟨askV (by unfold askA; rw [if_neg (by assumption), if_neg (by assumption), hep, if_pos hc]), H⟩
      · refine WP.regionS ?_
        refine RL.r (mvI rfl) rfl ?_
        refine RL.r (fa_box rfl) rfl ?_
        refine RL.m (ld_box rfl hb5 rfl) rfl ?_
        refine RL.r (lss rfl rfl) rfl ?_
        refine RL.r (asgB rfl) rfl ?_
        refine RL.nil ?_
        refine WP.cond rfl (fun hc => ?_) (fun hc => ?_)
        · refine WP.regionS ?_
          refine RL.r (asgI rfl) rfl ?_
          refine RL.r (asgB rfl) rfl ?_
          refine RL.r (asgI rfl) rfl ?_
          refine RL.nil ?_
          refine WP.ret ?_
          refine fin3_ret rfl rfl rfl ⟨askV (by unfold askA; rw [if_neg (by assumption), if_neg (by assumption), hep, if_neg (by assumption), if_pos hc]), H⟩
        · refine WP.skip ?_
          refine WP.seq ?_
          refine WP.draw (by kernel_rfl) ?_
          refine QL.r (mvP rfl) rfl ?_
          refine QL.r (nilck rfl) rfl ?_
          refine QL.r (fa_box rfl) rfl ?_
          refine QL.m (ld_box rfl hbt rfl) rfl ?_
          refine QL.r (fa_box rfl) rfl ?_
          refine QL.m (ld_box rfl hb5 rfl) rfl ?_
          refine QL.m (ldS_box rfl hb4 (Nat.le_of_ble_eq_true rfl) rfl) rfl ?_
          refine QL.r (bld rfl rfl) rfl ?_
          refine QL.m (lkL (k := ⟨b.prod, p⟩) rfl (hm.ext H) rfl (hget)) rfl ?_
          refine QL.r (asgL rfl) rfl ?_
          refine QL.nil ?_; intro w5 hx; replace H := H.ext hx; replace hbt := hbt.ext hx; replace hb4 := hb4.ext hx; replace hb5 := hb5.ext hx
          refine WP.seq ?_
          refine WP.seq ?_
          refine WP.draw (by kernel_rfl) ?_
          refine QL.r (fa_box rfl) rfl ?_
          refine QL.m (ld_box rfl hb5 rfl) rfl ?_
          refine QL.r (mvL rfl) rfl ?_
          -- call stagecoach/dedup.due (tmp 50)
          refine QL.call (fun w' hw' => pDue w' la lc (lastD D.S ⟨b.prod, p⟩) (hrow.sl.ext (H.ext hw')) (by omega) (by omega)) rfl rfl ?_
          refine QL.r (eql rfl rfl) rfl ?_
          refine QL.nil ?_; intro w7 hx; replace H := H.ext hx; replace hbt := hbt.ext hx; replace hb4 := hb4.ext hx; replace hb5 := hb5.ext hx
          refine WP.cond rfl (fun hc => ?_) (fun hc => ?_)
          · refine WP.regionS ?_
            refine RL.r (asgI rfl) rfl ?_
            refine RL.r (asgB rfl) rfl ?_
            refine RL.r (asgI rfl) rfl ?_
            refine RL.nil ?_
            refine WP.ret ?_
            refine fin3_ret rfl rfl rfl ⟨askV (by unfold askA; rw [if_neg (by assumption), if_neg (by assumption), hep, if_neg (by assumption), if_neg (by assumption), if_pos hc]), H⟩
          · refine WP.skip ?_
            refine WP.regionS ?_
            refine RL.r (mvL rfl) rfl ?_
            refine RL.r (mkfn) rfl ?_
            -- call slices.IndexFunc[[]stagecoach/api.Did,stagecoach/api.Did] (tmp 53) (tmp 54)
            refine RL.call (pIdxD _ _ i5 b hb5 la lc (lastD D.S ⟨b.prod, p⟩) (hrow.sl.ext H) (by omega)) rfl rfl ?_
            rintro _ w8 ⟨rfl, hx⟩
            replace H := H.ext hx; replace hbt := hbt.ext hx; replace hb4 := hb4.ext hx; replace hb5 := hb5.ext hx
            refine RL.r (asgI rfl) rfl ?_
            refine RL.nil ?_
            refine WP.seq ?_
            refine WP.regionS ?_
            refine RL.r (mvI rfl) rfl ?_
            refine RL.r (lss rfl rfl) rfl ?_
            refine RL.nil ?_
            refine WP.cond rfl (fun hc => ?_) (fun hc => ?_)
            · refine WP.regionS ?_
              refine RL.r (asgI rfl) rfl ?_
              refine RL.r (asgB rfl) rfl ?_
              refine RL.r (asgI rfl) rfl ?_
              refine RL.nil ?_
              refine WP.ret ?_
              have hno : idxB (lastD D.S ⟨b.prod, p⟩) b = none := by
                cases hq : idxB (lastD D.S ⟨b.prod, p⟩) b with
                | none => rfl
                | some n => rw [hq] at hc; simp only [idxV] at hc; omega
              refine fin3_ret rfl rfl rfl ⟨askV (by unfold askA; rw [if_neg (by assumption), if_neg (by assumption), hep, if_neg (by assumption), if_neg (by assumption), if_neg (by assumption), hno]), H⟩
            · refine WP.skip ?_
              refine WP.regionS ?_
              refine RL.r (mvL rfl) rfl ?_
              refine RL.r (mvI rfl) rfl ?_
              obtain ⟨n, hn⟩ : ∃ n, idxB (lastD D.S ⟨b.prod, p⟩) b = some n := by
                cases hq : idxB (lastD D.S ⟨b.prod, p⟩) b with
                | none => rw [hq] at hc; exact absurd (show (-1 : Int) < 0 by omega) hc
                | some n => exact ⟨n, rfl⟩
              obtain ⟨hnl, hnb⟩ := idxB_some hn
              obtain ⟨q2, hq2⟩ := hrow.sl.isAddr (by decide) hnl
              subst hq2
              refine RL.r (ix rfl rfl (show idxV (idxB (lastD D.S ⟨b.prod, p⟩) b) = (n : Int) by rw [hn]; rfl) hnl) rfl ?_
              refine RL.r (fa_el hrow.sl.1 rfl) rfl ?_
              refine RL.m (ld_el rfl hrow.sl H rfl hnl rfl) rfl ?_
              refine RL.r (asgI rfl) rfl ?_
              refine RL.r (asgB rfl) rfl ?_
              refine RL.r (asgI rfl) rfl ?_
              refine RL.nil ?_
              refine WP.ret ?_
              refine fin3_ret rfl rfl rfl ⟨askV (by unfold askA; rw [if_neg (by assumption), if_neg (by assumption), hep, if_neg (by assumption), if_neg (by assumption), if_neg (by assumption), hn]; show ((((lastD D.S ⟨b.prod, p⟩)[n]?).map Did.off).getD 0, true, (0 : Int)) = _; rw [List.getElem?_eq_getElem hnl]; rfl), H⟩
theorem pEpochs (w0 : World) (B i : Nat) (Z : Nat → Prop) (D : Ds) (hT : Tg B w0 i Z D) (hlen : D.E.length ≤ 1000000) :
    Ct Try.prog 23 #[.pointer (some ⟨i, 0, none⟩)] w0 fun v w' => (∃ a' c', v = .slice a' D.E.length c' ∧ Own w0.heap.size w' 3 a' c' D.E) ∧ Ext w0 w' := by
  refine Ct.intro1 Try.func23 Try.ntmps23 rfl rfl (by decide) rfl ?_
  have H : Ext w0 w0 := Ext.refl w0
  obtain ⟨m, a, c, Hs, hL, hHS, rfl⟩ := hT.at_
  have hbt := hL.box
  obtain ⟨lb, cc, hm, hr⟩ := hL.map
  refine WP.regionS ?_
  refine RL.r (asgL rfl) rfl ?_
  refine RL.nil ?_
  refine WP.regionS ?_
  refine RL.r (mvP rfl) rfl ?_
  refine RL.r (nilck rfl) rfl ?_
  refine RL.r (fa_box rfl) rfl ?_
  refine RL.m (ld_box rfl hbt rfl) rfl ?_
  -- call slices.Clone[[]int,int] (tmp 6)
  have hsz := H.size
  refine RL.call (pCloneI _ a c D.E (hL.eps.sl.ext H) hlen) rfl rfl ?_
  rintro v w1 ⟨⟨a2, c2, rfl, ho⟩, hx⟩
  replace H := H.ext hx; replace hbt := hbt.ext hx
  refine RL.r (asgL rfl) rfl ?_
  refine RL.nil ?_
  refine WP.ret ?_
  refine fin1_ret rfl ⟨⟨_, _, rfl, ho.mono hsz⟩, H⟩
end Go.Proofs.Ytbggmjnhfacjpaa
