/-
  The walks of a table's functions: New, Load, Get, Put, Behind.
-/
import Derived.Test.YtmjamhgihbapjaaTab0
set_option linter.unusedVariables false
namespace Go.Proofs.Ytmjamhgihbapjaa
open Go Go.Eng Go.RowKit
theorem tupE {p : Option Addr} {x y : Int} (h : x = y) : Value.tuple #[.pointer p, .int .i64 x] = Value.tuple #[.pointer p, .int .i64 y] := by rw [h]
theorem tup2 {x y : Int} {a b : Bool} (h : x = y) (k : a = b) : Value.tuple #[.int .i64 x, .bool a] = Value.tuple #[.int .i64 y, .bool b] := by rw [h, k]
theorem tb_new {B : Nat} {w : World} {i m : Nat} (hb : Box B w i 60 [.map (some m)]) (hm : MpB Try.prog 62 B w m ([] : List (MKey × Value × Nat)) 0) : Tb B w i m [] :=
  ⟨hb, ⟨_, _, hm, List.Perm.refl _⟩, List.Pairwise.nil, fun x hx => by cases hx⟩
theorem pairwise_take {l : List Mrk} {j : Nat} (hj : j < l.length) (hs : (l.take j).Pairwise bef) (h : 0 < j → bef (l[j - 1]'(by omega)) l[j]) : (l.take (j + 1)).Pairwise bef := by
  rw [List.take_succ_eq_append_getElem hj, List.pairwise_append]
  refine ⟨hs, by simp, ?_⟩
  intro x hx y hy
  obtain rfl := List.mem_singleton.1 hy
  obtain ⟨i, hi, rfl⟩ := List.getElem_of_mem hx
  rw [List.length_take] at hi
  rw [List.getElem_take]
  have h0 := h (by omega)
  rcases Nat.lt_or_ge i (j - 1) with h1 | h1
  · have h2 := List.pairwise_iff_getElem.1 hs i (j - 1) (by rw [List.length_take]; omega) (by rw [List.length_take]; omega) h1
    rw [List.getElem_take, List.getElem_take] at h2
    exact bef_trans h2 h0
  · obtain rfl : i = j - 1 := by omega
    exact h0
/-- a mark behind all is put -/
theorem putS_last {S : List Mrk} {m : Mrk} (h : ∀ x ∈ S, bef x m) : putS S m = S ++ [m] := by
  unfold putS
  rw [List.filter_eq_self.2 (fun x hx => by simpa using h x hx), List.filter_eq_nil_iff.2 (fun x hx => by simpa using bef_asymm (h x hx))]
theorem putS_take {l : List Mrk} {j : Nat} (hj : j < l.length) (hs : (l.take (j + 1)).Pairwise bef) : putS (l.take j) l[j] = l.take (j + 1) := by
  rw [List.take_succ_eq_append_getElem hj] at hs ⊢
  exact putS_last fun x hx => (List.pairwise_append.1 hs).2.2 x hx _ (by simp)
/-- behind a put -/
theorem tb_put {B : Nat} {w : World} {i m c : Nat} {lb0 : List (MKey × Value × Nat)} {c0 : Nat} {S : List Mrk} {x : Mrk} (hb : Box B w i 60 [.map (some m)]) (h0 : (lb0.map (·.1)).Nodup) (hr : Rep lb0 S) (hm : MpB Try.prog 62 B w m (setB lb0 c0 x.key (.int .i64 x.off)) c) (hs : S.Pairwise bef) (hk : ∀ y ∈ S, mayM y) (hx : mayM x) : Tb B w i m (putS S x) :=
  ⟨hb, ⟨_, _, hm, rep_put hr h0 _ _⟩, putS_sorted hs _, fun y hy => by
    rcases putS_mem.1 hy with rfl | ⟨h, _⟩
    · exact hx
    · exact hk y h⟩
theorem pNew (w0 : World) :
    Ct Try.prog 15 #[] w0 fun v w' => (∃ i m, v = .pointer (some ⟨i, 0, none⟩) ∧ Tb w0.heap.size w' i m []) ∧ Ext w0 w' := by
  refine Ct.intro1 Try.func15 Try.ntmps15 rfl rfl (by decide) rfl ?_
  have H : Ext w0 w0 := Ext.refl w0
  refine WP.regionS ?_
  refine RL.r (asgP rfl) rfl ?_
  refine RL.nil ?_
  refine WP.regionS ?_
  refine RL.makeM w0.heap.size H.size rfl 62 MKey ?_
  intro w1 i1 hi1 hx hm
  replace H := H.ext hx; clear hx
  refine RL.r (bld rfl rfl) rfl ?_
  refine RL.boxS w0.heap.size H.size rfl rfl ?_
  intro w2 i3 hi3 hx hb3
  replace H := H.ext hx; replace hm := hm.ext hx; clear hx
  refine RL.r (asgP rfl) rfl ?_
  refine RL.nil ?_
  refine WP.ret ?_
  refine fin1_ret rfl ⟨⟨_, _, rfl, tb_new hb3 hm⟩, H⟩
theorem pLoad (w0 : World) (a : Option Addr) (c0 : Nat) (l : List Mrk) (hl : Sl w0 a l) (hlen : l.length ≤ 100000) :
    Ct Try.prog 10 #[.slice a l.length c0] w0 fun v w' => ((loadE l = 0 ∧ ∃ i m, v = .tuple #[.pointer (some ⟨i, 0, none⟩), .int .i64 0] ∧ Tb w0.heap.size w' i m l) ∨ (loadE l = 1 ∧ v = .tuple #[.pointer none, .int .i64 1])) ∧ Ext w0 w' := by
  refine Ct.intro2 Try.func10 Try.ntmps10 rfl rfl (by decide) rfl ?_
  have H : Ext w0 w0 := Ext.refl w0
  refine WP.regionS ?_
  refine RL.r (asgP rfl) rfl ?_
  refine RL.r (asgI rfl) rfl ?_
  refine RL.nil ?_
  refine WP.regionS ?_
  -- call stagecoach/offsets.New 
  refine RL.call (pNew _) rfl rfl ?_
  rintro v w1 ⟨⟨i, m, rfl, hT⟩, hx⟩
  replace H := H.ext hx
  refine RL.r (asgP rfl) rfl ?_
  refine RL.nil ?_
  refine WP.seq ?_
  refine WP.regionS ?_
  refine RL.r (mvL rfl) rfl ?_
  refine RL.r (len_sl rfl) rfl ?_
  refine RL.r (mvI rfl) rfl ?_
  refine RL.nil ?_
  refine WP.block ?_
  refine WP.loop (fun k e' w' => ∃ j : Nat,  j + k = l.length ∧ Head [2, 3, 5, 6, 10, 11, 12, 13, 14, 15, 16, 17, 18, 19, 20, 21, 22, 23, 24, 25, 26, 27, 28, 29, 30, 31, 32, 33, 34, 35, 36, 37, 38, 39, 40, 41, 42, 43] _ [(10, .int .i64 (j : Int))] e' ∧ Ext w0 w' ∧ Tb w0.heap.size w' i m (l.take j) ∧ ∀ (i : Nat) (h : i < l.length), i < j → mayM l[i] ∧ (0 < i → bef l[i - 1] l[i])) (l.length)
    ⟨0, by omega, Head.intro (AgreeOff.refl _ _) ⟨rfl, trivial⟩, H, hT, fun i h hi => by omega⟩ ?_
  clear H hT
  rintro k e w2 ⟨j, hjk, ⟨jk, rfl⟩, H, hT, hok⟩
  obtain ⟨lb, c, hm, hr⟩ := hT.map
  have hbt := hT.box
  refine WP.regionS ?_
  refine RL.r (lss rfl rfl) rfl ?_
  refine RL.nil ?_
  refine WP.seq ?_
  refine WP.cond rfl (fun hc => ?_) (fun hc => ?_)
  · refine WP.skip ?_
    refine WP.seq ?_
    refine WP.block ?_
    refine WP.regionS ?_
    refine RL.r (mvI rfl) rfl ?_
    have hj : j < l.length := by omega
    have hj1 : j - 1 < l.length := by omega
    obtain ⟨p, rfl⟩ := hl.isAddr (by decide) hj
    refine RL.r (ix rfl rfl rfl (by omega)) rfl ?_
    refine RL.m (ldS_el rfl hl H rfl rfl (by omega)) rfl ?_
    refine RL.alloc w0.heap.size H.size rfl rfl ?_
    intro w3 i6 hi6 hx hb6
    have net_6 := hbt.ne hi6
    refine RL.r (asgI rfl) rfl ?_
    refine RL.storeS rfl hb6 rfl rfl rfl rfl ?_
    intro w4 hu hb6
    replace hx := hx.box hu (Nat.le_of_eq hi6.symm)
    replace H := H.ext hx; replace hbt := hbt.ext hx; replace hm := hm.ext hx; replace hT := hT.ext hx; clear hx hu
    refine RL.nil ?_
    refine WP.seq ?_
    refine WP.seq ?_
    refine WP.draw (by kernel_rfl) ?_
    refine QL.m (ldS_box rfl hb6 (Nat.le_of_ble_eq_true rfl) rfl) rfl ?_
    -- call stagecoach/offsets.may (tmp 15)
    refine QL.call (fun w' hw' => pMayM w' _) rfl rfl ?_
    first | refine QL.r (notD rfl) rfl ?_ | refine QL.r (not_ rfl) rfl ?_
    refine QL.r (mvB rfl) rfl ?_
    refine QL.gg (gwF rfl rfl) (fun hg => (mvI rfl).does _) rfl ?_
    refine QL.gg (gwF rfl rfl) (fun hg => (gtr (gs hg rfl) rfl).does _) rfl ?_
    refine QL.gg (gwF rfl rfl) (fun hg => (mvv (gs hg rfl)).does _) rfl ?_
    refine QL.gg (gwTT rfl rfl) (fun hg => (mvL rfl).does _) rfl ?_
    refine QL.gg (gwTT rfl rfl) (fun hg => (mvI rfl).does _) rfl ?_
    refine QL.gg (gwTT rfl rfl) (fun hg => (sub (gs hg rfl) rfl (by omega)).does _) rfl ?_
    refine QL.gg (gwTT rfl rfl) (fun hg => (ix (gs hg rfl) (gs hg rfl) (show ((j : Int) - 1) = ((j - 1 : Nat) : Int) by omega) (by omega)).does _) rfl ?_
    refine QL.gg (gwTT rfl rfl) (fun hg => ldS_el (gs hg rfl) hl H rfl rfl hj1) rfl ?_
    refine QL.gg (gwTT rfl rfl) (fun hg => ldS_box rfl hb6 (Nat.le_of_ble_eq_true rfl) rfl) rfl ?_
    -- call stagecoach/offsets.order (tmp 26) (tmp 27)
    refine QL.gcall (gwTT rfl rfl) (fun hg w' hw' => pOrder w' _ _) (fun hg => EvL.cons (gs hg rfl) (EvL.cons (gs hg rfl) (EvL.nil))) rfl ?_
    refine QL.gg (gwTT rfl rfl) (fun hg => (geq (gs hg rfl) rfl).does _) rfl ?_
    refine QL.gg (gwF rfl rfl) (fun hg => (pickAnd (gs hg rfl) (fun hn => gs ⟨hg, hn⟩ rfl)).does _) rfl ?_
    refine QL.r (pickOr rfl (fun hn => gs hn rfl)) rfl ?_
    refine QL.nil ?_; intro w7 hx; replace H := H.ext hx; replace hbt := hbt.ext hx; replace hb6 := hb6.ext hx; replace hm := hm.ext hx; replace hT := hT.ext hx
    refine WP.cond rfl (fun hc => ?_) (fun hc => ?_)
    · refine WP.regionS ?_
      refine RL.r (asgP rfl) rfl ?_
      refine RL.r (asgI rfl) rfl ?_
      refine RL.nil ?_
      refine WP.ret ?_
      refine fin2_ret rfl rfl ⟨.inr ⟨?_, rfl⟩, H⟩
      unfold loadE
      rw [if_neg]
      intro h
      obtain ⟨h1, h2⟩ := h j hj
      rcases hc with hc | ⟨hc, hc'⟩
      · exact hc h1
      · have := (ordM_bef l[j - 1] l[j]).2 (h2 (by omega))
        omega
    · refine WP.skip ?_
      refine WP.any ?_
      intro w8 hx; replace H := H.ext hx; replace hbt := hbt.ext hx; replace hb6 := hb6.ext hx; replace hm := hm.ext hx; replace hT := hT.ext hx
      refine AL.p 0 (by kernel_rfl) rfl (mvP rfl) rfl ?_
      refine AL.p 1 (by kernel_rfl) rfl (nilck rfl) rfl ?_
      refine AL.p 2 (by kernel_rfl) rfl (fa_box rfl) rfl ?_
      refine AL.p 4 (by kernel_rfl) rfl (fa_box rfl) rfl ?_
      refine AL.p 6 (by kernel_rfl) rfl (fa_box rfl) rfl ?_
      refine AL.p 9 (by kernel_rfl) rfl (fa_box rfl) rfl ?_
      refine AL.m 3 (by kernel_rfl) rfl (ld_box rfl hbt rfl) rfl ?_
      refine AL.m 5 (by kernel_rfl) rfl (ld_box rfl hb6 rfl) rfl ?_
      refine AL.m 7 (by kernel_rfl) rfl (ldS_box rfl hb6 (Nat.le_of_ble_eq_true rfl) rfl) rfl ?_
      refine AL.p 8 (by kernel_rfl) rfl (bld rfl rfl) rfl ?_
      refine AL.m 10 (by kernel_rfl) rfl (ld_box rfl hb6 rfl) rfl ?_
      refine AL.o 11 (by kernel_rfl) rfl ?_
      refine RL.updM (k := l[j].key) (v := .int .i64 l[j].off) rfl hm rfl rfl ?_
      intro w9 hu hm'
      have hgood : mayM l[j] ∧ (0 < j → bef l[j - 1] l[j]) := ⟨Classical.byContradiction fun h => hc (.inl h), fun h0 => (ordM_bef _ _).1 (Int.not_le.1 fun h => hc (.inr ⟨by omega, by omega⟩))⟩
      replace hbt := hbt.upd hu (fun e => hm.neb hbt e.symm)
      replace H := H.mp hu hm.old
      have hsr := pairwise_take hj hT.srt hgood.2
      have hT' := tb_put hbt hm.nod hr hm' hT.srt hT.may hgood.1
      rw [putS_take hj hsr] at hT'
      refine RL.nil ?_
      refine AL.nil (by kernel_rfl) ?_
      refine WP.region ?_
      refine RL.r (add rfl rfl (by omega)) rfl ?_
      refine RL.r (mvI rfl) rfl ?_
      refine RL.nil ?_
      refine ⟨k - 1, by omega, j + 1, by omega, Head.intro (by repeat (first | with_reducible exact AgreeOff.mix _ _ _ | refine AgreeOff.look rfl ?_ | refine AgreeOff.mixs rfl ?_)) ⟨rfl, trivial⟩, H, hT', fun i h hi => ?_⟩
      by_cases hij : i < j
      · exact hok i h hij
      · obtain rfl : i = j := by omega
        exact hgood
  · refine WP.exit ?_
    refine WP.regionS ?_
    refine RL.r (mvP rfl) rfl ?_
    refine RL.r (asgP rfl) rfl ?_
    refine RL.r (asgI rfl) rfl ?_
    refine RL.nil ?_
    refine WP.ret ?_
    refine fin2_ret rfl rfl ⟨.inl ⟨?_, i, m, rfl, ?_⟩, H⟩
    · unfold loadE
      rw [if_pos (fun i h => hok i h (by omega))]
    · rw [List.take_of_length_le (by omega)] at hT
      exact hT
theorem pGet (w0 : World) (B i m : Nat) (S : List Mrk) (g : ByteArray) (p : Part) (hT : Tb B w0 i m S) :
    Ct Try.prog 16 #[.pointer (some ⟨i, 0, none⟩), .string g, .agg (Lies.enc p).toArray] w0 fun v w' => v = .tuple #[.int .i64 ((getS S ⟨g, p.topic, p.n⟩).getD 0), .bool (decide (getS S ⟨g, p.topic, p.n⟩ ≠ none))] ∧ Ext w0 w' := by
  refine Ct.intro2 Try.func16 Try.ntmps16 rfl rfl (by decide) rfl ?_
  have H : Ext w0 w0 := Ext.refl w0
  obtain ⟨lb, c, hm, hr⟩ := hT.map
  have hbt := hT.box
  refine WP.regionS ?_
  refine RL.boxS w0.heap.size H.size rfl rfl ?_
  intro w1 i5 hi5 hx hb5
  have net_5 := hbt.ne hi5
  replace H := H.ext hx; replace hm := hm.ext hx; replace hbt := hbt.ext hx; clear hx
  refine RL.r (asgI rfl) rfl ?_
  refine RL.r (asgB rfl) rfl ?_
  refine RL.nil ?_
  refine WP.seq ?_
  refine WP.draw (by kernel_rfl) ?_
  refine QL.r (mvP rfl) rfl ?_
  refine QL.r (nilck rfl) rfl ?_
  refine QL.r (fa_box rfl) rfl ?_
  refine QL.m (ld_box rfl hbt rfl) rfl ?_
  refine QL.r (mvS rfl) rfl ?_
  refine QL.m (ldS_box rfl hb5 (Nat.le_of_ble_eq_true rfl) rfl) rfl ?_
  refine QL.r (bld rfl rfl) rfl ?_
  refine QL.m (lkOI (k := ⟨g, p.topic, p.n⟩) rfl hm rfl (rep_get hr hm.nod _)) rfl ?_
  refine QL.r (mvU rfl) rfl ?_
  refine QL.r (ex0 rfl) rfl ?_
  refine QL.r (ex1 rfl) rfl ?_
  refine QL.r (asgI rfl) rfl ?_
  refine QL.r (asgB rfl) rfl ?_
  refine QL.nil ?_; intro w2 hx; replace H := H.ext hx; replace hm := hm.ext hx; replace hbt := hbt.ext hx; replace hb5 := hb5.ext hx
  refine WP.regionS ?_
  refine RL.r (mvI rfl) rfl ?_
  refine RL.r (mvB rfl) rfl ?_
  refine RL.r (asgI rfl) rfl ?_
  refine RL.r (asgB rfl) rfl ?_
  refine RL.nil ?_
  refine WP.ret ?_
  refine fin2_ret rfl rfl ⟨rfl, H⟩
theorem pBehind (w0 : World) (B i m : Nat) (S : List Mrk) (g : ByteArray) (p : Part) (n : Int) (hT : Tb B w0 i m S) :
    Ct Try.prog 20 #[.pointer (some ⟨i, 0, none⟩), .string g, .agg (Lies.enc p).toArray, .int .i64 n] w0 fun v w' => v = .int .i64 (if numB n then max 0 (n - (getS S ⟨g, p.topic, p.n⟩).getD 0) else 0) ∧ Ext w0 w' := by
  refine Ct.intro1 Try.func20 Try.ntmps20 rfl rfl (by decide) rfl ?_
  have H : Ext w0 w0 := Ext.refl w0
  obtain ⟨lb, c, hm, hr⟩ := hT.map
  have hbt := hT.box
  refine WP.regionS ?_
  refine RL.boxS w0.heap.size H.size rfl rfl ?_
  intro w1 i6 hi6 hx hb6
  have net_6 := hbt.ne hi6
  replace H := H.ext hx; replace hm := hm.ext hx; replace hbt := hbt.ext hx; clear hx
  refine RL.r (asgI rfl) rfl ?_
  refine RL.nil ?_
  refine WP.seq ?_
  refine WP.regionS ?_
  refine RL.r (mvI rfl) rfl ?_
  -- call stagecoach/offsets.number (tmp 9)
  refine RL.call (pNum _ n) rfl rfl ?_
  rintro _ w2 ⟨rfl, hx⟩
  replace H := H.ext hx; replace hm := hm.ext hx; replace hbt := hbt.ext hx; replace hb6 := hb6.ext hx
  first | refine RL.r (notD rfl) rfl ?_ | refine RL.r (not_ rfl) rfl ?_
  refine RL.nil ?_
  refine WP.cond rfl (fun hc => ?_) (fun hc => ?_)
  · refine WP.regionS ?_
    refine RL.r (asgI rfl) rfl ?_
    refine RL.nil ?_
    refine WP.ret ?_
    refine fin1_ret rfl ⟨intE (if_neg hc).symm, H⟩
  · refine WP.skip ?_
    refine WP.seq ?_
    refine WP.draw (by kernel_rfl) ?_
    refine QL.r (mvI rfl) rfl ?_
    refine QL.r (mvP rfl) rfl ?_
    refine QL.r (nilck rfl) rfl ?_
    refine QL.r (fa_box rfl) rfl ?_
    refine QL.m (ld_box rfl hbt rfl) rfl ?_
    refine QL.r (mvS rfl) rfl ?_
    refine QL.m (ldS_box rfl hb6 (Nat.le_of_ble_eq_true rfl) rfl) rfl ?_
    refine QL.r (bld rfl rfl) rfl ?_
    have hn : numB n := Classical.not_not.1 hc
    have hgv : numB ((getS S ⟨g, p.topic, p.n⟩).getD 0) := by
      cases hq : getS S ⟨g, p.topic, p.n⟩ with
      | none => exact ⟨by decide, by decide⟩
      | some v => obtain ⟨x, hx, _, rfl⟩ := getS_some hq; exact (hT.may x hx).2.2.2
    have hn1 := hn.1
    have hn2 := hn.2
    have hg1 := hgv.1
    have hg2 := hgv.2
    refine QL.m (lkMI (k := ⟨g, p.topic, p.n⟩) rfl hm rfl (rep_get hr hm.nod _)) rfl ?_
    refine QL.r (sub rfl rfl (by omega)) rfl ?_
    refine QL.r (max_i rfl rfl) rfl ?_
    refine QL.r (asgI rfl) rfl ?_
    refine QL.nil ?_; intro w3 hx; replace H := H.ext hx; replace hm := hm.ext hx; replace hbt := hbt.ext hx; replace hb6 := hb6.ext hx
    refine WP.ret ?_
    refine fin1_ret rfl ⟨intE (by rw [if_pos hn]), H⟩
theorem pPut (w0 : World) (B i m : Nat) (S : List Mrk) (x : Mrk) (hT : Tb B w0 i m S) :
    Ct Try.prog 17 #[.pointer (some ⟨i, 0, none⟩), .agg (Lies.enc x).toArray] w0 fun v w' => (v = .int .i64 (putE S x) ∧ Tb B w' i m (putR S x)) ∧ Upd (· = m) w0 w' := by
  refine Ct.intro1 Try.func17 Try.ntmps17 rfl rfl (by decide) rfl ?_
  have H : Upd (· = m) w0 w0 := Upd.refl _ w0
  obtain ⟨lb, c, hm, hr⟩ := hT.map
  have hbt := hT.box
  refine WP.regionS ?_
  refine RL.boxS w0.heap.size H.size rfl rfl ?_
  intro w1 i3 hi3 hx hb3
  have net_3 := hbt.ne hi3
  replace H := H.ext hx; replace hm := hm.ext hx; replace hbt := hbt.ext hx; clear hx
  refine RL.r (asgI rfl) rfl ?_
  refine RL.nil ?_
  refine WP.regionS ?_
  refine RL.r (fa_box rfl) rfl ?_
  refine RL.m (ld_box rfl hb3 rfl) rfl ?_
  refine RL.r (fa_box rfl) rfl ?_
  refine RL.m (ldS_box rfl hb3 (Nat.le_of_ble_eq_true rfl) rfl) rfl ?_
  refine RL.r (bld rfl rfl) rfl ?_
  refine RL.alloc w0.heap.size H.size rfl rfl ?_
  intro w2 i5 hi5 hx hb5
  have net_5 := hbt.ne hi5
  have ne3_5 := hb3.ne hi5
  refine RL.storeS rfl hb5 rfl rfl rfl rfl ?_
  intro w3 hu hb5
  replace hx := hx.box hu (Nat.le_of_eq hi5.symm)
  replace H := H.ext hx; replace hm := hm.ext hx; replace hbt := hbt.ext hx; replace hb3 := hb3.ext hx; clear hx hu
  refine RL.nil ?_
  refine WP.seq ?_
  refine WP.block ?_
  refine WP.regionS ?_
  refine RL.m (ldS_box rfl hb3 (Nat.le_of_ble_eq_true rfl) rfl) rfl ?_
  -- call stagecoach/offsets.may (tmp 12)
  refine RL.call (pMayM _ x) rfl rfl ?_
  rintro _ w4 ⟨rfl, hx⟩
  replace H := H.ext hx; replace hm := hm.ext hx; replace hbt := hbt.ext hx; replace hb3 := hb3.ext hx; replace hb5 := hb5.ext hx
  first | refine RL.r (notD rfl) rfl ?_ | refine RL.r (not_ rfl) rfl ?_
  refine RL.r (asgB rfl) rfl ?_
  refine RL.nil ?_
  refine WP.cond rfl (fun hc => ?_) (fun hc => ?_)
  · refine WP.regionS ?_
    refine RL.r (asgI rfl) rfl ?_
    refine RL.nil ?_
    refine WP.ret ?_
    have hE : putE S x = 1 := by unfold putE; rw [if_pos hc]
    refine fin1_ret rfl ⟨⟨intE hE.symm, ?_⟩, H⟩
    unfold putR; rw [if_neg (by omega)]; exact ⟨hbt, ⟨lb, c, hm, hr⟩, hT.srt, hT.may⟩
  · refine WP.seq ?_
    refine WP.draw (by kernel_rfl) ?_
    refine QL.r (mvP rfl) rfl ?_
    refine QL.r (nilck rfl) rfl ?_
    refine QL.r (fa_box rfl) rfl ?_
    refine QL.m (ld_box rfl hbt rfl) rfl ?_
    refine QL.m (ldS_box rfl hb5 (Nat.le_of_ble_eq_true rfl) rfl) rfl ?_
    refine QL.m (lkMI (k := x.key) rfl hm rfl (rep_get hr hm.nod _)) rfl ?_
    refine QL.r (fa_box rfl) rfl ?_
    refine QL.m (ld_box rfl hb3 rfl) rfl ?_
    refine QL.r (gtr rfl rfl) rfl ?_
    refine QL.r (asgB rfl) rfl ?_
    refine QL.nil ?_; intro w5 hx; replace H := H.ext hx; replace hm := hm.ext hx; replace hbt := hbt.ext hx; replace hb3 := hb3.ext hx; replace hb5 := hb5.ext hx
    refine WP.cond rfl (fun hc => ?_) (fun hc => ?_)
    · refine WP.regionS ?_
      refine RL.r (asgI rfl) rfl ?_
      refine RL.nil ?_
      refine WP.ret ?_
      have hE : putE S x = 120 := by unfold putE; rw [if_neg ‹_›, if_pos hc]
      refine fin1_ret rfl ⟨⟨intE hE.symm, ?_⟩, H⟩
      unfold putR; rw [if_neg (by omega)]; exact ⟨hbt, ⟨lb, c, hm, hr⟩, hT.srt, hT.may⟩
    · refine WP.skip ?_
      refine WP.seq ?_
      refine WP.any ?_
      intro w6 hx; replace H := H.ext hx; replace hm := hm.ext hx; replace hbt := hbt.ext hx; replace hb3 := hb3.ext hx; replace hb5 := hb5.ext hx
      refine AL.p 0 (by kernel_rfl) rfl (mvP rfl) rfl ?_
      refine AL.p 1 (by kernel_rfl) rfl (nilck rfl) rfl ?_
      refine AL.p 2 (by kernel_rfl) rfl (fa_box rfl) rfl ?_
      refine AL.p 5 (by kernel_rfl) rfl (fa_box rfl) rfl ?_
      refine AL.m 3 (by kernel_rfl) rfl (ld_box rfl hbt rfl) rfl ?_
      refine AL.m 4 (by kernel_rfl) rfl (ldS_box rfl hb5 (Nat.le_of_ble_eq_true rfl) rfl) rfl ?_
      refine AL.m 6 (by kernel_rfl) rfl (ld_box rfl hb3 rfl) rfl ?_
      refine AL.o 7 (by kernel_rfl) rfl ?_
      refine RL.updM (k := x.key) (v := .int .i64 x.off) rfl hm rfl rfl ?_
      intro w7 hu hm'
      replace H := Upd.same H hu
      replace hbt := hbt.upd hu (fun e => hm.neb hbt e.symm)
      refine RL.nil ?_
      refine AL.nil (by kernel_rfl) ?_
      refine WP.regionS ?_
      refine RL.r (asgI rfl) rfl ?_
      refine RL.nil ?_
      refine WP.ret ?_
      have hE : putE S x = 0 := by unfold putE; rw [if_neg ‹_›, if_neg hc]
      refine fin1_ret rfl ⟨⟨intE hE.symm, ?_⟩, H⟩
      unfold putR; rw [if_pos hE]; exact tb_put hbt hm.nod hr hm' hT.srt hT.may (Classical.not_not.1 ‹¬ ¬ mayM x›)
theorem pNewB (w0 : World) (B : Nat) (hB : B ≤ w0.heap.size) :
    Ct Try.prog 15 #[] w0 fun v w' => (∃ i m, v = .pointer (some ⟨i, 0, none⟩) ∧ Tb B w' i m []) ∧ Ext w0 w' :=
  (pNew w0).mono fun v w' ⟨⟨i, m, h, hT⟩, hx⟩ => ⟨⟨i, m, h, hT.mono hB⟩, hx⟩
theorem box_nt {B B' b b' : Nat} {w : World} {T T' : TypeId} {cs cs' : List Value} (h : Box B w b T cs) (h' : Box B' w b' T' cs') (hT : T ≠ T') : b ≠ b' := by
  rintro rfl
  have h1 := h.at_
  rw [h'.at_] at h1
  injection h1 with h1
  injection h1 with _ h2
  exact hT h2.symm
theorem Tb.bx {B B' i m b : Nat} {w w' : World} {S : List Mrk} {T : TypeId} {cs : List Value} (h : Tb B w i m S) (hb : Box B' w b T cs) (hT : 60 ≠ T) (k : Upd (· = b) w w') : Tb B w' i m S :=
  h.upd k (box_nt h.box hb hT) (fun e => h.neb hb e.symm)
end Go.Proofs.Ytmjamhgihbapjaa
