/-
  The document's table: its functions.
-/
import Derived.Test.YtmjamhgihbapjaaStep12
set_option linter.unusedVariables false
namespace Go.Proofs.Ytmjamhgihbapjaa
open Go Go.Eng Go.RowKit
theorem tr_old {B : Nat} {w : World} {i c : Nat} {a : Option Addr} {S : List Mrk} (h : Tr B w i a c S) : B ≤ w.heap.size := Nat.le_of_lt (Nat.lt_of_le_of_lt h.1.old h.1.lt)
theorem Tr.ext {B : Nat} {w w' : World} {i c : Nat} {a : Option Addr} {S : List Mrk} (h : Tr B w i a c S) (k : Ext w w') : Tr B w' i a c S := ⟨h.1.ext k, h.2.ext k⟩
theorem own_box {α : Type} [Lies α] {B B' : Nat} {w w' : World} {T T' : TypeId} {a : Option Addr} {c b : Nat} {l : List α} {cs : List Value} (h : Own B w T a c l) (ho : Box B' w b T' cs) (hT : T ≠ T') (k : Upd (· = b) w w') : Own B w' T a c l := h.upd k (fun y hy e => by subst e; exact h.box_apart ho hT hy)
theorem box_own {α : Type} [Lies α] {B B' : Nat} {w w' : World} {T T' : TypeId} {a : Option Addr} {c b : Nat} {l : List α} {cs : List Value} (ho : Box B' w b T' cs) (h : Own B w T a c l) (hT : T ≠ T') (k : Upd (inBlock a) w w') : Box B' w' b T' cs := ho.upd k (fun y => h.box_apart ho hT y)
/-- what a call of the document's table may turn -/
def XR (i : Nat) (a : Option Addr) (k : Nat) : Prop := k = i ∨ inBlock a k
theorem getS_first {S : List Mrk} {k : MKey} {j : Nat} (hj : j < S.length) (hk : S[j].key = k) (hb : ∀ (i : Nat) (h : i < S.length), i < j → S[i].key ≠ k) : getS S k = some S[j].off := by
  unfold getS
  have : S.find? (fun x => decide (x.key = k)) = some S[j] := by
    rw [List.find?_eq_some_iff_getElem]
    exact ⟨by simpa using hk, j, hj, rfl, fun i hi => by simpa using hb i (by omega) hi⟩
  rw [this]; rfl
theorem getS_nowhere {S : List Mrk} {k : MKey} (hb : ∀ (i : Nat) (h : i < S.length), S[i].key ≠ k) : getS S k = none := by
  rw [getS_none]
  intro x hx
  obtain ⟨i, hi, rfl⟩ := List.getElem_of_mem hx
  exact hb i hi
/-- the first j marks are raised -/
def lrR (S : List Mrk) (p : Part) (least : Int) (j : Nat) : List Mrk := if 1099511627776 < least then S else (S.take j).map (raise1 p least) ++ S.drop j
def lnR (S : List Mrk) (p : Part) (least : Int) (j : Nat) : Nat := if 1099511627776 < least then 0 else raiseN (S.take j) p least
theorem lrR_len (S : List Mrk) (p : Part) (least : Int) (j : Nat) : (lrR S p least j).length = S.length := by
  unfold lrR
  split
  · rfl
  · rw [List.length_append, List.length_map, List.length_take, List.length_drop]; omega
theorem lrR_get {S : List Mrk} {p : Part} {least : Int} {j : Nat} (hj : j < S.length) (hj' : j < (lrR S p least j).length) : (lrR S p least j)[j] = S[j] := by
  have h : (lrR S p least j)[j]? = S[j]? := by
    unfold lrR
    split
    · rfl
    · rw [List.getElem?_append_right (by rw [List.length_map, List.length_take]; omega), List.length_map, List.length_take, List.getElem?_drop]
      congr 1; omega
  rw [List.getElem?_eq_getElem hj', List.getElem?_eq_getElem hj] at h
  exact Option.some.inj h
theorem lrR_zero (S : List Mrk) (p : Part) (least : Int) : lrR S p least 0 = S := by unfold lrR; split <;> simp
theorem lrR_yes {S : List Mrk} {p : Part} {least : Int} {j : Nat} (hj : j < S.length) (h : prR p least S[j]) (hl : ¬ 1099511627776 < least) : (lrR S p least j).set j ⟨S[j].group, S[j].topic, S[j].n, least⟩ = lrR S p least (j + 1) ∧ lnR S p least (j + 1) = lnR S p least j + 1 := by
  unfold lrR lnR
  rw [if_neg hl, if_neg hl, if_neg hl, if_neg hl]
  constructor
  · rw [List.set_append_right _ _ (by rw [List.length_map, List.length_take]; omega), List.length_map, List.length_take, Nat.min_eq_left (by omega), Nat.sub_self, List.drop_eq_getElem_cons hj, List.set_cons_zero, List.take_succ_eq_append_getElem hj, List.map_append, List.append_assoc]
    congr 1
    simp only [List.map_cons, List.map_nil, List.cons_append, List.nil_append, raise1]
    unfold prR at h
    rw [if_pos h]
  · unfold raiseN
    rw [List.take_succ_eq_append_getElem hj, List.countP_append]
    unfold prR at h
    simp [h]
theorem lrR_no {S : List Mrk} {p : Part} {least : Int} {j : Nat} (hj : j < S.length) (h : ¬ (prR p least S[j] ∧ least ≤ 1099511627776)) : lrR S p least j = lrR S p least (j + 1) ∧ lnR S p least (j + 1) = lnR S p least j := by
  unfold lrR lnR
  by_cases hl : 1099511627776 < least
  · rw [if_pos hl, if_pos hl, if_pos hl, if_pos hl]; exact ⟨rfl, rfl⟩
  · rw [if_neg hl, if_neg hl, if_neg hl, if_neg hl]
    have h' : ¬ prR p least S[j] := fun e => h ⟨e, by omega⟩
    unfold prR at h'
    constructor
    · rw [List.take_succ_eq_append_getElem hj, List.map_append, List.append_assoc, List.drop_eq_getElem_cons hj]
      simp only [List.map_cons, List.map_nil, List.cons_append, List.nil_append, raise1]
      rw [if_neg h']
    · unfold raiseN
      rw [List.take_succ_eq_append_getElem hj, List.countP_append]
      simp [h']
theorem lrR_all (S : List Mrk) (p : Part) (least : Int) : lrR S p least S.length = raiseT S p least ∧ ((lnR S p least S.length : Nat) : Int) = raiseV S p least := by
  unfold lrR lnR raiseT raiseV raiseS
  by_cases hl : 1099511627776 < least
  · rw [if_pos hl, if_pos hl, if_pos hl, if_pos hl]; exact ⟨rfl, rfl⟩
  · rw [if_neg hl, if_neg hl, if_neg hl, if_neg hl, List.take_length, List.drop_length, List.append_nil]; exact ⟨rfl, rfl⟩
theorem lnR_le (S : List Mrk) (p : Part) (least : Int) (j : Nat) : lnR S p least j ≤ j := by
  unfold lnR
  split
  · exact Nat.zero_le _
  · unfold raiseN
    refine Nat.le_trans List.countP_le_length ?_
    rw [List.length_take]; omega
theorem prR_iff {X : Mrk} {p : Part} {least : Int} : ((⟨X.topic, X.n⟩ : Part) = p ∧ X.off < least) ↔ prR p least X := by cases p; simp [prR]
theorem rGet (w0 : World) (B i : Nat) (a : Option Addr) (c : Nat) (S : List Mrk) (g : ByteArray) (p : Part) (hT : Tr B w0 i a c S) (hlen : S.length ≤ 100000) :
    Ct Try.prog 25 #[.pointer (some ⟨i, 0, none⟩), .string g, .agg (Lies.enc p).toArray] w0 fun v w' => v = .tuple #[.int .i64 ((getS S ⟨g, p.topic, p.n⟩).getD 0), .bool (decide (getS S ⟨g, p.topic, p.n⟩ ≠ none))] ∧ Ext w0 w' := by
  refine Ct.intro2 Try.func25 Try.ntmps25 rfl rfl (by decide) rfl ?_
  have H : Ext w0 w0 := Ext.refl w0
  obtain ⟨hbt, hO⟩ := hT
  refine WP.regionS ?_
  refine RL.boxS w0.heap.size H.size rfl rfl ?_
  intro w1 i5 hi5 hx hb5
  have net_5 := hbt.ne hi5
  replace H := H.ext hx; replace hbt := hbt.ext hx; clear hx
  refine RL.r (asgI rfl) rfl ?_
  refine RL.r (asgB rfl) rfl ?_
  refine RL.nil ?_
  refine WP.seq ?_
  refine WP.regionS ?_
  refine RL.r (asgI rfl) rfl ?_
  refine RL.nil ?_
  refine WP.block ?_
  refine WP.loop (fun k e' w' => ∃ j : Nat,  j + k = S.length ∧ Head [6, 7, 8, 9, 10, 11, 12, 13, 14, 15, 16, 17, 18, 19, 20, 21, 22, 23, 24, 25, 26, 27, 28, 29, 30, 31, 32, 33, 34, 35, 36, 37, 38, 39, 40, 41, 42, 43, 44, 45, 46, 47] _ [(8, .int .i64 (j : Int))] e' ∧ Ext w0 w' ∧ Box B w' i 54 [.slice a S.length c] ∧ Box w0.heap.size w' i5 24 (Lies.enc p) ∧ ∀ (n : Nat) (h : n < S.length), n < j → S[n].key ≠ ⟨g, p.topic, p.n⟩) (S.length)
    ⟨0, by omega, Head.intro (AgreeOff.refl _ _) ⟨rfl, trivial⟩, H, hbt, hb5, fun n h hn => by omega⟩ ?_
  clear H hbt hb5
  rintro k e w2 ⟨j, hjk, ⟨jk, rfl⟩, H, hbt, hb5, hok⟩
  refine WP.seq ?_
  refine WP.regionS ?_
  refine RL.r (mvI rfl) rfl ?_
  refine RL.r (mvP rfl) rfl ?_
  refine RL.r (nilck rfl) rfl ?_
  refine RL.r (fa_box rfl) rfl ?_
  refine RL.m (ld_box rfl hbt rfl) rfl ?_
  refine RL.r (len_sl rfl) rfl ?_
  refine RL.r (lss rfl rfl) rfl ?_
  refine RL.nil ?_
  refine WP.cond rfl (fun hc => ?_) (fun hc => ?_)
  · refine WP.skip ?_
    refine WP.seq ?_
    refine WP.block ?_
    refine WP.seq ?_
    refine WP.draw (by kernel_rfl) ?_
    refine QL.r (mvP rfl) rfl ?_
    refine QL.r (nilck rfl) rfl ?_
    refine QL.r (fa_box rfl) rfl ?_
    refine QL.m (ld_box rfl hbt rfl) rfl ?_
    refine QL.r (mvI rfl) rfl ?_
    have hj : j < S.length := by omega
    obtain ⟨q, rfl⟩ := hO.sl.isAddr (by decide) hj
    refine QL.r (ix rfl rfl rfl hj) rfl ?_
    refine QL.r (fa_el hO.sl.1 rfl) rfl ?_
    refine QL.m (ld_el rfl hO.sl H rfl hj rfl) rfl ?_
    refine QL.r (mvS rfl) rfl ?_
    refine QL.r (seql rfl rfl) rfl ?_
    refine QL.r (mvB rfl) rfl ?_
    refine QL.gg (gwT rfl rfl) (fun hg => (mvP rfl).does _) rfl ?_
    refine QL.gg (gwT rfl rfl) (fun hg => (nilck (gs hg rfl)).does _) rfl ?_
    refine QL.gg (gwT rfl rfl) (fun hg => (fa_box (gs hg rfl)).does _) rfl ?_
    refine QL.gg (gwT rfl rfl) (fun hg => ld_box (gs hg rfl) hbt rfl) rfl ?_
    refine QL.gg (gwT rfl rfl) (fun hg => (mvI rfl).does _) rfl ?_
    refine QL.gg (gwT rfl rfl) (fun hg => (ix (gs hg rfl) (gs hg rfl) rfl hj).does _) rfl ?_
    refine QL.gg (gwT rfl rfl) (fun hg => (fa_el hO.sl.1 (gs hg rfl)).does _) rfl ?_
    refine QL.gg (gwT rfl rfl) (fun hg => ldS_ef (gs hg rfl) hO.sl H hj rfl (Nat.le_of_ble_eq_true rfl)) rfl ?_
    refine QL.gg (gwT rfl rfl) (fun hg => ldS_box rfl hb5 (Nat.le_of_ble_eq_true rfl) rfl) rfl ?_
    refine QL.gg (gwT rfl rfl) (fun hg => (aeql (α := Part) (p := (⟨S[j].topic, S[j].n⟩ : Part)) (q := p) (gs hg rfl) (gs hg rfl)).does _) rfl ?_
    refine QL.r (pickAnd rfl (fun hn => gs hn rfl)) rfl ?_
    refine QL.nil ?_; intro w3 hx; replace H := H.ext hx; replace hbt := hbt.ext hx; replace hb5 := hb5.ext hx
    refine WP.cond rfl (fun hc => ?_) (fun hc => ?_)
    · refine WP.regionS ?_
      refine RL.r (mvP rfl) rfl ?_
      refine RL.r (nilck rfl) rfl ?_
      refine RL.r (fa_box rfl) rfl ?_
      refine RL.m (ld_box rfl hbt rfl) rfl ?_
      refine RL.r (mvI rfl) rfl ?_
      refine RL.r (ix rfl rfl rfl hj) rfl ?_
      refine RL.r (fa_el hO.sl.1 rfl) rfl ?_
      refine RL.m (ld_el rfl hO.sl H rfl hj rfl) rfl ?_
      refine RL.r (asgI rfl) rfl ?_
      refine RL.r (asgB rfl) rfl ?_
      refine RL.nil ?_
      refine WP.ret ?_
      have hk : S[j].key = ⟨g, p.topic, p.n⟩ := by
        obtain ⟨h1, h2⟩ := hc
        rw [← h2, ← h1]; rfl
      have hg := getS_first hj hk hok
      refine fin2_ret rfl rfl ⟨tup2 (by rw [hg]; rfl) (by rw [hg]; rfl), H⟩
    · refine WP.skip ?_
      refine WP.region ?_
      refine RL.r (mvI rfl) rfl ?_
      refine RL.r (add rfl rfl (by omega)) rfl ?_
      refine RL.r (asgI rfl) rfl ?_
      refine RL.nil ?_
      refine ⟨k - 1, by omega, j + 1, by omega, Head.intro (by repeat (first | with_reducible exact AgreeOff.mix _ _ _ | refine AgreeOff.look rfl ?_ | refine AgreeOff.mixs rfl ?_)) ⟨rfl, trivial⟩, H, hbt, hb5, fun n h hn => ?_⟩
      by_cases hij : n < j
      · exact hok n h hij
      · obtain rfl : n = j := by omega
        intro e
        apply hc
        rw [show S[n].key = ⟨S[n].group, S[n].topic, S[n].n⟩ from rfl, MKey.mk.injEq] at e
        exact ⟨e.1, by cases p; rw [Part.mk.injEq]; exact e.2⟩
  · refine WP.exit ?_
    refine WP.regionS ?_
    refine RL.r (asgI rfl) rfl ?_
    refine RL.r (asgB rfl) rfl ?_
    refine RL.nil ?_
    refine WP.ret ?_
    have hg := getS_nowhere (fun n h => hok n h (by omega))
    refine fin2_ret rfl rfl ⟨tup2 (by rw [hg]; rfl) (by rw [hg]; rfl), H⟩
theorem rBehind (w0 : World) (B i : Nat) (a : Option Addr) (c : Nat) (S : List Mrk) (g : ByteArray) (p : Part) (n : Int) (hm : ∀ x ∈ S, mayM x) (hT : Tr B w0 i a c S) (hlen : S.length ≤ 100000) :
    Ct Try.prog 26 #[.pointer (some ⟨i, 0, none⟩), .string g, .agg (Lies.enc p).toArray, .int .i64 n] w0 fun v w' => v = .int .i64 (if numB n then max 0 (n - (getS S ⟨g, p.topic, p.n⟩).getD 0) else 0) ∧ Ext w0 w' := by
  refine Ct.intro1 Try.func26 Try.ntmps26 rfl rfl (by decide) rfl ?_
  have H : Ext w0 w0 := Ext.refl w0
  obtain ⟨hbt, hO⟩ := hT
  refine WP.regionS ?_
  refine RL.boxS w0.heap.size H.size rfl rfl ?_
  intro w1 i6 hi6 hx hb6
  have net_6 := hbt.ne hi6
  replace H := H.ext hx; replace hbt := hbt.ext hx; replace hO := hO.ext hx; clear hx
  refine RL.r (asgI rfl) rfl ?_
  refine RL.nil ?_
  refine WP.seq ?_
  refine WP.regionS ?_
  refine RL.r (mvI rfl) rfl ?_
  -- call stagecoach/stagecoachref03.Num (tmp 11)
  refine RL.call (rNum _ n) rfl rfl ?_
  rintro _ w2 ⟨rfl, hx⟩
  replace H := H.ext hx; replace hbt := hbt.ext hx; replace hb6 := hb6.ext hx; replace hO := hO.ext hx
  first | refine RL.r (notD rfl) rfl ?_ | refine RL.r (not_ rfl) rfl ?_
  refine RL.nil ?_
  refine WP.cond rfl (fun hc => ?_) (fun hc => ?_)
  · refine WP.regionS ?_
    refine RL.r (asgI rfl) rfl ?_
    refine RL.nil ?_
    refine WP.ret ?_
    refine fin1_ret rfl ⟨intE (if_neg hc).symm, H⟩
  · refine WP.skip ?_
    refine WP.regionS ?_
    refine RL.r (mvP rfl) rfl ?_
    refine RL.r (mvS rfl) rfl ?_
    refine RL.m (ldS_box rfl hb6 (Nat.le_of_ble_eq_true rfl) rfl) rfl ?_
    -- call (*stagecoach/stagecoachref12.Table).Get (tmp 15) (tmp 16) (tmp 17)
    have hn : numB n := Classical.not_not.1 hc
    have hgv := getS_numB hm ⟨g, p.topic, p.n⟩
    have hn1 := hn.1
    have hn2 := hn.2
    have hg1 := hgv.1
    have hg2 := hgv.2
    refine RL.call (rGet _ _ i a c S g p ⟨hbt, hO⟩ hlen) rfl rfl ?_
    rintro _ w3 ⟨rfl, hx⟩
    replace H := H.ext hx; replace hbt := hbt.ext hx; replace hb6 := hb6.ext hx; replace hO := hO.ext hx
    refine RL.r (mvU rfl) rfl ?_
    refine RL.r (ex0 rfl) rfl ?_
    refine RL.r (ex1 rfl) rfl ?_
    refine RL.r (asgI rfl) rfl ?_
    refine RL.r (asgB rfl) rfl ?_
    refine RL.nil ?_
    refine WP.regionS ?_
    refine RL.r (mvI rfl) rfl ?_
    refine RL.r (mvI rfl) rfl ?_
    refine RL.r (sub rfl rfl (by omega)) rfl ?_
    refine RL.r (max_i rfl rfl) rfl ?_
    refine RL.r (asgI rfl) rfl ?_
    refine RL.nil ?_
    refine WP.ret ?_
    refine fin1_ret rfl ⟨intE (by rw [if_pos hn]), H⟩
theorem rRaise (w0 : World) (B i : Nat) (a : Option Addr) (c : Nat) (S : List Mrk) (p : Part) (least : Int) (hT : Tr B w0 i a c S) (hlen : S.length ≤ 100000) :
    Ct Try.prog 22 #[.pointer (some ⟨i, 0, none⟩), .agg (Lies.enc p).toArray, .int .i64 least] w0 fun v w' => (v = .int .i64 (raiseV S p least) ∧ Tr B w' i a c (raiseT S p least)) ∧ Upd (XR i a) w0 w' := by
  refine Ct.intro1 Try.func22 Try.ntmps22 rfl rfl (by decide) rfl ?_
  have H : Upd (XR i a) w0 w0 := Upd.refl _ w0
  obtain ⟨hbt, hO⟩ := hT
  refine WP.regionS ?_
  refine RL.boxS w0.heap.size H.size rfl rfl ?_
  intro w1 i4 hi4 hx hb4
  have net_4 := hbt.ne hi4
  replace H := H.ext hx; replace hbt := hbt.ext hx; replace hO := hO.ext hx; clear hx
  refine RL.r (asgI rfl) rfl ?_
  refine RL.nil ?_
  refine WP.regionS ?_
  refine RL.r (asgI rfl) rfl ?_
  refine RL.nil ?_
  refine WP.seq ?_
  refine WP.regionS ?_
  refine RL.r (asgI rfl) rfl ?_
  refine RL.nil ?_
  refine WP.block ?_
  refine WP.loop (fun k e' w' => ∃ j : Nat,  j + k = S.length ∧ Head [7, 8, 9, 10, 11, 12, 13, 14, 15, 16, 17, 18, 19, 20, 21, 22, 23, 24, 25, 26, 27, 28, 29, 30, 31, 32, 33, 34, 35, 36, 37, 38, 39, 40, 41, 42, 43, 44, 45, 46, 47, 48, 49, 50, 51, 52, 53] _ [(7, .int .i64 ((lnR S p least j : Nat) : Int)), (8, .int .i64 (j : Int))] e' ∧ Upd (XR i a) w0 w' ∧ Box B w' i 54 [.slice a S.length c] ∧ Box w0.heap.size w' i4 24 (Lies.enc p) ∧ Own B w' 26 a c (lrR S p least j)) (S.length)
    ⟨0, by omega, Head.intro (AgreeOff.refl _ _) ⟨by unfold lnR raiseN; split <;> rfl, rfl, trivial⟩, H, hbt, hb4, (by rw [lrR_zero]; exact hO)⟩ ?_
  clear H hbt hb4 hO
  rintro k e w2 ⟨j, hjk, ⟨jk, rfl⟩, H, hbt, hb4, hO⟩
  have hll := lrR_len S p least j
  have hnl := lnR_le S p least j
  refine WP.seq ?_
  refine WP.regionS ?_
  refine RL.r (mvI rfl) rfl ?_
  refine RL.r (mvP rfl) rfl ?_
  refine RL.r (nilck rfl) rfl ?_
  refine RL.r (fa_box rfl) rfl ?_
  refine RL.m (ld_box rfl hbt rfl) rfl ?_
  refine RL.r (len_sl rfl) rfl ?_
  refine RL.r (lss rfl rfl) rfl ?_
  refine RL.nil ?_
  refine WP.cond rfl (fun hc => ?_) (fun hc => ?_)
  · refine WP.skip ?_
    refine WP.seq ?_
    refine WP.block ?_
    refine WP.seq ?_
    refine WP.draw (by kernel_rfl) ?_
    refine QL.r (mvP rfl) rfl ?_
    refine QL.r (nilck rfl) rfl ?_
    refine QL.r (fa_box rfl) rfl ?_
    refine QL.m (ld_box rfl hbt rfl) rfl ?_
    refine QL.r (mvI rfl) rfl ?_
    have hj : j < S.length := by omega
    have hj2 : j < (lrR S p least j).length := by omega
    have hge := lrR_get hj hj2
    have hO0 := hO
    obtain ⟨q, hq⟩ := hO.sl.isAddr (by decide) hj2
    subst hq
    refine QL.r (ix rfl rfl rfl hj) rfl ?_
    refine QL.r (fa_el hO.sl.1 rfl) rfl ?_
    refine QL.m (ldS_ef rfl hO.sl (Ext.refl _) hj2 rfl (Nat.le_of_ble_eq_true rfl)) rfl ?_
    refine QL.m (ldS_box rfl hb4 (Nat.le_of_ble_eq_true rfl) rfl) rfl ?_
    refine QL.r (aeql (α := Part) (p := (⟨(lrR S p least j)[j].topic, (lrR S p least j)[j].n⟩ : Part)) (q := p) rfl rfl) rfl ?_
    refine QL.r (mvB rfl) rfl ?_
    refine QL.gg (gwT rfl rfl) (fun hg => (mvP rfl).does _) rfl ?_
    refine QL.gg (gwT rfl rfl) (fun hg => (nilck (gs hg rfl)).does _) rfl ?_
    refine QL.gg (gwT rfl rfl) (fun hg => (fa_box (gs hg rfl)).does _) rfl ?_
    refine QL.gg (gwT rfl rfl) (fun hg => ld_box (gs hg rfl) hbt rfl) rfl ?_
    refine QL.gg (gwT rfl rfl) (fun hg => (mvI rfl).does _) rfl ?_
    refine QL.gg (gwT rfl rfl) (fun hg => (ix (gs hg rfl) (gs hg rfl) rfl hj).does _) rfl ?_
    refine QL.gg (gwT rfl rfl) (fun hg => (fa_el hO.sl.1 (gs hg rfl)).does _) rfl ?_
    refine QL.gg (gwT rfl rfl) (fun hg => ld_el (gs hg rfl) hO.sl (Ext.refl _) rfl hj2 rfl) rfl ?_
    refine QL.gg (gwT rfl rfl) (fun hg => (mvI rfl).does _) rfl ?_
    refine QL.gg (gwT rfl rfl) (fun hg => (lss (gs hg rfl) (gs hg rfl)).does _) rfl ?_
    refine QL.r (pickAnd rfl (fun hn => gs hn rfl)) rfl ?_
    refine QL.r (mvB rfl) rfl ?_
    refine QL.gg (gwT rfl rfl) (fun hg => (mvI rfl).does _) rfl ?_
    refine QL.gg (gwT rfl rfl) (fun hg => (leq (gs hg rfl) rfl).does _) rfl ?_
    refine QL.r (pickAnd rfl (fun hn => gs hn rfl)) rfl ?_
    refine QL.nil ?_; intro w3 hx; replace H := H.ext hx; replace hbt := hbt.ext hx; replace hb4 := hb4.ext hx; replace hO := hO.ext hx
    refine WP.cond rfl (fun hc => ?_) (fun hc => ?_)
    · refine WP.regionS ?_
      refine RL.r (mvP rfl) rfl ?_
      refine RL.r (nilck rfl) rfl ?_
      refine RL.r (fa_box rfl) rfl ?_
      refine RL.m (ld_box rfl hbt rfl) rfl ?_
      refine RL.r (mvI rfl) rfl ?_
      refine RL.r (mvI rfl) rfl ?_
      refine RL.r (ix rfl rfl rfl hj) rfl ?_
      refine RL.r (fa_el hO.sl.1 rfl) rfl ?_
      have hcc := hc
      rw [hge] at hcc
      have hst := lrR_yes hj (prR_iff.1 ⟨hcc.1.1, hcc.1.2⟩) (by omega)
      refine RL.setOwn (u := (⟨(lrR S p least j)[j].group, (lrR S p least j)[j].topic, (lrR S p least j)[j].n, least⟩ : Mrk)) (i := j) (off := 3) (v := .int .i64 least) (vs := [.int .i64 least]) rfl hO hj2 rfl rfl rfl (Nat.le_of_ble_eq_true rfl) rfl (fun v hv => by obtain rfl := List.mem_singleton.1 hv; rfl) ?_
      intro w99 hu hO2
      replace hbt := box_own hbt hO (by decide) hu
      replace hb4 := box_own hb4 hO (by decide) hu
      replace H := Upd.upd H hu (fun k hk he => Or.inr he)
      rw [show (⟨(lrR S p least j)[j].group, (lrR S p least j)[j].topic, (lrR S p least j)[j].n, least⟩ : Mrk) = ⟨S[j].group, S[j].topic, S[j].n, least⟩ by rw [hge], hst.1] at hO2
      refine RL.nil ?_
      refine WP.region ?_
      refine RL.r (mvI rfl) rfl ?_
      refine RL.r (add rfl rfl (by omega)) rfl ?_
      refine RL.r (asgI rfl) rfl ?_
      refine RL.nil ?_
      refine WP.region ?_
      refine RL.r (mvI rfl) rfl ?_
      refine RL.r (add rfl rfl (by omega)) rfl ?_
      refine RL.r (asgI rfl) rfl ?_
      refine RL.nil ?_
      refine ⟨k - 1, by omega, j + 1, by omega, Head.intro (by repeat (first | with_reducible exact AgreeOff.mix _ _ _ | refine AgreeOff.look rfl ?_ | refine AgreeOff.mixs rfl ?_)) ⟨intE (by rw [hst.2]; omega), rfl, trivial⟩, H, hbt, hb4, hO2⟩
    · refine WP.skip ?_
      refine WP.region ?_
      refine RL.r (mvI rfl) rfl ?_
      refine RL.r (add rfl rfl (by omega)) rfl ?_
      refine RL.r (asgI rfl) rfl ?_
      refine RL.nil ?_
      have hno := lrR_no hj (fun h => hc (by rw [hge]; exact ⟨prR_iff.2 h.1, h.2⟩))
      refine ⟨k - 1, by omega, j + 1, by omega, Head.intro (by repeat (first | with_reducible exact AgreeOff.mix _ _ _ | refine AgreeOff.look rfl ?_ | refine AgreeOff.mixs rfl ?_)) ⟨intE (by rw [hno.2]), rfl, trivial⟩, H, hbt, hb4, (by rw [← hno.1]; exact hO)⟩
  · refine WP.exit ?_
    refine WP.regionS ?_
    refine RL.r (mvI rfl) rfl ?_
    refine RL.r (asgI rfl) rfl ?_
    refine RL.nil ?_
    refine WP.ret ?_
    obtain rfl : j = S.length := by omega
    have hend := lrR_all S p least
    rw [hend.1] at hO
    refine fin1_ret rfl ⟨⟨intE hend.2, by have h1 := lrR_len S p least S.length; rw [hend.1] at h1; rw [h1]; exact hbt, hO⟩, H⟩
end Go.Proofs.Ytmjamhgihbapjaa
