/-
  Fair: walks and laws, written by gen/gen.py out of gen/thy/Fair.py.
-/
import Derived.Test.YtoebejfffakjpaaGrows
set_option linter.unusedVariables false
namespace Go.Proofs.Ytoebejfffakjpaa
open Go Go.Eng Go.RowKit
def cnt (t : ByteArray) (l : List Part) : Nat := l.countP fun x => decide (x.topic = t)
theorem cnt_yes {t : ByteArray} {l : List Part} {j : Nat} (hj : j < l.length) (h : l[j].topic = t) : cnt t (l.take (j + 1)) = cnt t (l.take j) + 1 := by
  unfold cnt
  rw [List.take_succ_eq_append_getElem hj, List.countP_append]
  simp [h]
theorem cnt_no {t : ByteArray} {l : List Part} {j : Nat} (hj : j < l.length) (h : l[j].topic ≠ t) : cnt t (l.take (j + 1)) = cnt t (l.take j) := by
  unfold cnt
  rw [List.take_succ_eq_append_getElem hj, List.countP_append]
  simp [h]
theorem cnt_le (t : ByteArray) (l : List Part) (j : Nat) : cnt t (l.take j) ≤ j := by
  unfold cnt
  refine Nat.le_trans List.countP_le_length ?_
  rw [List.length_take]; omega
theorem cnt_none {t : ByteArray} {l : List Part} (h : ∀ x ∈ l, x.topic ≠ t) : cnt t l = 0 := by
  unfold cnt
  rw [List.countP_eq_zero]
  intro x hx
  simpa using h x hx
theorem cnt_all {t : ByteArray} {l : List Part} (h : ∀ x ∈ l, x.topic = t) : cnt t l = l.length := by
  unfold cnt
  rw [List.countP_eq_length]
  intro x hx
  simpa using h x hx
theorem cnt_append (t : ByteArray) (a b : List Part) : cnt t (a ++ b) = cnt t a + cnt t b := List.countP_append
/-- a row, parted at a topic -/
structure Split (row A S C : List Part) (t : ByteArray) (a : Nat) : Prop where
  eq : row = A ++ S ++ C
  hA : ∀ x ∈ A, x.topic ≠ t
  hC : ∀ x ∈ C, x.topic ≠ t
  hS : S = strip t a S.length
theorem strip_get (t : ByteArray) (a n k : Nat) (h : k < (strip t a n).length) : (strip t a n)[k] = ⟨t, ((a + k : Nat) : Int)⟩ := by
  simp [strip]
theorem Split.at_ {row A S C : List Part} {t : ByteArray} {a : Nat} (h : Split row A S C t a) {k : Nat} (hk : k < row.length) (ht : row[k].topic = t) : A.length ≤ k ∧ k < A.length + S.length ∧ row[k].n = ((a + (k - A.length) : Nat) : Int) := by
  have e := h.eq
  subst e
  have hk2 := hk
  simp only [List.length_append] at hk2
  rw [List.getElem_append] at ht ⊢
  split at ht
  · rename_i h1
    simp only [h1, dite_true]
    rw [List.length_append] at h1
    rw [List.getElem_append] at ht ⊢
    split at ht
    · rename_i h2; exact absurd ht (h.hA _ (List.getElem_mem h2))
    · rename_i h2
      simp only [h2, dite_false]
      refine ⟨by omega, by omega, ?_⟩
      have hs := h.hS
      have h3 : k - A.length < S.length := by omega
      have h4 : k - A.length < (strip t a S.length).length := by rw [← hs]; exact h3
      have h5 : S[k - A.length] = (strip t a S.length)[k - A.length] := by congr 1
      rw [h5, strip_get]
  · rename_i h1
    exact absurd ht (h.hC _ (List.getElem_mem _))
theorem Split.cnt {row A S C : List Part} {t : ByteArray} {a : Nat} (h : Split row A S C t a) : cnt t row = S.length := by
  rw [h.eq, cnt_append, cnt_append, cnt_none h.hA, cnt_none h.hC, cnt_all]
  · omega
  · intro x hx
    rw [h.hS] at hx
    exact (mem_strip.1 hx).1
theorem Split.step {row A S C : List Part} {t : ByteArray} {a : Nat} (h : Split row A S C t a) {k : Nat} (hk : k < row.length) (ht : row[k].topic = t) (hc : 0 < Proofs.Ytoebejfffakjpaa.cnt t (row.take k)) (hk1 : k - 1 < row.length) : row[k].n = row[k - 1].n + 1 := by
  obtain ⟨h1, h2, h3⟩ := h.at_ hk ht
  have h4 : A.length < k := by
    rcases Nat.lt_or_ge A.length k with h5 | h5
    · exact h5
    · have h6 : k = A.length := by omega
      have h7 : row.take k = A := by
        rw [h.eq, h6, List.append_assoc, List.take_left]
      rw [h7, cnt_none h.hA] at hc
      omega
  have ht2 : row[k - 1].topic = t := by
    have e := h.eq
    subst e
    rw [List.getElem_append, dif_pos (by rw [List.length_append]; omega), List.getElem_append, dif_neg (by omega)]
    have h5 : S[k - 1 - A.length]'(by omega) ∈ strip t a S.length := by rw [← h.hS]; exact List.getElem_mem _
    exact (mem_strip.1 h5).1
  obtain ⟨_, _, h6⟩ := h.at_ hk1 ht2
  rw [h3, h6]
  omega
theorem row_split {l : List Topic} (m : List Mem) (hl : topicsOk l) (i j : Nat) (hj : j < l.length) : ∃ A C a, Split (rangeRow m l i) A (part1 m i l[j]) C l[j].name a := by
  have h1 : l = l.take j ++ l[j] :: l.drop (j + 1) := by rw [← List.drop_eq_getElem_cons hj, List.take_append_drop]
  have hap := topics_apart hl
  rw [List.pairwise_iff_getElem] at hap
  refine ⟨(l.take j).flatMap (part1 m i), (l.drop (j + 1)).flatMap (part1 m i), if wantsAt m i l[j].name then fromK (ahead m i l[j].name) l[j].n.toNat (ahead m m.length l[j].name) else 0, ?_, fun x hx => ?_, fun x hx => ?_, ?_⟩
  · have h2 := congrArg (List.flatMap (part1 m i)) h1
    rw [List.flatMap_append, List.flatMap_cons, ← List.append_assoc] at h2
    exact h2
  · obtain ⟨t, ht, hx⟩ := List.mem_flatMap.1 hx
    obtain ⟨k, hk, rfl⟩ := List.getElem_of_mem ht
    rw [List.length_take] at hk
    rw [(part1_mem hx).1, List.getElem_take]
    exact hap k j (by omega) hj (by omega)
  · obtain ⟨t, ht, hx⟩ := List.mem_flatMap.1 hx
    obtain ⟨k, hk, rfl⟩ := List.getElem_of_mem ht
    rw [List.length_drop] at hk
    rw [(part1_mem hx).1, List.getElem_drop]
    exact (hap j (j + 1 + k) hj (by omega) (by omega)).symm
  · by_cases hw : wantsAt m i l[j].name
    · rw [part1_yes hw, if_pos hw, strip_length]
    · rw [part1_no hw]; rfl
theorem part1_fair {m : List Mem} {i : Nat} {t : Topic} (h : wantsAt m i t.name) : t.n.toNat / ahead m m.length t.name ≤ (part1 m i t).length ∧ (part1 m i t).length ≤ t.n.toNat / ahead m m.length t.name + 1 := by
  rw [part1_yes h, strip_length, fromK_succ]
  generalize t.n.toNat / ahead m m.length t.name = q
  split <;> omega
/-- rows that differ by one at most -/
def Bal (len : Nat) (s : List (List Part) × Nat) : Prop := ∃ q r, r < len ∧ s.1.length = len ∧ s.2 % len = r ∧ ∀ (i : Nat) (h : i < s.1.length), s.1[i].length = q + if i < r then 1 else 0
theorem Bal.step {m : List Mem} {t : ByteArray} {s : List (List Part) × Nat} (n : Nat) (hw : ∀ i, i < m.length → wantsAt m i t) (h : Bal m.length s) : Bal m.length (stepR m t s n) := by
  obtain ⟨q, r, hr, hl, hp, hg⟩ := h
  have hn : nxt m t s.2 = some ((s.2 + 0) % m.length) := nxt_some (k := 0) (by omega) (fun n hn => by omega) (hw _ (Nat.mod_lt _ (by omega)))
  rw [Nat.add_zero, hp] at hn
  rw [stepR_some n hn]
  by_cases hr1 : r + 1 < m.length
  · refine ⟨q, r + 1, hr1, by simpa using hl, Nat.mod_eq_of_lt hr1, fun i hi => ?_⟩
    simp only [List.length_modify] at hi
    simp only [List.getElem_modify]
    have := hg i hi
    split
    · rename_i e
      subst e
      rw [List.length_append, this]
      simp
    · rename_i e
      rw [this]
      congr 1
      by_cases h1 : i < r
      · rw [if_pos h1, if_pos (by omega)]
      · rw [if_neg h1, if_neg (by omega)]
  · refine ⟨q + 1, 0, by omega, by simpa using hl, by show (r + 1) % m.length = 0; rw [show r + 1 = m.length by omega, Nat.mod_self], fun i hi => ?_⟩
    simp only [List.length_modify] at hi
    simp only [List.getElem_modify]
    have := hg i hi
    split
    · rename_i e
      subst e
      rw [List.length_append, this]
      simp
    · rename_i e
      rw [this, if_pos (by omega)]
      simp
theorem Bal.top {m : List Mem} {t : Topic} {s : List (List Part) × Nat} (hw : ∀ i, i < m.length → wantsAt m i t.name) (h : Bal m.length s) : ∀ n, Bal m.length (topR m s t n)
  | 0 => h
  | n + 1 => by rw [topR_succ]; exact (Bal.top hw h n).step n hw
theorem robin_bal {l : List Topic} {m : List Mem} (hm : 0 < m.length) (hw : ∀ t ∈ l, ∀ i, i < m.length → wantsAt m i t.name) : Bal m.length (allR m l) := by
  have key : ∀ j, j ≤ l.length → Bal m.length (allR m (l.take j)) := by
    intro j
    induction j with
    | zero =>
      intro _
      refine ⟨0, 0, hm, by simp [allR], by simp [allR], fun i hi => ?_⟩
      simp [allR]
    | succ j ih =>
      intro hj
      rw [allR_snoc _ _ _ (by omega)]
      exact (ih (by omega)).top (hw _ (List.getElem_mem _)) _
  have := key l.length (Nat.le_refl _)
  rwa [List.take_length] at this
theorem robin_fair {l : List Topic} {m : List Mem} (hck : checkE l m = 0) (hw : ∀ t ∈ l, ∀ i, i < m.length → wantsAt m i t.name) : ∃ q, q ≤ 64 ∧ ∀ r ∈ robinG l m, q ≤ r.length ∧ r.length ≤ q + 1 := by
  rcases Nat.eq_zero_or_pos m.length with h0 | h0
  · refine ⟨0, by omega, fun r hr => ?_⟩
    have h1 : (robinG l m).length = 0 := by rw [robinG, allR_length, h0]
    rw [List.length_eq_zero_iff.1 h1] at hr
    simp at hr
  · obtain ⟨q, r, hr, hl, hp, hg⟩ := robin_bal h0 hw
    refine ⟨q, ?_, fun x hx => ?_⟩
    · have h1 := hg 0 (by omega)
      have h2 := robinG_le hck _ (List.getElem_mem (l := robinG l m) (show 0 < (allR m l).1.length by omega))
      have h3 : (robinG l m)[0]'(show 0 < (allR m l).1.length by omega) = (allR m l).1[0]'(by omega) := rfl
      rw [h3, h1] at h2
      omega
    · obtain ⟨i, hi, rfl⟩ := List.getElem_of_mem hx
      have h1 := hg i hi
      have h3 : (robinG l m)[i] = (allR m l).1[i] := rfl
      rw [h3, h1]
      split <;> omega
theorem range_n {l : List Topic} {m : List Mem} (hck : checkE l m = 0) (i : Nat) : ∀ x ∈ rangeRow m l i, 0 ≤ x.n ∧ x.n ≤ 8 := by
  obtain ⟨hl8, hlok, hm8, hmok⟩ := check_ok hck
  intro x hx
  obtain ⟨t, ht, hx⟩ := List.mem_flatMap.1 hx
  obtain ⟨k, hk, rfl⟩ := List.getElem_of_mem ht
  have h1 := (hlok k hk).1.2
  by_cases hw : wantsAt m i l[k].name
  · rw [part1_yes hw] at hx
    obtain ⟨_, h2, h3⟩ := mem_strip.1 hx
    have h4 := fromK_top hw l[k].n.toNat
    have h5 := fromK_mono l[k].n.toNat (ahead m m.length l[k].name) (ahead m i l[k].name) (ahead m i l[k].name + 1) (by omega)
    omega
  · rw [part1_no hw] at hx
    simp at hx
set_option maxRecDepth 20000 in
set_option maxHeartbeats 3200000 in
theorem lAssignFair (w0 : World) (a b : Option Addr) (c d : Nat) (l : List Topic) (m : List Mem) (hl : SlI w0 a l) (hm : SlI w0 b m) (hts : ∀ x ∈ m, SlI w0 x.ta x.topics) :
    Ct Try.prog 5 #[.agg [.slice a l.length c, .slice b m.length d].toArray] w0 fun v w' => v = .bool true ∧ Ext w0 w' := by
  refine Ct.intro1 Try.func5 Try.ntmps5 rfl rfl (by decide) rfl ?_
  have H : Ext w0 w0 := Ext.refl w0
  refine WP.regionS ?_
  refine RL.boxS w0.heap.size H.size rfl rfl ?_
  intro w1 i1 hi1 hx hb1
  replace H := H.ext hx; clear hx
  refine RL.r (asgB rfl) rfl ?_
  refine RL.nil ?_
  refine WP.regionS ?_
  refine RL.m (ldS_box rfl hb1 (Nat.le_of_ble_eq_true rfl) rfl) rfl ?_
  -- call stagecoach/stagecoachlaw10.cut (tmp 17)
  have H0s := H.size
  refine RL.call (lCut _ _ _ c d l m (fun h => (hl h).ext H) (fun h => (hm h).ext H) (fun x hx h => (hts x hx h).ext H)) rfl rfl ?_
  rintro _ w2 ⟨⟨a1, c1, L1, b1, d1, M1, rfl, hA⟩, hx⟩
  replace H := H.ext hx; replace hb1 := hb1.ext hx
  have hb1o := hb1
  refine RL.storeS rfl hb1 rfl rfl rfl rfl ?_
  intro w3 hu hb1
  replace H := H.box hu hb1.old
  refine RL.nil ?_
  refine WP.regionS ?_
  refine RL.r (fa_box rfl) rfl ?_
  refine RL.m (ld_box rfl hb1 rfl) rfl ?_
  refine RL.r (fa_box rfl) rfl ?_
  refine RL.m (ld_box rfl hb1 rfl) rfl ?_
  -- call stagecoach/assign.Range (tmp 21) (tmp 23)
  replace hA := hA.mono H0s
  replace hA := hA.box hb1o (by decide) (by decide) (by decide) hu
  have HA := Ext.refl w3
  refine RL.call (pRange w3 _ _ c1 d1 L1 M1 hA.ol.sl hA.om.sl hA.ts) rfl rfl ?_
  rintro _ w4 ⟨⟨qa, ca, ga, rfl, hGa, hra⟩, hx⟩
  replace H := H.ext hx; replace hb1 := hb1.ext hx; replace HA := HA.ext hx
  refine RL.r (mvU rfl) rfl ?_
  refine RL.r (ex0 rfl) rfl ?_
  refine RL.r (ex1 rfl) rfl ?_
  refine RL.r (asgL rfl) rfl ?_
  refine RL.r (asgI rfl) rfl ?_
  refine RL.nil ?_
  refine WP.regionS ?_
  refine RL.r (fa_box rfl) rfl ?_
  refine RL.m (ld_box rfl hb1 rfl) rfl ?_
  refine RL.r (fa_box rfl) rfl ?_
  refine RL.m (ld_box rfl hb1 rfl) rfl ?_
  -- call stagecoach/assign.Robin (tmp 29) (tmp 31)
  refine RL.call (pRobin _ _ _ c1 d1 L1 M1 (hA.ol.sl.ext HA) (hA.om.sl.ext HA) (hA.ext HA).ts) rfl rfl ?_
  rintro _ w5 ⟨⟨qb, cb, gb, rfl, hGb, hrb⟩, hx⟩
  replace H := H.ext hx; replace hb1 := hb1.ext hx; replace HA := HA.ext hx; replace hGa := hGa.ext hx
  have HD := Ext.refl w5
  have hA5 := hA.ext HA
  have hGa5 := hGa
  have hGb5 := hGb
  refine RL.r (mvU rfl) rfl ?_
  refine RL.r (ex0 rfl) rfl ?_
  refine RL.r (ex1 rfl) rfl ?_
  refine RL.r (asgL rfl) rfl ?_
  refine RL.r (asgI rfl) rfl ?_
  refine RL.nil ?_
  refine WP.seq ?_
  refine WP.seq (WP.quiet ?_)
  refine QL.r (mvI rfl) rfl ?_
  refine QL.r (neq rfl rfl) rfl ?_
  refine QL.r (mvB rfl) rfl ?_
  refine QL.gg (gwF rfl rfl) (fun hg => (mvI rfl).does _) rfl ?_
  refine QL.gg (gwF rfl rfl) (fun hg => (neq (gs hg rfl) rfl).does _) rfl ?_
  refine QL.r (pickOr rfl (fun hn => gs hn rfl)) rfl ?_
  refine QL.nil ?_; intro w6 hx; replace H := H.ext hx; replace hb1 := hb1.ext hx; replace HD := HD.ext hx
  refine WP.cond rfl (fun hc => ?_) (fun hc => ?_)
  · refine WP.regionS ?_
    -- call stagecoach/stagecoachlaw10.fixed 
    refine RL.call (lFixed _) rfl rfl ?_
    rintro _ w7 ⟨rfl, hx⟩
    replace H := H.ext hx; replace hb1 := hb1.ext hx; replace HD := HD.ext hx
    refine RL.r (asgB rfl) rfl ?_
    refine RL.nil ?_
    refine WP.ret ?_
    refine fin1_ret rfl ⟨rfl, H⟩
  · have hck : checkE L1 M1 = 0 := Classical.not_not.1 fun h => hc (Or.inl h)
    have hra5 : rows ga = rangeG L1 M1 := by rw [hra, if_pos hck]
    have hrb5 : rows gb = robinG L1 M1 := by rw [hrb, if_pos hck]
    obtain ⟨hl8, hlok, hm8, hmok⟩ := check_ok hck
    have hga : ga.length = M1.length := by rw [rows_length hra5]; simp [rangeG]
    have hgb : gb.length = M1.length := by rw [rows_length hrb5, robinG, allR_length]
    refine WP.skip ?_
    refine WP.seq ?_
    refine WP.seq (WP.quiet ?_)
    refine QL.r (mvL rfl) rfl ?_
    refine QL.r (len_sl rfl) rfl ?_
    refine QL.r (fa_box rfl) rfl ?_
    refine QL.m (ld_box rfl hb1 rfl) rfl ?_
    refine QL.r (len_sl rfl) rfl ?_
    refine QL.r (neq rfl rfl) rfl ?_
    refine QL.r (mvB rfl) rfl ?_
    refine QL.gg (gwF rfl rfl) (fun hg => (mvL rfl).does _) rfl ?_
    refine QL.gg (gwF rfl rfl) (fun hg => (len_sl (gs hg rfl)).does _) rfl ?_
    refine QL.gg (gwF rfl rfl) (fun hg => (fa_box rfl).does _) rfl ?_
    refine QL.gg (gwF rfl rfl) (fun hg => ld_box (gs hg rfl) hb1 rfl) rfl ?_
    refine QL.gg (gwF rfl rfl) (fun hg => (len_sl (gs hg rfl)).does _) rfl ?_
    refine QL.gg (gwF rfl rfl) (fun hg => (neq (gs hg rfl) (gs hg rfl)).does _) rfl ?_
    refine QL.r (pickOr rfl (fun hn => gs hn rfl)) rfl ?_
    refine QL.nil ?_; intro w8 hx; replace H := H.ext hx; replace hb1 := hb1.ext hx; replace HD := HD.ext hx
    refine WP.cond rfl (fun hc => ?_) (fun hc => ?_)
    · refine WP.regionS ?_
      refine RL.r (asgB rfl) rfl ?_
      refine RL.nil ?_
      refine WP.ret ?_
      refine fin1_ret rfl ⟨absurd hc (by rw [hga, hgb]; simp), H⟩
    · refine WP.skip ?_
      refine WP.regionS ?_
      refine RL.r (asgB rfl) rfl ?_
      refine RL.nil ?_
      refine WP.seq ?_
      refine WP.regionS ?_
      refine RL.r (asgI rfl) rfl ?_
      refine RL.nil ?_
      refine WP.block ?_
      refine WP.loop (fun k e' w' => ∃ j : Nat, ∃ (al : Bool),  j + k = L1.length ∧ Head [2, 7, 8, 9, 10, 11, 12, 13, 56, 57, 58, 59, 60, 61, 62, 63, 64, 65, 66, 67, 68, 69, 70, 71, 72, 73, 74, 75, 76, 77, 78, 79, 80, 81, 82, 83, 84, 85, 86, 87, 88, 89, 90, 91, 92, 93, 94, 95, 96, 97, 98, 99, 100, 101, 102, 103, 104, 105, 106, 107, 108, 109, 110, 111, 112, 113, 114, 115, 116, 117, 118, 119, 120, 121, 122, 123, 124, 125, 126, 127, 128, 129, 130, 131, 132, 133, 134, 135, 136, 137, 138, 139, 140] _ [(7, .bool (decide (al = true))), (8, .int .i64 (j : Int))] e' ∧ Ext w0 w' ∧ Box w0.heap.size w' i1 25 [.slice a1 L1.length c1, .slice b1 M1.length d1] ∧ Ext w5 w' ∧ (al = true → ∀ t ∈ L1.take j, ∀ i, i < M1.length → wantsAt M1 i t.name)) (L1.length)
        ⟨0, true, by omega, Head.intro (AgreeOff.refl _ _) ⟨rfl, rfl, trivial⟩, H, hb1, HD, fun _ t ht => by simp at ht⟩ ?_
      clear H hb1 HD
      rintro k e w9 ⟨j, al, hjk, ⟨jk, rfl⟩, H, hb1, HD, hal⟩
      refine WP.seq ?_
      refine WP.regionS ?_
      refine RL.r (mvI rfl) rfl ?_
      refine RL.r (fa_box rfl) rfl ?_
      refine RL.m (ld_box rfl hb1 rfl) rfl ?_
      refine RL.r (len_sl rfl) rfl ?_
      refine RL.r (lss rfl rfl) rfl ?_
      refine RL.nil ?_
      refine WP.cond rfl (fun hc => ?_) (fun hc => ?_)
      · refine WP.skip ?_
        refine WP.seq ?_
        refine WP.block ?_
        refine WP.regionS ?_
        refine RL.r (asgI rfl) rfl ?_
        refine RL.r (asgI rfl) rfl ?_
        refine RL.nil ?_
        refine WP.seq ?_
        refine WP.regionS ?_
        refine RL.r (asgI rfl) rfl ?_
        refine RL.nil ?_
        refine WP.block ?_
        have hj : j < L1.length := by omega
        have htn := (hlok j hj).1.2
        have hdv := Nat.div_le_self L1[j].n.toNat (ahead M1 M1.length L1[j].name)
        obtain ⟨qq, hqq⟩ : ∃ qq, qq = L1[j].n.toNat / ahead M1 M1.length L1[j].name := ⟨_, rfl⟩
        rw [← hqq] at hdv
        refine WP.loop (fun k1 e' w' => ∃ j1 : Nat, ∃ (al : Bool) (lo hi : Int),  j1 + k1 = M1.length ∧ Head [2, 7, 9, 10, 11, 12, 13, 63, 64, 65, 66, 67, 68, 69, 70, 71, 72, 73, 74, 75, 76, 77, 78, 79, 80, 81, 82, 83, 84, 85, 86, 87, 88, 89, 90, 91, 92, 93, 94, 95, 96, 97, 98, 99, 100, 101, 102, 103, 104, 105, 106, 107, 108, 109, 110, 111, 112, 113, 114, 115, 116, 117, 118, 119, 120, 121, 122, 123, 124, 125, 126, 127, 128, 129, 130, 131, 132, 133, 134, 135, 136] _ [(7, .bool (decide (al = true))), (9, .int .i64 lo), (10, .int .i64 hi), (11, .int .i64 (j1 : Int))] e' ∧ Ext w0 w' ∧ Box w0.heap.size w' i1 25 [.slice a1 L1.length c1, .slice b1 M1.length d1] ∧ Ext w5 w' ∧ (al = true → (∀ t ∈ L1.take j, ∀ i, i < M1.length → wantsAt M1 i t.name) ∧ ∀ i, i < j1 → wantsAt M1 i L1[j].name) ∧ ((qq : Nat) : Int) ≤ lo ∧ lo ≤ 99 ∧ 0 ≤ hi ∧ hi ≤ ((qq : Nat) : Int) + 1) (M1.length)
          ⟨0, al, 99, 0, by omega, Head.intro (AgreeOff.refl _ _) ⟨rfl, rfl, rfl, rfl, trivial⟩, H, hb1, HD, fun h => ⟨hal h, fun i hi => by omega⟩, by omega, by omega, by omega, by omega⟩ ?_
        clear H hb1 HD
        rintro k1 e w10 ⟨j1, al2, lo, hi, hjk1, ⟨jk1, rfl⟩, H, hb1, HD, hal2, hlo, hlo9, hhi0, hhi⟩
        refine WP.seq ?_
        refine WP.regionS ?_
        refine RL.r (mvI rfl) rfl ?_
        refine RL.r (fa_box rfl) rfl ?_
        refine RL.m (ld_box rfl hb1 rfl) rfl ?_
        refine RL.r (len_sl rfl) rfl ?_
        refine RL.r (lss rfl rfl) rfl ?_
        refine RL.nil ?_
        refine WP.cond rfl (fun hc => ?_) (fun hc => ?_)
        · refine WP.skip ?_
          refine WP.seq ?_
          refine WP.block ?_
          refine WP.regionS ?_
          refine RL.r (asgI rfl) rfl ?_
          refine RL.nil ?_
          refine WP.seq ?_
          refine WP.regionS ?_
          refine RL.r (asgI rfl) rfl ?_
          refine RL.nil ?_
          refine WP.block ?_
          have hj1 : j1 < M1.length := by omega
          have hja : j1 < ga.length := by omega
          obtain ⟨pa, rfl⟩ := hGa5.head.sl.isAddr (by decide) hja
          have hea : ga[j1].l = rangeRow M1 L1 j1 := by
            have := congrArg (fun l => l[j1]?) hra5
            simpa [rangeG, hja, hj1] using this
          have hla : ga[j1].l.length ≤ 64 := by rw [hea]; exact rangeG_le hck _ (List.mem_map.2 ⟨j1, by simpa using hj1, rfl⟩)
          obtain ⟨A, C, a0, hsp⟩ := row_split M1 hlok j1 j hj
          rw [← hea] at hsp
          have hrn := range_n hck j1
          rw [← hea] at hrn
          refine WP.loop (fun k2 e' w' => ∃ j2 : Nat,  j2 + k2 = ga[j1].l.length ∧ Head [2, 12, 13, 70, 71, 72, 73, 74, 75, 76, 77, 78, 79, 80, 81, 82, 83, 84, 85, 86, 87, 88, 89, 90, 91, 92, 93, 94, 95, 96, 97, 98, 99, 100, 101, 102, 103, 104, 105, 106, 107, 108, 109, 110, 111, 112, 113, 114, 115, 116, 117, 118] _ [(12, .int .i64 ((cnt L1[j].name (ga[j1].l.take j2) : Nat) : Int)), (13, .int .i64 (j2 : Int))] e' ∧ Ext w0 w' ∧ Box w0.heap.size w' i1 25 [.slice a1 L1.length c1, .slice b1 M1.length d1] ∧ Ext w5 w' ∧ True) (ga[j1].l.length)
            ⟨0, by omega, Head.intro (AgreeOff.refl _ _) ⟨rfl, rfl, trivial⟩, H, hb1, HD, trivial⟩ ?_
          clear H hb1 HD
          rintro k2 e w11 ⟨j2, hjk2, ⟨jk2, rfl⟩, H, hb1, HD, -⟩
          have hcl := cnt_le L1[j].name ga[j1].l j2
          refine WP.seq ?_
          refine WP.regionS ?_
          refine RL.r (mvI rfl) rfl ?_
          refine RL.r (mvL rfl) rfl ?_
          refine RL.r (mvI rfl) rfl ?_
          refine RL.r (ix rfl rfl rfl hja) rfl ?_
          refine RL.m (ld_e0 rfl hGa5.head.sl HD rfl hja rfl) rfl ?_
          refine RL.r (len_sl rfl) rfl ?_
          refine RL.r (lss rfl rfl) rfl ?_
          refine RL.nil ?_
          refine WP.cond rfl (fun hc => ?_) (fun hc => ?_)
          · refine WP.skip ?_
            refine WP.seq ?_
            refine WP.block ?_
            refine WP.seq ?_
            refine WP.seq ?_
            refine WP.draw (by kernel_rfl) ?_
            refine QL.r (mvL rfl) rfl ?_
            refine QL.r (mvI rfl) rfl ?_
            have hj2 : j2 < ga[j1].l.length := by omega
            have hrow := (hGa5.row j1 hja).sl
            obtain ⟨q, hq⟩ := hrow.isAddr (by decide) hj2
            rw [hq] at hrow
            obtain ⟨pl, rfl⟩ := hA5.ol.sl.isAddr (by decide) hj
            refine QL.r (ix rfl rfl rfl hja) rfl ?_
            refine QL.m (ld_e0 rfl hGa5.head.sl HD rfl hja (hdr hq)) rfl ?_
            refine QL.r (mvI rfl) rfl ?_
            refine QL.r (ix rfl rfl rfl hj2) rfl ?_
            refine QL.r (fa_el hrow.1 rfl) rfl ?_
            refine QL.m (ld_el rfl hrow HD rfl hj2 rfl) rfl ?_
            refine QL.r (fa_box rfl) rfl ?_
            refine QL.m (ld_box rfl hb1 rfl) rfl ?_
            refine QL.r (mvI rfl) rfl ?_
            refine QL.r (ix rfl rfl rfl hj) rfl ?_
            refine QL.r (fa_el hA5.ol.sl.1 rfl) rfl ?_
            refine QL.m (ld_el rfl hA5.ol.sl HD rfl hj rfl) rfl ?_
            refine QL.r (sneq rfl rfl) rfl ?_
            refine QL.nil ?_; intro w12 hx; replace H := H.ext hx; replace hb1 := hb1.ext hx; replace HD := HD.ext hx
            refine WP.cond rfl (fun hc => ?_) (fun hc => ?_)
            · refine WP.exit ?_
              refine WP.region ?_
              refine RL.r (mvI rfl) rfl ?_
              refine RL.r (add rfl rfl (by omega)) rfl ?_
              refine RL.r (asgI rfl) rfl ?_
              refine RL.nil ?_
              have hcs := cnt_no hj2 hc
              refine ⟨k2 - 1, by omega, j2 + 1, by omega, Head.intro (by repeat (first | with_reducible exact AgreeOff.mix _ _ _ | refine AgreeOff.look rfl ?_ | refine AgreeOff.mixs rfl ?_)) ⟨intE (by rw [hcs]), rfl, trivial⟩, H, hb1, HD, trivial⟩
            · refine WP.skip ?_
              refine WP.seq ?_
              refine WP.seq ?_
              refine WP.draw (by kernel_rfl) ?_
              refine QL.r (mvI rfl) rfl ?_
              refine QL.r (gtr rfl rfl) rfl ?_
              refine QL.r (mvB rfl) rfl ?_
              refine QL.gg (gwT rfl rfl) (fun hg => (mvL rfl).does _) rfl ?_
              refine QL.gg (gwT rfl rfl) (fun hg => (mvI rfl).does _) rfl ?_
              have hct := Classical.not_not.1 hc
              have hj2m : j2 - 1 < ga[j1].l.length := by omega
              have hrk := hrn _ (List.getElem_mem hj2m)
              refine QL.gg (gwT rfl rfl) (fun hg => (ix (gs hg rfl) (gs hg rfl) rfl hja).does _) rfl ?_
              refine QL.gg (gwT rfl rfl) (fun hg => ld_e0 (gs hg rfl) hGa5.head.sl HD rfl hja (hdr hq)) rfl ?_
              refine QL.gg (gwT rfl rfl) (fun hg => (mvI rfl).does _) rfl ?_
              refine QL.gg (gwT rfl rfl) (fun hg => (ix (gs hg rfl) (gs hg rfl) rfl hj2).does _) rfl ?_
              refine QL.gg (gwT rfl rfl) (fun hg => (fa_el hrow.1 (gs hg rfl)).does _) rfl ?_
              refine QL.gg (gwT rfl rfl) (fun hg => ld_el (gs hg rfl) hrow HD rfl hj2 rfl) rfl ?_
              refine QL.gg (gwT rfl rfl) (fun hg => (mvL rfl).does _) rfl ?_
              refine QL.gg (gwT rfl rfl) (fun hg => (mvI rfl).does _) rfl ?_
              refine QL.gg (gwT rfl rfl) (fun hg => (ix (gs hg rfl) (gs hg rfl) rfl hja).does _) rfl ?_
              refine QL.gg (gwT rfl rfl) (fun hg => ld_e0 (gs hg rfl) hGa5.head.sl HD rfl hja (hdr hq)) rfl ?_
              refine QL.gg (gwT rfl rfl) (fun hg => (mvI rfl).does _) rfl ?_
              refine QL.gg (gwT rfl rfl) (fun hg => (sub (gs hg rfl) rfl (by omega)).does _) rfl ?_
              refine QL.gg (gwT rfl rfl) (fun hg => (ix (gs hg rfl) (gs hg rfl) (show (j2 : Int) - 1 = ((j2 - 1 : Nat) : Int) by omega) (by omega)).does _) rfl ?_
              refine QL.gg (gwT rfl rfl) (fun hg => (fa_el hrow.1 (gs hg rfl)).does _) rfl ?_
              refine QL.gg (gwT rfl rfl) (fun hg => ld_el (gs hg rfl) hrow HD rfl hj2m rfl) rfl ?_
              refine QL.gg (gwT rfl rfl) (fun hg => (add (gs hg rfl) rfl (by omega)).does _) rfl ?_
              refine QL.gg (gwT rfl rfl) (fun hg => (neq (gs hg rfl) (gs hg rfl)).does _) rfl ?_
              refine QL.r (pickAnd rfl (fun hn => gs hn rfl)) rfl ?_
              refine QL.nil ?_; intro w13 hx; replace H := H.ext hx; replace hb1 := hb1.ext hx; replace HD := HD.ext hx
              refine WP.cond rfl (fun hc => ?_) (fun hc => ?_)
              · refine WP.regionS ?_
                refine RL.r (asgB rfl) rfl ?_
                refine RL.nil ?_
                refine WP.ret ?_
                refine fin1_ret rfl ⟨absurd (hsp.step hj2 hct (by have := hc.1; omega) (by omega)) hc.2, H⟩
              · refine WP.skip ?_
                refine WP.region ?_
                refine RL.r (mvI rfl) rfl ?_
                refine RL.r (add rfl rfl (by omega)) rfl ?_
                refine RL.r (asgI rfl) rfl ?_
                refine RL.nil ?_
                refine WP.region ?_
                refine RL.r (mvI rfl) rfl ?_
                refine RL.r (add rfl rfl (by omega)) rfl ?_
                refine RL.r (asgI rfl) rfl ?_
                refine RL.nil ?_
                have hcs := cnt_yes hj2 hct
                refine ⟨k2 - 1, by omega, j2 + 1, by omega, Head.intro (by repeat (first | with_reducible exact AgreeOff.mix _ _ _ | refine AgreeOff.look rfl ?_ | refine AgreeOff.mixs rfl ?_)) ⟨intE (by rw [hcs]; omega), rfl, trivial⟩, H, hb1, HD, trivial⟩
          · refine WP.exit ?_
            refine WP.seq ?_
            refine WP.draw (by kernel_rfl) ?_
            refine QL.r (fa_box rfl) rfl ?_
            refine QL.m (ld_box rfl hb1 rfl) rfl ?_
            refine QL.r (mvI rfl) rfl ?_
            obtain ⟨pm, rfl⟩ := hA5.om.sl.isAddr (by decide) hj1
            obtain ⟨pl, rfl⟩ := hA5.ol.sl.isAddr (by decide) hj
            have hcnt := hsp.cnt
            have hall : ga[j1].l.take j2 = ga[j1].l := List.take_of_length_le (by omega)
            rw [← hall] at hcnt
            have hK1 : ∀ w', Ext w11 w' → Ct Try.prog 20 #[.agg (Lies.enc M1[j1]).toArray, .string L1[j].name] w' fun u w'' => u = .bool (decide (M1[j1].has L1[j].name)) ∧ Ext w' w'' := fun w' hw' => rWants w' M1[j1] L1[j].name (((hA5.ts _ (List.getElem_mem hj1)).1.ext HD).ext hw') (hA5.ts _ (List.getElem_mem hj1)).2
            refine QL.r (ix rfl rfl rfl hj1) rfl ?_
            refine QL.m (ldS_el rfl hA5.om.sl HD rfl rfl hj1) rfl ?_
            refine QL.r (fa_box rfl) rfl ?_
            refine QL.m (ld_box rfl hb1 rfl) rfl ?_
            refine QL.r (mvI rfl) rfl ?_
            refine QL.r (ix rfl rfl rfl hj) rfl ?_
            refine QL.r (fa_el hA5.ol.sl.1 rfl) rfl ?_
            refine QL.m (ld_el rfl hA5.ol.sl HD rfl hj rfl) rfl ?_
            -- call stagecoach/stagecoachref10.Wants (tmp 123) (tmp 129)
            refine QL.call (hK1) rfl rfl ?_
            refine QL.nil ?_; intro w15 hx; replace H := H.ext hx; replace hb1 := hb1.ext hx; replace HD := HD.ext hx
            refine WP.cond rfl (fun hc => ?_) (fun hc => ?_)
            · refine WP.regionS ?_
              refine RL.r (mvI rfl) rfl ?_
              refine RL.r (mvI rfl) rfl ?_
              refine RL.r (min_i rfl rfl) rfl ?_
              refine RL.r (asgI rfl) rfl ?_
              refine RL.nil ?_
              refine WP.region ?_
              refine RL.r (mvI rfl) rfl ?_
              refine RL.r (mvI rfl) rfl ?_
              refine RL.r (max_i rfl rfl) rfl ?_
              refine RL.r (asgI rfl) rfl ?_
              refine RL.nil ?_
              refine WP.region ?_
              refine RL.r (mvI rfl) rfl ?_
              refine RL.r (add rfl rfl (by omega)) rfl ?_
              refine RL.r (asgI rfl) rfl ?_
              refine RL.nil ?_
              have hpf := part1_fair ((wantsAt_iff hj1).2 hc)
              refine ⟨k1 - 1, by omega, j1 + 1, al2, _, _, by omega, Head.intro (by repeat (first | with_reducible exact AgreeOff.mix _ _ _ | refine AgreeOff.look rfl ?_ | refine AgreeOff.mixs rfl ?_)) ⟨rfl, rfl, rfl, rfl, trivial⟩, H, hb1, HD, fun h => ⟨(hal2 h).1, fun i hi => ?_⟩, by omega, by omega, by omega, by omega⟩
              rcases Nat.lt_or_ge i j1 with h1 | h1
              · exact (hal2 h).2 i h1
              · rw [show i = j1 by omega]; exact (wantsAt_iff hj1).2 hc
            · refine WP.region ?_
              refine RL.r (asgB rfl) rfl ?_
              refine RL.nil ?_
              refine WP.region ?_
              refine RL.r (mvI rfl) rfl ?_
              refine RL.r (add rfl rfl (by omega)) rfl ?_
              refine RL.r (asgI rfl) rfl ?_
              refine RL.nil ?_
              refine ⟨k1 - 1, by omega, j1 + 1, false, lo, hi, by omega, Head.intro (by repeat (first | with_reducible exact AgreeOff.mix _ _ _ | refine AgreeOff.look rfl ?_ | refine AgreeOff.mixs rfl ?_)) ⟨rfl, rfl, rfl, rfl, trivial⟩, H, hb1, HD, (fun h => by cases h), hlo, hlo9, hhi0, hhi⟩
        · refine WP.exit ?_
          refine WP.regionS ?_
          refine RL.r (mvI rfl) rfl ?_
          refine RL.r (mvI rfl) rfl ?_
          refine RL.r (add rfl rfl (by omega)) rfl ?_
          refine RL.r (gtr rfl rfl) rfl ?_
          refine RL.nil ?_
          refine WP.cond rfl (fun hc => ?_) (fun hc => ?_)
          · refine WP.regionS ?_
            refine RL.r (asgB rfl) rfl ?_
            refine RL.nil ?_
            refine WP.ret ?_
            refine fin1_ret rfl ⟨absurd hc (by omega), H⟩
          · refine WP.skip ?_
            refine WP.region ?_
            refine RL.r (mvI rfl) rfl ?_
            refine RL.r (add rfl rfl (by omega)) rfl ?_
            refine RL.r (asgI rfl) rfl ?_
            refine RL.nil ?_
            refine ⟨k - 1, by omega, j + 1, al2, by omega, Head.intro (by repeat (first | with_reducible exact AgreeOff.mix _ _ _ | refine AgreeOff.look rfl ?_ | refine AgreeOff.mixs rfl ?_)) ⟨rfl, rfl, trivial⟩, H, hb1, HD, fun h t ht i hi => ?_⟩
            rw [List.take_succ_eq_append_getElem hj] at ht
            rcases List.mem_append.1 ht with ht | ht
            · exact (hal2 h).1 t ht i hi
            · rw [List.mem_singleton.1 ht]; exact (hal2 h).2 i (by omega)
      · refine WP.exit ?_
        refine WP.regionS ?_
        refine RL.r (asgI rfl) rfl ?_
        refine RL.r (asgI rfl) rfl ?_
        refine RL.nil ?_
        refine WP.seq ?_
        refine WP.regionS ?_
        refine RL.r (asgI rfl) rfl ?_
        refine RL.nil ?_
        refine WP.block ?_
        obtain ⟨q, hq64, hq⟩ : ∃ q, q ≤ 64 ∧ (al = true → ∀ r ∈ robinG L1 M1, q ≤ r.length ∧ r.length ≤ q + 1) := by
          by_cases h : al = true
          · obtain ⟨q, h1, h2⟩ := robin_fair hck (fun t ht => hal h t (by rwa [List.take_of_length_le (by omega)]))
            exact ⟨q, h1, fun _ => h2⟩
          · exact ⟨0, by omega, fun h' => absurd h' h⟩
        refine WP.loop (fun k3 e' w' => ∃ j3 : Nat, ∃ (lo hi : Int),  j3 + k3 = gb.length ∧ Head [14, 15, 16, 141, 142, 143, 144, 145, 146, 147, 148, 149, 150, 151, 152, 153, 154, 155, 156, 157, 158, 159, 160] _ [(14, .int .i64 lo), (15, .int .i64 hi), (16, .int .i64 (j3 : Int))] e' ∧ Ext w0 w' ∧ Box w0.heap.size w' i1 25 [.slice a1 L1.length c1, .slice b1 M1.length d1] ∧ Ext w5 w' ∧ 0 ≤ lo ∧ lo ≤ 99 ∧ 0 ≤ hi ∧ hi ≤ 64 ∧ (al = true → (q : Int) ≤ lo ∧ hi ≤ (q : Int) + 1)) (gb.length)
          ⟨0, 99, 0, by omega, Head.intro (AgreeOff.refl _ _) ⟨rfl, rfl, rfl, trivial⟩, H, hb1, HD, by omega, by omega, by omega, by omega, fun _ => by omega⟩ ?_
        clear H hb1 HD
        rintro k3 e w16 ⟨j3, lo, hi, hjk3, ⟨jk3, rfl⟩, H, hb1, HD, hlo0, hlo9, hhi0, hhi9, hlh⟩
        refine WP.seq ?_
        refine WP.regionS ?_
        refine RL.r (mvI rfl) rfl ?_
        refine RL.r (mvL rfl) rfl ?_
        refine RL.r (len_sl rfl) rfl ?_
        refine RL.r (lss rfl rfl) rfl ?_
        refine RL.nil ?_
        refine WP.cond rfl (fun hc => ?_) (fun hc => ?_)
        · refine WP.skip ?_
          refine WP.seq ?_
          refine WP.block ?_
          refine WP.regionS ?_
          refine RL.r (mvI rfl) rfl ?_
          refine RL.r (mvL rfl) rfl ?_
          refine RL.r (mvI rfl) rfl ?_
          have hj3 : j3 < gb.length := by omega
          obtain ⟨pb, rfl⟩ := hGb5.head.sl.isAddr (by decide) hj3
          have hmem : gb[j3].l ∈ robinG L1 M1 := by rw [← hrb5]; exact List.mem_map.2 ⟨gb[j3], List.getElem_mem hj3, rfl⟩
          have hl64 := robinG_le hck _ hmem
          have hqr := fun h => hq h _ hmem
          refine RL.r (ix rfl rfl rfl hj3) rfl ?_
          refine RL.m (ld_e0 rfl hGb5.head.sl HD rfl hj3 rfl) rfl ?_
          refine RL.r (len_sl rfl) rfl ?_
          refine RL.r (min_i rfl rfl) rfl ?_
          refine RL.r (asgI rfl) rfl ?_
          refine RL.nil ?_
          refine WP.region ?_
          refine RL.r (mvI rfl) rfl ?_
          refine RL.r (mvL rfl) rfl ?_
          refine RL.r (mvI rfl) rfl ?_
          refine RL.r (ix rfl rfl rfl hj3) rfl ?_
          refine RL.m (ld_e0 rfl hGb5.head.sl HD rfl hj3 rfl) rfl ?_
          refine RL.r (len_sl rfl) rfl ?_
          refine RL.r (max_i rfl rfl) rfl ?_
          refine RL.r (asgI rfl) rfl ?_
          refine RL.nil ?_
          refine WP.region ?_
          refine RL.r (mvI rfl) rfl ?_
          refine RL.r (add rfl rfl (by omega)) rfl ?_
          refine RL.r (asgI rfl) rfl ?_
          refine RL.nil ?_
          refine ⟨k3 - 1, by omega, j3 + 1, _, _, by omega, Head.intro (by repeat (first | with_reducible exact AgreeOff.mix _ _ _ | refine AgreeOff.look rfl ?_ | refine AgreeOff.mixs rfl ?_)) ⟨rfl, rfl, rfl, trivial⟩, H, hb1, HD, by omega, by omega, by omega, by omega, fun h => by have h1 := hqr h; have h2 := hlh h; omega⟩
        · refine WP.exit ?_
          refine WP.seq (WP.quiet ?_)
          refine QL.r (mvB rfl) rfl ?_
          first | refine QL.r (notD rfl) rfl ?_ | refine QL.r (not_ rfl) rfl ?_
          refine QL.r (mvB rfl) rfl ?_
          refine QL.gg (gwF rfl rfl) (fun hg => (mvI rfl).does _) rfl ?_
          refine QL.gg (gwF rfl rfl) (fun hg => (mvI rfl).does _) rfl ?_
          refine QL.gg (gwF rfl rfl) (fun hg => (add (gs hg rfl) rfl (by omega)).does _) rfl ?_
          refine QL.gg (gwF rfl rfl) (fun hg => (leq (gs hg rfl) (gs hg rfl)).does _) rfl ?_
          refine QL.r (pickOr rfl (fun hn => gs hn rfl)) rfl ?_
          refine QL.r (mvB rfl) rfl ?_
          -- call stagecoach/stagecoachlaw10.fixed 
          refine QL.gcall (gwT rfl rfl) (fun hg w' hw' => lFixed' w') (fun hg => EvL.nil) rfl ?_
          refine QL.r (pickAnd rfl (fun hn => gs hn rfl)) rfl ?_
          refine QL.r (asgB rfl) rfl ?_
          refine QL.nil ?_; intro w18 hx; replace H := H.ext hx; replace hb1 := hb1.ext hx; replace HD := HD.ext hx
          refine WP.ret ?_
          refine fin1_ret rfl ⟨congrArg Value.bool (bT ⟨by by_cases h : al = true; (exact Or.inr (by have := hlh h; omega)); (exact Or.inl h), trivial⟩).symm, H⟩
end Go.Proofs.Ytoebejfffakjpaa
