/-
  Names: walks and laws, written by gen/gen.py out of gen/thy/Names.py.
-/
import Derived.Test.YtdcckaamepilcaaSpec
import Derived.Test.YtdcckaamepilcaaStr
set_option linter.unusedVariables false
namespace Go.Proofs.Ytdcckaamepilcaa
open Go Go.Eng Go.RowKit
theorem rName (w0 : World) (s : ByteArray) :
    Ct Try.prog 40 #[.string s] w0 fun v w' => v = .bool (decide (nameB s)) ∧ Ext w0 w' := by
  refine Ct.intro1 Try.func40 Try.ntmps40 rfl rfl (by decide) rfl ?_
  have H : Ext w0 w0 := Ext.refl w0
  refine WP.regionS ?_
  refine RL.r (asgB rfl) rfl ?_
  refine RL.nil ?_
  refine WP.seq ?_
  refine WP.seq (WP.quiet ?_)
  refine QL.r (mvS rfl) rfl ?_
  refine QL.r (len_str rfl) rfl ?_
  refine QL.r (lss rfl rfl) rfl ?_
  refine QL.r (mvB rfl) rfl ?_
  refine QL.gg (gwF rfl rfl) (fun hg => (mvS rfl).does _) rfl ?_
  refine QL.gg (gwF rfl rfl) (fun hg => (len_str (gs hg rfl)).does _) rfl ?_
  refine QL.gg (gwF rfl rfl) (fun hg => (gtr (gs hg rfl) rfl).does _) rfl ?_
  refine QL.r (pickOr rfl (fun hn => gs hn rfl)) rfl ?_
  refine QL.nil ?_; intro w1 hx; replace H := H.ext hx
  refine WP.cond rfl (fun hc => ?_) (fun hc => ?_)
  · refine WP.regionS ?_
    refine RL.r (asgB rfl) rfl ?_
    refine RL.nil ?_
    refine WP.ret ?_
    refine fin1_ret rfl ⟨congrArg Value.bool (bF fun h => by have h1 := h.1; have h2 := h.2.1; omega), H⟩
  · refine WP.skip ?_
    refine WP.seq ?_
    refine WP.regionS ?_
    refine RL.r (asgI rfl) rfl ?_
    refine RL.nil ?_
    refine WP.block ?_
    refine WP.loop (fun k e' w' => ∃ j : Nat,  j + k = s.size ∧ Head [2, 3, 4, 13, 14, 15, 16, 17, 18, 19, 20, 21, 22, 23, 24, 25, 26, 27, 28, 29, 30, 31, 32, 33, 34, 35, 36, 37, 38, 39, 40] _ [(3, .int .i64 (j : Int))] e' ∧ Ext w0 w' ∧ ∀ (i : Nat) (h : i < s.size), i < j → okb s[i] = true) (s.size)
      ⟨0, by omega, Head.intro (AgreeOff.refl _ _) ⟨rfl, trivial⟩, H, fun i h hi => by omega⟩ ?_
    clear H
    rintro k e w2 ⟨j, hjk, ⟨jk, rfl⟩, H, hok⟩
    refine WP.seq ?_
    refine WP.regionS ?_
    refine RL.r (mvI rfl) rfl ?_
    refine RL.r (mvS rfl) rfl ?_
    refine RL.r (len_str rfl) rfl ?_
    refine RL.r (lss rfl rfl) rfl ?_
    refine RL.nil ?_
    refine WP.cond rfl (fun hc => ?_) (fun hc => ?_)
    · refine WP.skip ?_
      refine WP.seq ?_
      refine WP.block ?_
      refine WP.regionS ?_
      refine RL.r (mvS rfl) rfl ?_
      refine RL.r (mvI rfl) rfl ?_
      refine RL.r (ix_str rfl rfl rfl (by omega)) rfl ?_
      refine RL.r (asgI rfl) rfl ?_
      refine RL.nil ?_
      refine WP.seq (WP.quiet ?_)
      refine QL.r (mvI rfl) rfl ?_
      refine QL.r (geq rfl rfl) rfl ?_
      refine QL.r (mvB rfl) rfl ?_
      refine QL.gg (gwT rfl rfl) (fun hg => (mvI rfl).does _) rfl ?_
      refine QL.gg (gwT rfl rfl) (fun hg => (leq (gs hg rfl) rfl).does _) rfl ?_
      refine QL.r (pickAnd rfl (fun hn => gs hn rfl)) rfl ?_
      refine QL.r (mvB rfl) rfl ?_
      refine QL.gg (gwF rfl rfl) (fun hg => (mvI rfl).does _) rfl ?_
      refine QL.gg (gwF rfl rfl) (fun hg => (geq (gs hg rfl) rfl).does _) rfl ?_
      refine QL.gg (gwF rfl rfl) (fun hg => (mvv (gs hg rfl)).does _) rfl ?_
      refine QL.gg (gwTT rfl rfl) (fun hg => (mvI rfl).does _) rfl ?_
      refine QL.gg (gwTT rfl rfl) (fun hg => (leq (gs hg rfl) rfl).does _) rfl ?_
      refine QL.gg (gwF rfl rfl) (fun hg => (pickAnd (gs hg rfl) (fun hn => gs ⟨hg, hn⟩ rfl)).does _) rfl ?_
      refine QL.r (pickOr rfl (fun hn => gs hn rfl)) rfl ?_
      refine QL.r (mvB rfl) rfl ?_
      refine QL.gg (gwF rfl rfl) (fun hg => (mvI rfl).does _) rfl ?_
      refine QL.gg (gwF rfl rfl) (fun hg => (eql (gs hg rfl) rfl).does _) rfl ?_
      refine QL.r (pickOr rfl (fun hn => gs hn rfl)) rfl ?_
      first | refine QL.r (notD rfl) rfl ?_ | refine QL.r (not_ rfl) rfl ?_
      refine QL.nil ?_; intro w3 hx; replace H := H.ext hx
      refine WP.cond rfl (fun hc => ?_) (fun hc => ?_)
      · refine WP.regionS ?_
        refine RL.r (asgB rfl) rfl ?_
        refine RL.nil ?_
        refine WP.ret ?_
        refine fin1_ret rfl ⟨congrArg Value.bool (bF fun h => ?_), H⟩
        have h3 := h.2.2 j (by omega)
        simp only [okb, decide_eq_true_eq] at h3
        omega
      · refine WP.skip ?_
        refine WP.region ?_
        refine RL.r (mvI rfl) rfl ?_
        refine RL.r (add rfl rfl (by omega)) rfl ?_
        refine RL.r (asgI rfl) rfl ?_
        refine RL.nil ?_
        refine ⟨k - 1, by omega, j + 1, by omega, Head.intro (by repeat (first | with_reducible exact AgreeOff.mix _ _ _ | refine AgreeOff.look rfl ?_ | refine AgreeOff.mixs rfl ?_)) ⟨rfl, trivial⟩, H, fun i h hi => ?_⟩
        by_cases hij : i < j
        · exact hok i h hij
        · obtain rfl : i = j := by omega
          simp only [okb, decide_eq_true_eq]
          omega
    · refine WP.exit ?_
      refine WP.regionS ?_
      refine RL.r (asgB rfl) rfl ?_
      refine RL.nil ?_
      refine WP.ret ?_
      refine fin1_ret rfl ⟨congrArg Value.bool (bT ⟨by omega, by omega, fun i h => hok i h (by omega)⟩), H⟩
theorem pOdd (w0 : World) (c : Int) :
    Ct Try.prog 48 #[.int .i32 c] w0 fun v w' => v = .bool (decide (((c < 97 ∨ 122 < c) ∧ (c < 48 ∨ 57 < c)) ∧ c ≠ 45)) ∧ Ext w0 w' := by
  refine Ct.intro1 Try.func48 Try.ntmps48 rfl rfl (by decide) rfl ?_
  have H : Ext w0 w0 := Ext.refl w0
  refine WP.regionS ?_
  refine RL.r (asgB rfl) rfl ?_
  refine RL.nil ?_
  refine WP.seq (WP.quiet ?_)
  refine QL.r (mvI rfl) rfl ?_
  refine QL.r (lss rfl rfl) rfl ?_
  refine QL.r (mvB rfl) rfl ?_
  refine QL.gg (gwF rfl rfl) (fun hg => (mvI rfl).does _) rfl ?_
  refine QL.gg (gwF rfl rfl) (fun hg => (gtr (gs hg rfl) rfl).does _) rfl ?_
  refine QL.r (pickOr rfl (fun hn => gs hn rfl)) rfl ?_
  refine QL.r (mvB rfl) rfl ?_
  refine QL.gg (gwT rfl rfl) (fun hg => (mvI rfl).does _) rfl ?_
  refine QL.gg (gwT rfl rfl) (fun hg => (lss (gs hg rfl) rfl).does _) rfl ?_
  refine QL.gg (gwT rfl rfl) (fun hg => (mvv (gs hg rfl)).does _) rfl ?_
  refine QL.gg (gwTF rfl rfl) (fun hg => (mvI rfl).does _) rfl ?_
  refine QL.gg (gwTF rfl rfl) (fun hg => (gtr (gs hg rfl) rfl).does _) rfl ?_
  refine QL.gg (gwT rfl rfl) (fun hg => (pickOr (gs hg rfl) (fun hn => gs ⟨hg, hn⟩ rfl)).does _) rfl ?_
  refine QL.r (pickAnd rfl (fun hn => gs hn rfl)) rfl ?_
  refine QL.r (mvB rfl) rfl ?_
  refine QL.gg (gwT rfl rfl) (fun hg => (mvI rfl).does _) rfl ?_
  refine QL.gg (gwT rfl rfl) (fun hg => (neq (gs hg rfl) rfl).does _) rfl ?_
  refine QL.r (pickAnd rfl (fun hn => gs hn rfl)) rfl ?_
  refine QL.r (asgB rfl) rfl ?_
  refine QL.nil ?_; intro w1 hx; replace H := H.ext hx
  refine WP.ret ?_
  refine fin1_ret rfl ⟨rfl, H⟩
theorem pIndex (w0 : World) (s : ByteArray) :
    Ct Try.prog 68 #[.string s, .func (.func 48) #[] #[], .bool true] w0 fun v w' => (∃ r : Int, v = .int .i64 r ∧ (0 ≤ r ↔ ¬ ∀ (i : Nat) (h : i < s.size), okb s[i] = true)) ∧ Ext w0 w' := by
  refine Ct.intro1 Try.func68 Try.ntmps68 rfl rfl (by decide) rfl ?_
  have H : Ext w0 w0 := Ext.refl w0
  refine WP.regionS ?_
  refine RL.r (asgI rfl) rfl ?_
  refine RL.nil ?_
  refine WP.seq ?_
  refine WP.regionS ?_
  refine RL.r (mvS rfl) rfl ?_
  refine RL.rangeS rfl rfl ?_
  intro w1 it hit hx hI
  have hitB : w0.heap.size ≤ it := by have := H.size; omega
  replace H := H.ext hx
  refine RL.nil ?_
  refine WP.block ?_
  refine WP.loop (fun k e' w' => ∃ j : Nat,  j + k = s.size ∧ Head [6, 7, 8, 11, 12, 13, 14, 15, 16, 17, 18, 19, 20] _ [] e' ∧ Ext w0 w' ∧ w'.heap[it]? = some (.stringIter s j) ∧ ∀ (i : Nat) (h : i < s.size), i < j → okb s[i] = true) (s.size)
    ⟨0, by omega, Head.intro (AgreeOff.refl _ _) trivial, H, hI, fun i h hi => by omega⟩ ?_
  clear H
  rintro k e w2 ⟨j, hjk, ⟨jk, rfl⟩, H, hI, hok⟩
  refine WP.regionS ?_
  refine RL.nextS rfl hI rfl ?_
  intro w3 hu hI; replace H := H.box hu hitB
  refine RL.r (ex0n rfl) rfl ?_
  refine RL.nil ?_
  refine WP.seq ?_
  refine WP.cond rfl (fun hc => ?_) (fun hc => ?_)
  · refine WP.skip ?_
    refine WP.block ?_
    refine WP.regionS ?_
    refine RL.r (ex1n rfl (by omega)) rfl ?_
    refine RL.r (ex2n rfl (by omega)) rfl ?_
    refine RL.r (asgI rfl) rfl ?_
    refine RL.r (asgI rfl) rfl ?_
    refine RL.nil ?_
    refine WP.regionS ?_
    refine RL.r (mvF rfl) rfl ?_
    refine RL.r (mvI rfl) rfl ?_
    -- call VALUE (tmp 15) (tmp 16)
    refine RL.callv0 rfl ((pOdd _ _)) rfl rfl ?_
    rintro _ w4 ⟨rfl, hx⟩
    replace H := H.ext hx
    refine RL.r (mvB rfl) rfl ?_
    refine RL.r (beql rfl rfl) rfl ?_
    refine RL.nil ?_
    refine WP.cond rfl (fun hc => ?_) (fun hc => ?_)
    · refine WP.regionS ?_
      refine RL.r (mvI rfl) rfl ?_
      refine RL.r (asgI rfl) rfl ?_
      refine RL.nil ?_
      refine WP.ret ?_
      refine fin1_ret rfl ⟨⟨_, rfl, ?_⟩, H⟩
      constructor
      · intro _ hall
        have h1 := hall j (by omega)
        simp only [okb, decide_eq_true_eq] at h1
        by_cases ha : (s[j]'(by omega)).toNat < 128
        · rw [decode_ascii s j (by omega) ha] at hc
          simp only [decide_eq_true_eq] at hc
          omega
        · omega
      · intro _; omega
    · refine WP.skip ?_
      simp only [decide_eq_true_eq] at hc
      have ha : (s[j]'(by omega)).toNat < 128 := by
        rcases Nat.lt_or_ge (s[j]'(by omega)).toNat 128 with h | h
        · exact h
        · have := (decode_high s j (by omega) h).1; omega
      rw [decode_ascii s j (by omega) ha] at hc
      simp only at hc
      have hn : nextPos s j = j + 1 := by simp [nextPos, decode_ascii s j (by omega) ha]; omega
      rw [hn] at hI
      replace hI := hx.heap hI
      refine ⟨k - 1, by omega, j + 1, by omega, Head.intro (by repeat (first | with_reducible exact AgreeOff.mix _ _ _ | refine AgreeOff.look rfl ?_ | refine AgreeOff.mixs rfl ?_)) trivial, H, hI, fun i h hi => ?_⟩
      by_cases hij : i < j
      · exact hok i h hij
      · obtain rfl : i = j := by omega
        simp only [okb, decide_eq_true_eq]
        omega
  · refine WP.exit ?_
    refine WP.regionS ?_
    refine RL.r (asgI rfl) rfl ?_
    refine RL.nil ?_
    refine WP.ret ?_
    refine fin1_ret rfl ⟨⟨_, rfl, by constructor; (intro h; omega); (intro h; exact absurd (fun i hi => hok i hi (by omega)) h)⟩, H⟩
theorem pIndexF (w0 : World) (s : ByteArray) :
    Ct Try.prog 61 #[.string s, .func (.func 48) #[] #[]] w0 fun v w' => (∃ r : Int, v = .int .i64 r ∧ (0 ≤ r ↔ ¬ ∀ (i : Nat) (h : i < s.size), okb s[i] = true)) ∧ Ext w0 w' := by
  refine Ct.intro1 Try.func61 Try.ntmps61 rfl rfl (by decide) rfl ?_
  have H : Ext w0 w0 := Ext.refl w0
  refine WP.regionS ?_
  refine RL.r (asgI rfl) rfl ?_
  refine RL.nil ?_
  refine WP.regionS ?_
  refine RL.r (mvS rfl) rfl ?_
  refine RL.r (mvF rfl) rfl ?_
  -- call strings.indexFunc (tmp 5) (tmp 6) (const (bool true))
  refine RL.call (pIndex _ _) rfl rfl ?_
  rintro v w1 ⟨⟨r, rfl, hr⟩, hx⟩
  replace H := H.ext hx
  refine RL.r (asgI rfl) rfl ?_
  refine RL.nil ?_
  refine WP.ret ?_
  refine fin1_ret rfl ⟨⟨r, rfl, hr⟩, H⟩
theorem pContains (w0 : World) (s : ByteArray) :
    Ct Try.prog 49 #[.string s, .func (.func 48) #[] #[]] w0 fun v w' => v = .bool (decide (¬ ∀ (i : Nat) (h : i < s.size), okb s[i] = true)) ∧ Ext w0 w' := by
  refine Ct.intro1 Try.func49 Try.ntmps49 rfl rfl (by decide) rfl ?_
  have H : Ext w0 w0 := Ext.refl w0
  refine WP.regionS ?_
  refine RL.r (asgB rfl) rfl ?_
  refine RL.nil ?_
  refine WP.regionS ?_
  refine RL.r (mvS rfl) rfl ?_
  refine RL.r (mvF rfl) rfl ?_
  -- call strings.IndexFunc (tmp 5) (tmp 6)
  refine RL.call (pIndexF _ _) rfl rfl ?_
  rintro v w1 ⟨⟨r, rfl, hr⟩, hx⟩
  replace H := H.ext hx
  refine RL.r (geq rfl rfl) rfl ?_
  refine RL.r (asgB rfl) rfl ?_
  refine RL.nil ?_
  refine WP.ret ?_
  refine fin1_ret rfl ⟨congrArg Value.bool (bD hr), H⟩
theorem pName (w0 : World) (s : ByteArray) :
    Ct Try.prog 39 #[.string s] w0 fun v w' => v = .bool (decide (nameB s)) ∧ Ext w0 w' := by
  refine Ct.intro1 Try.func39 Try.ntmps39 rfl rfl (by decide) rfl ?_
  have H : Ext w0 w0 := Ext.refl w0
  refine WP.regionS ?_
  refine RL.r (asgB rfl) rfl ?_
  refine RL.nil ?_
  refine WP.regionS ?_
  refine RL.r (asgF rfl) rfl ?_
  refine RL.nil ?_
  refine WP.seq (WP.quiet ?_)
  refine QL.r (mvS rfl) rfl ?_
  refine QL.r (sneq rfl rfl) rfl ?_
  refine QL.r (mvB rfl) rfl ?_
  refine QL.gg (gwT rfl rfl) (fun hg => (mvS rfl).does _) rfl ?_
  refine QL.gg (gwT rfl rfl) (fun hg => (len_str (gs hg rfl)).does _) rfl ?_
  refine QL.gg (gwT rfl rfl) (fun hg => (leq (gs hg rfl) rfl).does _) rfl ?_
  refine QL.r (pickAnd rfl (fun hn => gs hn rfl)) rfl ?_
  refine QL.r (mvB rfl) rfl ?_
  refine QL.gg (gwT rfl rfl) (fun hg => (mvS rfl).does _) rfl ?_
  refine QL.gg (gwT rfl rfl) (fun hg => (mvF rfl).does _) rfl ?_
  -- call strings.ContainsFunc (tmp 12) (tmp 13)
  refine QL.gcall (gwT rfl rfl) (fun hg w' hw' => pContains w' s) (fun hg => EvL.cons (gs hg rfl) (EvL.cons (gs hg rfl) (EvL.nil))) rfl ?_
  first | refine QL.gg (gwT rfl rfl) (fun hg => (notD (gs hg rfl)).does _) rfl ?_ | refine QL.gg (gwT rfl rfl) (fun hg => (not_ (gs hg rfl)).does _) rfl ?_
  refine QL.r (pickAnd rfl (fun hn => gs hn rfl)) rfl ?_
  refine QL.r (asgB rfl) rfl ?_
  refine QL.nil ?_; intro w2 hx; replace H := H.ext hx
  refine WP.ret ?_
  refine fin1_ret rfl ⟨congrArg Value.bool (bD ?_), H⟩
  unfold nameB
  constructor
  · rintro ⟨⟨h1, h2⟩, h3⟩
    refine ⟨?_, by omega, Classical.not_not.1 h3⟩
    rcases Nat.lt_or_ge 0 s.size with h | h
    · omega
    · exact absurd (ByteArray.ext (Array.eq_empty_of_size_eq_zero (by show s.size = 0; omega))) h1
  · rintro ⟨h1, h2, h3⟩
    refine ⟨⟨?_, by omega⟩, fun h => h h3⟩
    rintro rfl
    exact absurd h1 (by decide)
theorem rMay (w0 : World) (s : ByteArray) (n : Int) :
    Ct Try.prog 31 #[.string s, .int .i64 n] w0 fun v w' => v = .bool (decide (nameB s ∧ 1 ≤ n ∧ n ≤ 8)) ∧ Ext w0 w' := by
  refine Ct.intro1 Try.func31 Try.ntmps31 rfl rfl (by decide) rfl ?_
  have H : Ext w0 w0 := Ext.refl w0
  refine WP.regionS ?_
  refine RL.r (asgB rfl) rfl ?_
  refine RL.nil ?_
  refine WP.seq (WP.quiet ?_)
  refine QL.r (mvS rfl) rfl ?_
  -- call stagecoach/stagecoachref04.Name (tmp 5)
  refine QL.call (fun w' hw' => rName w' s) rfl rfl ?_
  refine QL.r (mvB rfl) rfl ?_
  refine QL.gg (gwT rfl rfl) (fun hg => (mvI rfl).does _) rfl ?_
  refine QL.gg (gwT rfl rfl) (fun hg => (geq (gs hg rfl) rfl).does _) rfl ?_
  refine QL.r (pickAnd rfl (fun hn => gs hn rfl)) rfl ?_
  refine QL.r (mvB rfl) rfl ?_
  refine QL.gg (gwT rfl rfl) (fun hg => (mvI rfl).does _) rfl ?_
  refine QL.gg (gwT rfl rfl) (fun hg => (leq (gs hg rfl) rfl).does _) rfl ?_
  refine QL.r (pickAnd rfl (fun hn => gs hn rfl)) rfl ?_
  refine QL.r (asgB rfl) rfl ?_
  refine QL.nil ?_; intro w2 hx; replace H := H.ext hx
  refine WP.ret ?_
  refine fin1_ret rfl ⟨congrArg Value.bool (bD and_assoc), H⟩
theorem pMay (w0 : World) (s : ByteArray) (n : Int) :
    Ct Try.prog 30 #[.string s, .int .i64 n] w0 fun v w' => v = .bool (decide (nameB s ∧ 1 ≤ n ∧ n ≤ 8)) ∧ Ext w0 w' := by
  refine Ct.intro1 Try.func30 Try.ntmps30 rfl rfl (by decide) rfl ?_
  have H : Ext w0 w0 := Ext.refl w0
  refine WP.regionS ?_
  refine RL.r (asgB rfl) rfl ?_
  refine RL.nil ?_
  refine WP.seq (WP.quiet ?_)
  refine QL.r (mvS rfl) rfl ?_
  -- call stagecoach/request.Name (tmp 5)
  refine QL.call (fun w' hw' => pName w' s) rfl rfl ?_
  refine QL.r (mvB rfl) rfl ?_
  refine QL.gg (gwT rfl rfl) (fun hg => (mvI rfl).does _) rfl ?_
  refine QL.gg (gwT rfl rfl) (fun hg => (geq (gs hg rfl) rfl).does _) rfl ?_
  refine QL.r (pickAnd rfl (fun hn => gs hn rfl)) rfl ?_
  refine QL.r (mvB rfl) rfl ?_
  refine QL.gg (gwT rfl rfl) (fun hg => (mvI rfl).does _) rfl ?_
  refine QL.gg (gwT rfl rfl) (fun hg => (leq (gs hg rfl) rfl).does _) rfl ?_
  refine QL.r (pickAnd rfl (fun hn => gs hn rfl)) rfl ?_
  refine QL.r (asgB rfl) rfl ?_
  refine QL.nil ?_; intro w2 hx; replace H := H.ext hx
  refine WP.ret ?_
  refine fin1_ret rfl ⟨congrArg Value.bool (bD and_assoc), H⟩
end Go.Proofs.Ytdcckaamepilcaa
