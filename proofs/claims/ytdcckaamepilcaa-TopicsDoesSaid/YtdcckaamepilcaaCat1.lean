/-
  The walks of a catalog's Load and Parts.
-/
import Derived.Test.YtdcckaamepilcaaReads09
set_option linter.unusedVariables false
namespace Go.Proofs.Ytdcckaamepilcaa
open Go Go.Eng Go.RowKit
theorem tupP {p : Option Addr} {x y : Int} (h : x = y) : Value.tuple #[.pointer p, .int .i64 x] = Value.tuple #[.pointer p, .int .i64 y] := by rw [h]
theorem okC_take {l : List Topic} {j : Nat} (hl : l.length ≤ 8) (h : ∀ (i : Nat) (h : i < l.length), i < j → topicAt l i h) : okC (l.take j) := by
  refine ⟨?_, ?_, ?_⟩
  · refine srt_of fun i hi h0 => ?_
    rw [List.length_take] at hi
    rw [List.getElem_take, List.getElem_take]
    exact (h i (by omega) (by omega)).2 h0
  · intro x hx
    obtain ⟨i, hi, rfl⟩ := List.getElem_of_mem hx
    rw [List.length_take] at hi
    rw [List.getElem_take]
    exact (h i (by omega) (by omega)).1
  · rw [List.length_take]; omega
theorem topicsE_ok {l : List Topic} (h : topicsE l = 0) : okC l := by
  unfold topicsE at h
  split at h
  · cases h
  · split at h
    · rename_i h1 h2
      have := okC_take (l := l) (j := l.length) (by omega) (fun i hi _ => h2 i hi)
      rwa [List.take_length] at this
    · cases h
theorem okC_topicsE {l : List Topic} (h : okC l) : topicsE l = 0 := by
  unfold topicsE
  have hl := h.len
  rw [if_neg (by omega), if_pos]
  intro i hi
  refine ⟨h.may _ (List.getElem_mem hi), fun h0 => ?_⟩
  exact List.pairwise_iff_getElem.1 h.srt (i - 1) i (by omega) hi (by omega)
noncomputable def prS (names : List ByteArray) (t : ByteArray) (n : Nat) : List Part := if t ∈ names then strip t 0 n else []
theorem prS_0 (names : List ByteArray) (t : ByteArray) : prS names t 0 = [] := by unfold prS; split <;> rfl
theorem prS_yes {names : List ByteArray} {t : ByteArray} (h : t ∈ names) (n : Nat) : prS names t (n + 1) = prS names t n ++ [⟨t, (n : Int)⟩] := by
  unfold prS
  rw [if_pos h, if_pos h, strip_succ]
  simp
theorem prS_no {names : List ByteArray} {t : ByteArray} (h : ¬ t ∈ names) (n : Nat) : prS names t n = [] := by unfold prS; rw [if_neg h]
theorem prS_le (names : List ByteArray) (t : ByteArray) (n : Nat) : (prS names t n).length ≤ n := by
  unfold prS
  split
  · rw [strip_length]; exact Nat.le_refl n
  · simp
noncomputable def partsC (S : List Topic) (names : List ByteArray) : List Part := S.flatMap fun t => prS names t.name t.n.toNat
theorem partsC_s {S : List Topic} {names : List ByteArray} {j : Nat} (h : j < S.length) : partsC (S.take (j + 1)) names = partsC (S.take j) names ++ prS names S[j].name S[j].n.toNat := by
  unfold partsC
  rw [List.take_succ_eq_append_getElem h, List.flatMap_append]
  simp
theorem partsC_le {S : List Topic} (h : okC S) (names : List ByteArray) : ∀ j, j ≤ S.length → (partsC (S.take j) names).length ≤ 8 * j
  | 0, _ => by simp [partsC]
  | j + 1, hj => by
    rw [partsC_s (show j < S.length by omega), List.length_append]
    have h1 := partsC_le h names j (by omega)
    have h2 := prS_le names (S[j]'(by omega)).name (S[j]'(by omega)).n.toNat
    have h3 := (h.may (S[j]'(by omega)) (List.getElem_mem _)).2
    omega
theorem pLoad (w0 : World) (a : Option Addr) (c0 : Nat) (l : List Topic) (hl : Sl w0 a l) :
    Ct Try.prog 9 #[.slice a l.length c0] w0 fun v w' => (∃ p : Option Addr, v = .tuple #[.pointer p, .int .i64 (topicsE l)] ∧ (topicsE l = 0 → ∃ i m, p = some ⟨i, 0, none⟩ ∧ Tc w0.heap.size w' i m l) ∧ (topicsE l ≠ 0 → p = none)) ∧ Ext w0 w' := by
  refine Ct.intro2 Try.func9 Try.ntmps9 rfl rfl (by decide) rfl ?_
  have H : Ext w0 w0 := Ext.refl w0
  refine WP.regionS ?_
  refine RL.r (asgP rfl) rfl ?_
  refine RL.r (asgI rfl) rfl ?_
  refine RL.nil ?_
  refine WP.seq ?_
  refine WP.regionS ?_
  refine RL.r (mvL rfl) rfl ?_
  refine RL.r (len_sl rfl) rfl ?_
  refine RL.r (gtr rfl rfl) rfl ?_
  refine RL.nil ?_
  refine WP.cond rfl (fun hc => ?_) (fun hc => ?_)
  · refine WP.regionS ?_
    refine RL.r (asgP rfl) rfl ?_
    refine RL.r (asgI rfl) rfl ?_
    refine RL.nil ?_
    refine WP.ret ?_
    have hE : topicsE l = 2 := by unfold topicsE; rw [if_pos (by omega)]
    refine fin2_ret rfl rfl ⟨⟨none, tupP hE.symm, fun h => absurd (hE.symm.trans h) (by decide), fun _ => rfl⟩, H⟩
  · refine WP.skip ?_
    refine WP.regionS ?_
    -- call stagecoach/topics.New 
    have hszA := H.size
    refine RL.call (pNew _) rfl rfl ?_
    rintro v w1 ⟨⟨i, m, rfl, hN⟩, hx⟩
    replace H := H.ext hx
    replace hN := hN.mono hszA
    have hbt := hN.box
    refine RL.r (asgP rfl) rfl ?_
    refine RL.nil ?_
    refine WP.seq ?_
    refine WP.regionS ?_
    refine RL.r (mvL rfl) rfl ?_
    refine RL.r (len_sl rfl) rfl ?_
    refine RL.r (mvI rfl) rfl ?_
    refine RL.nil ?_
    refine WP.block ?_
    have hT0 : Tc w0.heap.size _ i m (l.take 0) := hN
    refine WP.loop (fun k e' w' => ∃ j : Nat,  j + k = l.length ∧ Head [2, 3, 5, 6, 13, 14, 15, 16, 17, 18, 19, 20, 21, 22, 23, 24, 25, 26, 27, 28, 29, 30, 31, 32, 33, 34, 35, 36, 37, 38, 39, 40, 41, 42, 43, 44, 45, 46, 47] _ [(13, .int .i64 (j : Int))] e' ∧ Ext w0 w' ∧ Box w0.heap.size w' i 60 [.map (some m)] ∧ Tc w0.heap.size w' i m (l.take j) ∧ ∀ (i : Nat) (h : i < l.length), i < j → topicAt l i h) (l.length)
      ⟨0, by omega, Head.intro (AgreeOff.refl _ _) ⟨rfl, trivial⟩, H, hbt, hT0, (fun i h hi => by omega)⟩ ?_
    clear H hbt
    rintro k e w2 ⟨j, hjk, ⟨jk, rfl⟩, H, hbt, hT, hok⟩
    obtain ⟨lb, c, hm, hr⟩ := hT.map
    have hnod := hm.nod
    refine WP.regionS ?_
    refine RL.r (lss rfl rfl) rfl ?_
    refine RL.nil ?_
    refine WP.seq ?_
    refine WP.cond rfl (fun hc => ?_) (fun hc => ?_)
    · refine WP.skip ?_
      refine WP.seq ?_
      refine WP.block ?_
      refine WP.regionS ?_
      refine RL.r (mvI rfl) rfl ?_
      have hj : j < l.length := by omega
      have hj1 : j - 1 < l.length := by omega
      obtain ⟨p, rfl⟩ := hl.isAddr (by decide) hj
      refine RL.r (ix rfl rfl rfl hj) rfl ?_
      refine RL.m (ldS_el rfl hl H rfl rfl hj) rfl ?_
      refine RL.alloc w0.heap.size H.size rfl rfl ?_
      intro w3 i6 hi6 hx hb6
      have net_6 := hbt.ne hi6
      refine RL.r (asgI rfl) rfl ?_
      refine RL.storeS rfl hb6 rfl rfl rfl rfl ?_
      intro w4 hu hb6
      replace hx := hx.box hu (Nat.le_of_eq hi6.symm)
      replace H := H.ext hx; replace hbt := hbt.ext hx; replace hm := hm.ext hx; clear hx hu
      refine RL.nil ?_
      refine WP.seq ?_
      refine WP.seq ?_
      refine WP.draw (by kernel_rfl) ?_
      refine QL.r (fa_box rfl) rfl ?_
      refine QL.m (ld_box rfl hb6 rfl) rfl ?_
      refine QL.r (fa_box rfl) rfl ?_
      refine QL.m (ld_box rfl hb6 rfl) rfl ?_
      -- call stagecoach/topics.may (tmp 19) (tmp 21)
      refine QL.call (fun w' hw' => (pMay w' _ _)) rfl rfl ?_
      first | refine QL.r (notD rfl) rfl ?_ | refine QL.r (not_ rfl) rfl ?_
      refine QL.r (mvB rfl) rfl ?_
      refine QL.gg (gwF rfl rfl) (fun hg => (mvI rfl).does _) rfl ?_
      refine QL.gg (gwF rfl rfl) (fun hg => (gtr (gs hg rfl) rfl).does _) rfl ?_
      refine QL.gg (gwF rfl rfl) (fun hg => (mvv (gs hg rfl)).does _) rfl ?_
      refine QL.gg (gwTT rfl rfl) (fun hg => (fa_box rfl).does _) rfl ?_
      refine QL.gg (gwTT rfl rfl) (fun hg => ld_box (gs hg rfl) hb6 rfl) rfl ?_
      refine QL.gg (gwTT rfl rfl) (fun hg => (mvL rfl).does _) rfl ?_
      refine QL.gg (gwTT rfl rfl) (fun hg => (mvI rfl).does _) rfl ?_
      refine QL.gg (gwTT rfl rfl) (fun hg => (sub (gs hg rfl) rfl (by omega)).does _) rfl ?_
      refine QL.gg (gwTT rfl rfl) (fun hg => (ix (gs hg rfl) (gs hg rfl) (show ((j : Int) - 1) = ((j - 1 : Nat) : Int) by omega) hj1).does _) rfl ?_
      refine QL.gg (gwTT rfl rfl) (fun hg => (fa_el hl.1 (gs hg rfl)).does _) rfl ?_
      refine QL.gg (gwTT rfl rfl) (fun hg => ld_el (gs hg rfl) hl H rfl hj1 rfl) rfl ?_
      refine QL.gg (gwTT rfl rfl) (fun hg => (sleq (gs hg rfl) (gs hg rfl)).does _) rfl ?_
      refine QL.gg (gwF rfl rfl) (fun hg => (pickAnd (gs hg rfl) (fun hn => gs ⟨hg, hn⟩ rfl)).does _) rfl ?_
      refine QL.r (pickOr rfl (fun hn => gs hn rfl)) rfl ?_
      refine QL.nil ?_; intro w6 hx; replace H := H.ext hx; replace hbt := hbt.ext hx; replace hb6 := hb6.ext hx; replace hm := hm.ext hx
      refine WP.cond rfl (fun hc => ?_) (fun hc => ?_)
      · refine WP.regionS ?_
        refine RL.r (asgP rfl) rfl ?_
        refine RL.r (asgI rfl) rfl ?_
        refine RL.nil ?_
        refine WP.ret ?_
        have hE : topicsE l = 1 := by
          unfold topicsE
          rw [if_neg (by omega), if_neg]
          intro h
          obtain ⟨h1, h2⟩ := h j hj
          rcases hc with hc | ⟨hc, hc'⟩
          · exact hc h1
          · exact hc' (h2 (by omega))
        refine fin2_ret rfl rfl ⟨⟨none, tupP hE.symm, fun h => absurd (hE.symm.trans h) (by decide), fun _ => rfl⟩, H⟩
      · refine WP.skip ?_
        refine WP.any ?_
        intro w7 hx; replace H := H.ext hx; replace hbt := hbt.ext hx; replace hb6 := hb6.ext hx; replace hm := hm.ext hx
        refine AL.p 0 (by kernel_rfl) rfl (mvP rfl) rfl ?_
        refine AL.p 1 (by kernel_rfl) rfl (nilck rfl) rfl ?_
        refine AL.p 2 (by kernel_rfl) rfl (fa_box rfl) rfl ?_
        refine AL.p 4 (by kernel_rfl) rfl (fa_box rfl) rfl ?_
        refine AL.p 6 (by kernel_rfl) rfl (fa_box rfl) rfl ?_
        refine AL.m 3 (by kernel_rfl) rfl (ld_box rfl hbt rfl) rfl ?_
        refine AL.m 5 (by kernel_rfl) rfl (ld_box rfl hb6 rfl) rfl ?_
        refine AL.m 7 (by kernel_rfl) rfl (ld_box rfl hb6 rfl) rfl ?_
        refine AL.o 8 (by kernel_rfl) rfl ?_
        refine RL.updM (k := l[j].name) (v := .int .i64 l[j].n) rfl hm rfl rfl ?_
        intro w8 hu hm'
        replace hbt := hbt.upd hu (fun e => hm.neb hbt e.symm)
        replace hb6 := hb6.upd hu (fun e => hm.neb hb6 e.symm)
        replace H := H.mp hu hm.old
        refine RL.nil ?_
        refine AL.nil (by kernel_rfl) ?_
        refine WP.region ?_
        refine RL.r (add rfl rfl (by omega)) rfl ?_
        refine RL.r (mvI rfl) rfl ?_
        refine RL.nil ?_
        have hgood : topicAt l j hj := ⟨Classical.byContradiction fun h1 => hc (.inl h1), fun h0 => Classical.byContradiction fun h1 => hc (.inr ⟨by omega, h1⟩)⟩
        have hok2 : ∀ (i : Nat) (h : i < l.length), i < j + 1 → topicAt l i h := by
          intro i h hi
          by_cases hij : i < j
          · exact hok i h hij
          · obtain rfl : i = j := by omega
            exact hgood
        have hokc := okC_take (by omega) hok2
        refine ⟨k - 1, by omega, j + 1, by omega, Head.intro (by repeat (first | with_reducible exact AgreeOff.mix _ _ _ | refine AgreeOff.look rfl ?_ | refine AgreeOff.mixs rfl ?_)) ⟨rfl, trivial⟩, H, hbt, ⟨hbt, ⟨_, _, hm', by rw [← ePut_take hj hokc.srt]; exact rep_put (m := l[j]) hr hnod _⟩, hokc⟩, hok2⟩
    · refine WP.exit ?_
      refine WP.regionS ?_
      refine RL.r (mvP rfl) rfl ?_
      refine RL.r (asgP rfl) rfl ?_
      refine RL.r (asgI rfl) rfl ?_
      refine RL.nil ?_
      refine WP.ret ?_
      have hall : l.take j = l := List.take_of_length_le (by omega)
      rw [hall] at hT
      have hE : topicsE l = 0 := okC_topicsE hT.ok
      refine fin2_ret rfl rfl ⟨⟨_, tupP hE.symm, fun _ => ⟨i, m, rfl, hT⟩, fun h => absurd hE h⟩, H⟩
theorem pParts (w0 : World) (B i m : Nat) (S : List Topic) (hT : Tc B w0 i m S) (a2 : Option Addr) (c2 : Nat) (names : List ByteArray) (hn : Sl w0 a2 names) (hnl : names.length ≤ 1000) :
    Ct Try.prog 16 #[.pointer (some ⟨i, 0, none⟩), .slice a2 names.length c2] w0 fun v w' => (∃ a c, v = .slice a (partsC S names).length c ∧ Eng.Own w0.heap.size w' 48 a c (partsC S names)) ∧ Ext w0 w' := by
  refine Ct.intro1 Try.func16 Try.ntmps16 rfl rfl (by decide) rfl ?_
  have H : Ext w0 w0 := Ext.refl w0
  have hok := hT.ok
  have hle8 := hok.len
  refine WP.regionS ?_
  refine RL.r (asgL rfl) rfl ?_
  refine RL.nil ?_
  refine WP.regionS ?_
  refine RL.r (asgL rfl) rfl ?_
  refine RL.nil ?_
  refine WP.seq ?_
  refine WP.regionS ?_
  refine RL.r (mvP rfl) rfl ?_
  -- call (*stagecoach/topics.Catalog).List (tmp 9)
  refine RL.call (pList _ B i m S hT) rfl rfl ?_
  rintro v w1 ⟨⟨a10, c10, rfl, hL⟩, hx⟩
  replace H := H.ext hx
  refine RL.r (len_sl rfl) rfl ?_
  refine RL.r (mvI rfl) rfl ?_
  refine RL.nil ?_
  refine WP.block ?_
  refine WP.loop (fun k e' w' => ∃ j : Nat, ∃ (a5 : Option Addr) (c5 : Nat) (P5 : List Part),  j + k = S.length ∧ Head [5, 7, 8, 12, 13, 14, 15, 16, 17, 18, 19, 20, 21, 22, 23, 24, 25, 26, 27, 28, 29, 30, 31, 32, 33] _ [(5, .slice a5 P5.length c5), (12, .int .i64 (j : Int))] e' ∧ Ext w0 w' ∧ Eng.Own w0.heap.size w' 25 a10 c10 S ∧ Eng.Own w0.heap.size w' 48 a5 c5 P5 ∧ P5 = partsC (S.take j) names) (S.length)
    ⟨0, none, 0, [], by omega, Head.intro (AgreeOff.refl _ _) ⟨rfl, rfl, trivial⟩, H, hL, Own.nil _ _ _, rfl⟩ ?_
  clear H hL
  rintro k e w2 ⟨j, a5, c5, P5, hjk, ⟨jk, rfl⟩, H, hL, hP, hP5⟩
  have hpl : P5.length ≤ 8 * j := by rw [hP5]; exact partsC_le hok names j (by omega)
  refine WP.regionS ?_
  refine RL.r (lss rfl rfl) rfl ?_
  refine RL.nil ?_
  refine WP.seq ?_
  refine WP.cond rfl (fun hc => ?_) (fun hc => ?_)
  · refine WP.skip ?_
    refine WP.seq ?_
    refine WP.block ?_
    refine WP.regionS ?_
    have hj : j < S.length := by omega
    have hn8 := (hok.may _ (List.getElem_mem hj)).2
    have hLs := hL.sl
    obtain ⟨q, hq⟩ := hLs.isAddr (by decide) hj
    subst hq
    refine RL.r (ix rfl rfl rfl hj) rfl ?_
    refine RL.m (ldS_el rfl hLs (Ext.refl _) rfl rfl hj) rfl ?_
    refine RL.alloc w0.heap.size H.size rfl rfl ?_
    intro w3 i7 hi7 hx hb7
    refine RL.storeS rfl hb7 rfl rfl rfl rfl ?_
    intro w4 hu hb7
    replace hx := hx.box hu (Nat.le_of_eq hi7.symm)
    replace H := H.ext hx; replace hL := hL.ext hx; replace hP := hP.ext hx; clear hx hu
    refine RL.nil ?_
    refine WP.regionS ?_
    refine RL.r (fa_box rfl) rfl ?_
    refine RL.m (ld_box rfl hb7 rfl) rfl ?_
    refine RL.r (mvI rfl) rfl ?_
    refine RL.nil ?_
    refine WP.block ?_
    refine WP.loop (fun k1 e' w' => ∃ j1 : Nat, ∃ (a5 : Option Addr) (c5 : Nat) (P6 : List Part),  j1 + k1 = S[j].n.toNat ∧ Head [5, 8, 18, 19, 20, 21, 22, 23, 24, 25, 26, 27, 28, 29, 30, 31, 32] _ [(5, .slice a5 P6.length c5), (18, .int .i64 (j1 : Int))] e' ∧ Ext w0 w' ∧ Box w0.heap.size w' i7 25 (Lies.enc S[j]) ∧ Eng.Own w0.heap.size w' 25 (some q) c10 S ∧ Eng.Own w0.heap.size w' 48 a5 c5 P6 ∧ P6 = P5 ++ prS names S[j].name j1) (S[j].n.toNat)
      ⟨0, a5, c5, P5, by omega, Head.intro (AgreeOff.refl _ _) ⟨rfl, rfl, trivial⟩, H, hb7, hL, hP, by rw [prS_0, List.append_nil]⟩ ?_
    clear H hb7 hL hP
    rintro k1 e w5 ⟨j1, a5, c5, P6, hjk1, ⟨jk1, rfl⟩, H, hb7, hL, hP, hP6⟩
    have hpl2 : P6.length ≤ 8 * j + j1 := by rw [hP6, List.length_append]; have := prS_le names S[j].name j1; omega
    refine WP.regionS ?_
    refine RL.r (lss rfl rfl) rfl ?_
    refine RL.nil ?_
    refine WP.seq ?_
    refine WP.cond rfl (fun hc => ?_) (fun hc => ?_)
    · refine WP.skip ?_
      refine WP.seq ?_
      refine WP.block ?_
      refine WP.regionS ?_
      refine RL.r (mvI rfl) rfl ?_
      refine RL.r (asgI rfl) rfl ?_
      refine RL.nil ?_
      refine WP.regionS ?_
      refine RL.r (mvL rfl) rfl ?_
      refine RL.r (fa_box rfl) rfl ?_
      refine RL.m (ld_box rfl hb7 rfl) rfl ?_
      -- call slices.Contains[[]string,string] (tmp 21) (tmp 23)
      refine RL.call (pContainsS _ a2 c2 names S[j].name (hn.ext H) hnl) rfl rfl ?_
      rintro _ w6 ⟨rfl, hx⟩
      replace H := H.ext hx; replace hb7 := hb7.ext hx; replace hL := hL.ext hx; replace hP := hP.ext hx
      refine RL.nil ?_
      refine WP.cond rfl (fun hc => ?_) (fun hc => ?_)
      · refine WP.region ?_
        refine RL.r (mvL rfl) rfl ?_
        refine RL.r (fa_box rfl) rfl ?_
        refine RL.m (ld_box rfl hb7 rfl) rfl ?_
        refine RL.r (mvI rfl) rfl ?_
        refine RL.r (bld rfl rfl) rfl ?_
        refine RL.buildSlice w0.heap.size H.size rfl rfl rfl rfl rfl ?_
        intro w7 i30 hi30 hx hb30
        replace H := H.ext hx; replace hb7 := hb7.ext hx; replace hL := hL.ext hx; replace hP := hP.ext hx; clear hx
        refine RL.appendS rfl hP H.size rfl (show Sl _ _ [(⟨S[j].name, (j1 : Int)⟩ : Part)] from Box.sl1 hb30) rfl rfl (by decide) rfl cell1 (by omega) (by simp only [maxLen]; omega) rfl ?_
        intro w8 a31 c31 hu hb31 hfr31
        replace hb7 := hb7.upd hu (fun h => hP.box_apart hb7 (by decide) h)
        replace hL := hL.upd hu (fun y hy => hL.apart hP (by decide) hy)
        replace H := Ext.own H hP hu; clear hu
        refine RL.r (asgL rfl) rfl ?_
        refine RL.nil ?_
        refine WP.region ?_
        refine RL.r (add rfl rfl (by omega)) rfl ?_
        refine RL.r (mvI rfl) rfl ?_
        refine RL.nil ?_
        refine ⟨k1 - 1, by omega, j1 + 1, _, _, _, by omega, Head.intro (by repeat (first | with_reducible exact AgreeOff.mix _ _ _ | refine AgreeOff.look rfl ?_ | refine AgreeOff.mixs rfl ?_)) ⟨rfl, rfl, trivial⟩, H, hb7, hL, hb31, by rw [hP6, prS_yes hc, List.append_assoc]⟩
      · refine WP.skip ?_
        refine WP.region ?_
        refine RL.r (add rfl rfl (by omega)) rfl ?_
        refine RL.r (mvI rfl) rfl ?_
        refine RL.nil ?_
        refine ⟨k1 - 1, by omega, j1 + 1, _, _, _, by omega, Head.intro (by repeat (first | with_reducible exact AgreeOff.mix _ _ _ | refine AgreeOff.look rfl ?_ | refine AgreeOff.mixs rfl ?_)) ⟨rfl, rfl, trivial⟩, H, hb7, hL, hP, by rw [hP6, prS_no hc, prS_no hc]⟩
    · refine WP.exit ?_
      refine WP.region ?_
      refine RL.r (add rfl rfl (by omega)) rfl ?_
      refine RL.r (mvI rfl) rfl ?_
      refine RL.nil ?_
      refine ⟨k - 1, by omega, j + 1, _, _, _, by omega, Head.intro (by repeat (first | with_reducible exact AgreeOff.mix _ _ _ | refine AgreeOff.look rfl ?_ | refine AgreeOff.mixs rfl ?_)) ⟨rfl, rfl, trivial⟩, H, hL, hP, by rw [hP6, hP5, partsC_s hj, show j1 = S[j].n.toNat by omega]⟩
  · refine WP.exit ?_
    refine WP.regionS ?_
    refine RL.r (mvL rfl) rfl ?_
    refine RL.r (asgL rfl) rfl ?_
    refine RL.nil ?_
    refine WP.ret ?_
    have hall : partsC S names = P5 := by rw [hP5, List.take_of_length_le (by omega)]
    refine fin1_ret rfl ⟨⟨a5, c5, by rw [hall]; rfl, by rw [hall]; exact hP⟩, H⟩
end Go.Proofs.Ytdcckaamepilcaa
