/-
  The document's table: Drop and Put.
-/
import Derived.Test.YtmjamhgihbapjaaRefTab
set_option linter.unusedVariables false
namespace Go.Proofs.Ytmjamhgihbapjaa
open Go Go.Eng Go.RowKit
theorem own_le {α : Type} [Lies α] {B : Nat} {w : World} {T : TypeId} {a : Option Addr} {c : Nat} {l : List α} (h : Own B w T a c l) : l.length ≤ c := by
  rcases h.cases with ⟨_, rfl, rfl⟩ | ⟨g, cur, _, _, _, h, _⟩
  · simp
  · exact h
def at0 (S : List Mrk) (j : Nat) : Mrk := S[j]?.getD ⟨ByteArray.empty, ByteArray.empty, 0, 0⟩
theorem at0_get {S : List Mrk} {j : Nat} (hj : j < S.length) : at0 S j = S[j] := by simp [at0, hj]
theorem at0_some {S : List Mrk} {j : Nat} (hj : j < S.length) : S[j]? = some (at0 S j) := by rw [at0_get hj, List.getElem?_eq_getElem hj]
theorem dropS_gone {S : List Mrk} {g : ByteArray} {j : Nat} (hj : j < S.length) (h : S[j].group = g) : dropS (S.take (j + 1)) g = dropS (S.take j) g := by
  unfold dropS
  rw [List.take_succ_eq_append_getElem hj, List.filter_append]
  simp [h]
theorem dropS_stays {S : List Mrk} {g : ByteArray} {j : Nat} (hj : j < S.length) (h : ¬ S[j].group = g) : dropS (S.take (j + 1)) g = dropS (S.take j) g ++ [S[j]] := by
  unfold dropS
  rw [List.take_succ_eq_append_getElem hj, List.filter_append]
  simp [h]
theorem dropS_le (S : List Mrk) (g : ByteArray) (j : Nat) : (dropS (S.take j) g).length ≤ j := by
  unfold dropS
  refine Nat.le_trans (List.length_filter_le _ _) ?_
  rw [List.length_take]; omega
theorem drop_count (S : List Mrk) (g : ByteArray) : dropN S g + (dropS S g).length = S.length := by
  unfold dropN dropS
  have h := List.length_eq_countP_add_countP (p := fun x : Mrk => decide (x.group = g)) (l := S)
  rw [h]
  congr 1
  rw [List.countP_eq_length_filter]
  congr 1
  apply List.filter_congr
  intro x _
  by_cases h : x.group = g <;> simp [h]
/-- where a mark is put -/
theorem putS_split {S : List Mrk} (hs : S.Pairwise bef) (x : Mrk) {j : Nat} (hj : j ≤ S.length) (hb : ∀ (n : Nat) (h : n < S.length), n < j → bef S[n] x) (he : ∀ h : j < S.length, ¬ bef S[j] x) : putS S x = S.take j ++ [x] ++ S.drop (if getS S x.key ≠ none then j + 1 else j) ∧ (getS S x.key ≠ none → j < S.length) := by
  have e1 : S.filter (fun y => decide (bef y x)) = S.take j := by
    conv => lhs; rw [← List.take_append_drop j S, List.filter_append]
    rw [List.filter_eq_self.2, List.filter_eq_nil_iff.2, List.append_nil]
    · intro y hy hy2
      have hy2 : bef y x := by simpa using hy2
      obtain ⟨n, hn, rfl⟩ := List.getElem_of_mem hy
      rw [List.length_drop] at hn
      rw [List.getElem_drop] at hy2
      have hjl : j < S.length := by omega
      rcases Nat.eq_zero_or_pos n with h0 | h0
      · subst h0; exact he hjl hy2
      · exact he hjl (bef_trans (List.pairwise_iff_getElem.1 hs j (j + n) hjl (by omega) (by omega)) hy2)
    · intro y hy
      obtain ⟨n, hn, rfl⟩ := List.getElem_of_mem hy
      rw [List.length_take] at hn
      rw [List.getElem_take]
      simpa using hb n (by omega) (by omega)
  have hpre : ∀ y ∈ S.take j, ¬ bef x y := by
    intro y hy
    obtain ⟨n, hn, rfl⟩ := List.getElem_of_mem hy
    rw [List.length_take] at hn
    rw [List.getElem_take]
    exact bef_asymm (hb n (by omega) (by omega))
  have hnot : ∀ (n : Nat) (h : n < S.length), j ≤ n → ¬ bef S[n] x := by
    intro n h hjn hy
    rcases Nat.eq_or_lt_of_le hjn with h0 | h0
    · subst h0; exact he h hy
    · exact he (by omega) (bef_trans (List.pairwise_iff_getElem.1 hs j n (by omega) h h0) hy)
  by_cases hp : getS S x.key ≠ none
  · rw [if_pos hp]
    cases hg : getS S x.key with
    | none => exact absurd hg hp
    | some v =>
      obtain ⟨e, hemem, hek, _⟩ := getS_some hg
      obtain ⟨n, hn, rfl⟩ := List.getElem_of_mem hemem
      have hnj : j ≤ n := by
        rcases Nat.lt_or_ge n j with h | h
        · exact absurd hek (bef_key (hb n hn h))
        · exact h
      have hnj2 : n = j := by
        rcases Nat.eq_or_lt_of_le hnj with h0 | h0
        · exact h0.symm
        · have h1 := List.pairwise_iff_getElem.1 hs j n (by omega) hn h0
          exact absurd ((bef_congr rfl hek).1 h1) (hnot j (by omega) (Nat.le_refl _))
      subst hnj2
      refine ⟨?_, fun _ => hn⟩
      unfold putS
      rw [e1]
      have e2 : S.filter (fun y => decide (bef x y)) = S.drop (n + 1) := by
        conv => lhs; rw [← List.take_append_drop n S, List.filter_append]
        rw [List.filter_eq_nil_iff.2 (fun y hy h => hpre y hy (by simpa using h)), List.nil_append, List.drop_eq_getElem_cons hn, List.filter_cons_of_neg (fun h => bef_key (a := x) (b := S[n]) (by simpa using h) hek.symm)]
        rw [List.filter_eq_self]
        intro y hy
        obtain ⟨k, hk, rfl⟩ := List.getElem_of_mem hy
        rw [List.length_drop] at hk
        rw [List.getElem_drop]
        have h1 := List.pairwise_iff_getElem.1 hs n (n + 1 + k) hn (by omega) (by omega)
        simpa using (bef_congr hek rfl).1 h1
      rw [e2]; simp
  · rw [if_neg hp]
    refine ⟨?_, fun h => absurd h hp⟩
    have hp : getS S x.key = none := Classical.not_not.1 hp
    rw [getS_none] at hp
    unfold putS
    rw [e1]
    have e2 : S.filter (fun y => decide (bef x y)) = S.drop j := by
      conv => lhs; rw [← List.take_append_drop j S, List.filter_append]
      rw [List.filter_eq_nil_iff.2 (fun y hy h => hpre y hy (by simpa using h)), List.nil_append, List.filter_eq_self]
      intro y hy
      obtain ⟨k, hk, rfl⟩ := List.getElem_of_mem hy
      rw [List.length_drop] at hk
      rw [List.getElem_drop]
      have h2 := hp S[j + k] (List.getElem_mem _)
      rcases bef_tri h2 with h3 | h3
      · exact absurd h3 (hnot _ (by omega) (by omega))
      · simpa using h3
    rw [e2]; simp
theorem rDrop (w0 : World) (B i : Nat) (a : Option Addr) (c : Nat) (S : List Mrk) (g : ByteArray) (hT : Tr B w0 i a c S) (hlen : S.length ≤ 100000) :
    Ct Try.prog 23 #[.pointer (some ⟨i, 0, none⟩), .string g] w0 fun v w' => (∃ a2 c2, v = .int .i64 ((dropN S g : Nat) : Int) ∧ Tr B w' i a2 c2 (dropS S g)) ∧ Upd (XR i a) w0 w' := by
  refine Ct.intro1 Try.func23 Try.ntmps23 rfl rfl (by decide) rfl ?_
  have H : Upd (XR i a) w0 w0 := Upd.refl _ w0
  have hBw := tr_old hT
  obtain ⟨hbt, hO⟩ := hT
  have hSc := own_le hO
  have hil := hbt.lt
  have hOlt : ∀ k, inBlock a k → k < w0.heap.size := fun k hk => (hO.blk hk).2
  refine WP.regionS ?_
  refine RL.r (asgI rfl) rfl ?_
  refine RL.nil ?_
  refine WP.regionS ?_
  refine RL.build0 (α := Mrk) w0.heap.size H.size rfl ?_
  intro w1 i8 hi8 hx hb8
  replace H := H.ext hx; replace hbt := hbt.ext hx; replace hO := hO.ext hx; clear hx
  refine RL.r (asgL rfl) rfl ?_
  refine RL.nil ?_
  refine WP.seq ?_
  refine WP.regionS ?_
  refine RL.r (asgI rfl) rfl ?_
  refine RL.nil ?_
  refine WP.block ?_
  refine WP.loop (fun k e' w' => ∃ j : Nat, ∃ (a5 : Option Addr) (c5 : Nat),  j + k = S.length ∧ Head [5, 6, 9, 10, 11, 12, 13, 14, 15, 16, 17, 18, 19, 20, 21, 22, 23, 24, 25, 26, 27, 28, 29, 30, 31, 32, 33, 34, 35, 36, 37] _ [(5, .slice a5 (dropS (S.take j) g).length c5), (6, .int .i64 (j : Int))] e' ∧ Upd (XR i a) w0 w' ∧ Box B w' i 54 [.slice a S.length c] ∧ Own w0.heap.size w' 26 a5 c5 (dropS (S.take j) g) ∧ Own B w' 26 a c S) (S.length)
    ⟨0, _, _, by omega, Head.intro (AgreeOff.refl _ _) ⟨rfl, rfl, trivial⟩, H, hbt, hb8, hO⟩ ?_
  clear H hbt hO
  rintro k e w2 ⟨j, a5, c5, hjk, ⟨jk, rfl⟩, H, hbt, hL, hO⟩
  have hdl := dropS_le S g j
  refine WP.seq ?_
  refine WP.regionS ?_
  refine RL.r (mvI rfl) rfl ?_
  refine RL.r (mvP rfl) rfl ?_
  refine RL.r (nilck rfl) rfl ?_
  refine RL.r (fa_box rfl) rfl ?_
  refine RL.m (ld_box rfl hbt rfl) rfl ?_
  refine RL.r (len_sl rfl) rfl ?_
  refine RL.r (lss rfl rfl) rfl ?_
  refine RL.nil ?_
  refine WP.cond rfl (fun hc => ?_) (fun hc => ?_)
  · refine WP.skip ?_
    refine WP.seq ?_
    refine WP.block ?_
    refine WP.regionS ?_
    refine RL.r (mvP rfl) rfl ?_
    refine RL.r (nilck rfl) rfl ?_
    refine RL.r (fa_box rfl) rfl ?_
    refine RL.m (ld_box rfl hbt rfl) rfl ?_
    refine RL.r (mvI rfl) rfl ?_
    have hj : j < S.length := by omega
    obtain ⟨q, hq⟩ := hO.sl.isAddr (by decide) hj
    subst hq
    refine RL.r (ix rfl rfl rfl hj) rfl ?_
    refine RL.r (fa_el hO.sl.1 rfl) rfl ?_
    refine RL.m (ld_el rfl hO.sl (Ext.refl _) rfl hj rfl) rfl ?_
    refine RL.r (mvS rfl) rfl ?_
    refine RL.r (sneq rfl rfl) rfl ?_
    refine RL.nil ?_
    refine WP.cond rfl (fun hc => ?_) (fun hc => ?_)
    · refine WP.region ?_
      refine RL.r (mvL rfl) rfl ?_
      refine RL.r (mvP rfl) rfl ?_
      refine RL.r (nilck rfl) rfl ?_
      refine RL.r (fa_box rfl) rfl ?_
      refine RL.m (ld_box rfl hbt rfl) rfl ?_
      refine RL.r (mvI rfl) rfl ?_
      refine RL.r (ix rfl rfl rfl hj) rfl ?_
      refine RL.m (ldS_el rfl hO.sl (Ext.refl _) rfl rfl hj) rfl ?_
      refine RL.buildSlice w0.heap.size H.size rfl rfl rfl rfl rfl ?_
      intro w3 i36 hi36 hx hb36
      replace H := H.ext hx; replace hbt := hbt.ext hx; replace hL := hL.ext hx; replace hO := hO.ext hx; clear hx
      refine RL.appendS rfl hL H.size rfl (show Sl _ _ [S[j]] from Box.sl1 hb36) rfl rfl (by decide) rfl cell1 (by omega) (by simp only [maxLen]; omega) rfl ?_
      intro w4 a37 c37 hu hb37 hfr37
      have hfr : ∀ k, inBlock (some q) k → ¬ inBlock a5 k := fun k hk hk2 => by have h1 := (hL.blk hk2).1; have h2 := hOlt k hk; omega
      replace hbt := hbt.upd hu (fun h => by have h1 := (hL.blk h).1; omega)
      replace hO := hO.upd hu hfr
      replace H := Upd.own H hL hu; clear hu
      refine RL.r (asgL rfl) rfl ?_
      refine RL.nil ?_
      refine WP.region ?_
      refine RL.r (mvI rfl) rfl ?_
      refine RL.r (add rfl rfl (by omega)) rfl ?_
      refine RL.r (asgI rfl) rfl ?_
      refine RL.nil ?_
      refine ⟨k - 1, by omega, j + 1, _, _, by omega, Head.intro (by repeat (first | with_reducible exact AgreeOff.mix _ _ _ | refine AgreeOff.look rfl ?_ | refine AgreeOff.mixs rfl ?_)) ⟨slE (by rw [dropS_stays hj hc]), rfl, trivial⟩, H, hbt, by rw [dropS_stays hj hc]; exact hb37, hO⟩
    · refine WP.skip ?_
      refine WP.region ?_
      refine RL.r (mvI rfl) rfl ?_
      refine RL.r (add rfl rfl (by omega)) rfl ?_
      refine RL.r (asgI rfl) rfl ?_
      refine RL.nil ?_
      refine ⟨k - 1, by omega, j + 1, _, _, by omega, Head.intro (by repeat (first | with_reducible exact AgreeOff.mix _ _ _ | refine AgreeOff.look rfl ?_ | refine AgreeOff.mixs rfl ?_)) ⟨slE (by rw [dropS_gone hj (Classical.not_not.1 hc)]), rfl, trivial⟩, H, hbt, by rw [dropS_gone hj (Classical.not_not.1 hc)]; exact hL, hO⟩
  · refine WP.exit ?_
    refine WP.regionS ?_
    refine RL.r (mvP rfl) rfl ?_
    refine RL.r (nilck rfl) rfl ?_
    refine RL.r (fa_box rfl) rfl ?_
    refine RL.m (ld_box rfl hbt rfl) rfl ?_
    refine RL.r (len_sl rfl) rfl ?_
    refine RL.r (mvL rfl) rfl ?_
    refine RL.r (len_sl rfl) rfl ?_
    refine RL.r (sub rfl rfl (by omega)) rfl ?_
    refine RL.r (asgI rfl) rfl ?_
    refine RL.nil ?_
    refine WP.regionS ?_
    refine RL.r (mvP rfl) rfl ?_
    refine RL.r (mvL rfl) rfl ?_
    refine RL.r (nilck rfl) rfl ?_
    refine RL.r (fa_box rfl) rfl ?_
    have hbt0 := hbt
    refine RL.store1 rfl hbt rfl rfl rfl rfl ?_
    intro w5 hu hbt
    replace H := Upd.upd H hu (fun k hk he => Or.inl he)
    refine RL.nil ?_
    refine WP.regionS ?_
    refine RL.r (mvI rfl) rfl ?_
    refine RL.r (asgI rfl) rfl ?_
    refine RL.nil ?_
    refine WP.ret ?_
    replace hL := own_box (hL) hbt0 (by decide) hu
    have hcnt := drop_count S g
    obtain rfl : j = S.length := by omega
    rw [List.take_length] at hL hbt
    refine fin1_ret rfl ⟨⟨a5, c5, intE (by rw [List.take_length]; omega), hbt, hL.mono hBw⟩, H⟩
theorem rPut (w0 : World) (B i : Nat) (a : Option Addr) (c : Nat) (S : List Mrk) (x : Mrk) (hs : S.Pairwise bef) (hm : ∀ y ∈ S, mayM y) (hT : Tr B w0 i a c S) (hlen : S.length ≤ 100000) :
    Ct Try.prog 21 #[.pointer (some ⟨i, 0, none⟩), .agg (Lies.enc x).toArray] w0 fun v w' => (∃ a2 c2, v = .int .i64 (putE S x) ∧ Tr B w' i a2 c2 (putR S x)) ∧ Upd (XR i a) w0 w' := by
  refine Ct.intro1 Try.func21 Try.ntmps21 rfl rfl (by decide) rfl ?_
  have H : Upd (XR i a) w0 w0 := Upd.refl _ w0
  have hBw := tr_old hT
  obtain ⟨hbt, hO⟩ := hT
  have hSc := own_le hO
  have hil := hbt.lt
  have hOlt : ∀ k, inBlock a k → k < w0.heap.size := fun k hk => (hO.blk hk).2
  refine WP.regionS ?_
  refine RL.boxS w0.heap.size H.size rfl rfl ?_
  intro w1 i3 hi3 hx hb3
  have net_3 := hbt.ne hi3
  replace H := H.ext hx; replace hbt := hbt.ext hx; replace hO := hO.ext hx; clear hx
  refine RL.r (asgI rfl) rfl ?_
  refine RL.nil ?_
  refine WP.seq ?_
  refine WP.regionS ?_
  refine RL.m (ldS_box rfl hb3 (Nat.le_of_ble_eq_true rfl) rfl) rfl ?_
  -- call stagecoach/stagecoachref12.may (tmp 9)
  refine RL.call (rMayM _ x) rfl rfl ?_
  rintro _ w2 ⟨rfl, hx⟩
  replace H := H.ext hx; replace hbt := hbt.ext hx; replace hb3 := hb3.ext hx; replace hO := hO.ext hx
  first | refine RL.r (notD rfl) rfl ?_ | refine RL.r (not_ rfl) rfl ?_
  refine RL.nil ?_
  refine WP.cond rfl (fun hc => ?_) (fun hc => ?_)
  · refine WP.regionS ?_
    refine RL.r (asgI rfl) rfl ?_
    refine RL.nil ?_
    refine WP.ret ?_
    have hE : putE S x = 1 := by unfold putE; rw [if_pos hc]
    refine fin1_ret rfl ⟨⟨a, c, intE hE.symm, ?_⟩, H⟩
    unfold putR; rw [if_neg (by omega)]; exact ⟨hbt, hO⟩
  · refine WP.skip ?_
    refine WP.regionS ?_
    refine RL.r (mvP rfl) rfl ?_
    refine RL.r (fa_box rfl) rfl ?_
    refine RL.m (ld_box rfl hb3 rfl) rfl ?_
    refine RL.r (fa_box rfl) rfl ?_
    refine RL.m (ldS_box rfl hb3 (Nat.le_of_ble_eq_true rfl) rfl) rfl ?_
    -- call (*stagecoach/stagecoachref12.Table).Get (tmp 13) (tmp 15) (tmp 17)
    refine RL.call (rGet _ _ i a c S x.group ⟨x.topic, x.n⟩ ⟨hbt, hO⟩ hlen) rfl rfl ?_
    rintro _ w3 ⟨rfl, hx⟩
    replace H := H.ext hx; replace hbt := hbt.ext hx; replace hb3 := hb3.ext hx; replace hO := hO.ext hx
    refine RL.r (mvU rfl) rfl ?_
    refine RL.r (ex0 rfl) rfl ?_
    refine RL.r (ex1 rfl) rfl ?_
    refine RL.r (asgI rfl) rfl ?_
    refine RL.r (asgB rfl) rfl ?_
    refine RL.nil ?_
    refine WP.seq ?_
    refine WP.seq (WP.quiet ?_)
    refine QL.r (mvB rfl) rfl ?_
    refine QL.r (mvB rfl) rfl ?_
    refine QL.gg (gwT rfl rfl) (fun hg => (mvI rfl).does _) rfl ?_
    refine QL.gg (gwT rfl rfl) (fun hg => (fa_box rfl).does _) rfl ?_
    refine QL.gg (gwT rfl rfl) (fun hg => ld_box (gs hg rfl) hb3 rfl) rfl ?_
    refine QL.gg (gwT rfl rfl) (fun hg => (gtr (gs hg rfl) (gs hg rfl)).does _) rfl ?_
    refine QL.r (pickAnd rfl (fun hn => gs hn rfl)) rfl ?_
    refine QL.nil ?_; intro w4 hx; replace H := H.ext hx; replace hbt := hbt.ext hx; replace hb3 := hb3.ext hx; replace hO := hO.ext hx
    refine WP.cond rfl (fun hc => ?_) (fun hc => ?_)
    · refine WP.regionS ?_
      refine RL.r (asgI rfl) rfl ?_
      refine RL.nil ?_
      refine WP.ret ?_
      have hE : putE S x = 120 := by unfold putE; rw [if_neg ‹_›, if_pos]; exact hc.2
      refine fin1_ret rfl ⟨⟨a, c, intE hE.symm, ?_⟩, H⟩
      unfold putR; rw [if_neg (by omega)]; exact ⟨hbt, hO⟩
    · refine WP.skip ?_
      refine WP.regionS ?_
      refine RL.build0 (α := Mrk) (w0.heap.size + 1) (by have := hb3.lt; omega) rfl ?_
      intro w5 i28 hi28 hx hb28
      replace H := H.ext hx; replace hbt := hbt.ext hx; replace hb3 := hb3.ext hx; replace hO := hO.ext hx; clear hx
      refine RL.r (asgL rfl) rfl ?_
      refine RL.r (asgI rfl) rfl ?_
      refine RL.nil ?_
      refine WP.seq ?_
      refine WP.block ?_
      have hmx : mayM x := Classical.not_not.1 ‹¬ ¬ mayM x›
      have hE : putE S x = 0 := by
        unfold putE
        rw [if_neg (by assumption), if_neg]
        intro h
        refine hc ⟨?_, h⟩
        intro e
        rw [show (⟨x.group, x.topic, x.n⟩ : MKey) = x.key from rfl] at e
        rw [e] at h
        have := hmx.2.2.2.1
        simp at h
        omega
      refine WP.loop (fun k e' w' => ∃ j : Nat, ∃ (a7 : Option Addr) (c7 : Nat),  j + k = S.length ∧ Head [7, 8, 29, 30, 31, 32, 33, 34, 35, 36, 37, 38, 39, 40, 41, 42, 43, 44, 45, 46, 47, 48, 49, 50, 51, 52, 53, 54, 55, 56, 57, 58] _ [(7, .slice a7 (S.take j).length c7), (8, .int .i64 (j : Int))] e' ∧ Upd (XR i a) w0 w' ∧ Box B w' i 54 [.slice a S.length c] ∧ Box w0.heap.size w' i3 26 (Lies.enc x) ∧ Own (w0.heap.size + 1) w' 26 a7 c7 (S.take j) ∧ Own B w' 26 a c S ∧ ∀ (n : Nat) (h : n < S.length), n < j → bef S[n] x) (S.length)
        ⟨0, _, _, by omega, Head.intro (AgreeOff.refl _ _) ⟨rfl, rfl, trivial⟩, H, hbt, hb3, hb28, hO, fun n h hn => by omega⟩ ?_
      clear H hbt hb3 hO
      rintro k e w6 ⟨j, a7, c7, hjk, ⟨jk, rfl⟩, H, hbt, hb3, hL, hO, hok⟩
      refine WP.seq ?_
      refine WP.seq ?_
      refine WP.draw (by kernel_rfl) ?_
      refine QL.r (mvI rfl) rfl ?_
      refine QL.r (mvP rfl) rfl ?_
      refine QL.r (nilck rfl) rfl ?_
      refine QL.r (fa_box rfl) rfl ?_
      refine QL.m (ld_box rfl hbt rfl) rfl ?_
      refine QL.r (len_sl rfl) rfl ?_
      refine QL.r (lss rfl rfl) rfl ?_
      refine QL.r (mvB rfl) rfl ?_
      refine QL.gg (gwT rfl rfl) (fun hg => (mvP rfl).does _) rfl ?_
      refine QL.gg (gwT rfl rfl) (fun hg => (nilck (gs hg rfl)).does _) rfl ?_
      refine QL.gg (gwT rfl rfl) (fun hg => (fa_box (gs hg rfl)).does _) rfl ?_
      refine QL.gg (gwT rfl rfl) (fun hg => ld_box (gs hg rfl) hbt rfl) rfl ?_
      refine QL.gg (gwT rfl rfl) (fun hg => (mvI rfl).does _) rfl ?_
      have htl : (S.take j).length = j := by rw [List.length_take]; omega
      refine QL.gg (gwT rfl rfl) (fun hg => (ix_o (gs hg rfl) (gs hg rfl) rfl (show j < S.length by omega) (hO.sl.someA (by decide) (show j < S.length by omega))).does _) rfl ?_
      refine QL.gg (gwT rfl rfl) (fun hg => ldS_o (gs hg rfl) hO.sl (Ext.refl _) rfl rfl (by decide) (at0_some (show j < S.length by omega))) rfl ?_
      refine QL.gg (gwT rfl rfl) (fun hg => ldS_box rfl hb3 (Nat.le_of_ble_eq_true rfl) rfl) rfl ?_
      -- call stagecoach/stagecoachref12.Before (tmp 43) (tmp 44)
      refine QL.gcall (gwT rfl rfl) (fun hg w' hw' => rBefore w' (at0 S j) x (by rw [at0_get (show j < S.length by omega)]; have := (hm (S[j]'(by omega)) (List.getElem_mem _)).1.2.1; omega) (by rw [at0_get (show j < S.length by omega)]; have := (hm (S[j]'(by omega)) (List.getElem_mem _)).2.1.2.1; omega)) (fun hg => EvL.cons (gs hg rfl) (EvL.cons (gs hg rfl) (EvL.nil))) rfl ?_
      refine QL.r (pickAnd rfl (fun hn => gs hn rfl)) rfl ?_
      refine QL.nil ?_; intro w8 hx; replace H := H.ext hx; replace hbt := hbt.ext hx; replace hb3 := hb3.ext hx; replace hL := hL.ext hx; replace hO := hO.ext hx
      refine WP.cond rfl (fun hc => ?_) (fun hc => ?_)
      · refine WP.skip ?_
        refine WP.block ?_
        refine WP.regionS ?_
        refine RL.r (mvL rfl) rfl ?_
        refine RL.r (mvP rfl) rfl ?_
        refine RL.r (nilck rfl) rfl ?_
        refine RL.r (fa_box rfl) rfl ?_
        refine RL.m (ld_box rfl hbt rfl) rfl ?_
        refine RL.r (mvI rfl) rfl ?_
        have hj : j < S.length := by omega
        have hbj : bef S[j] x := by have h := hc.2; rwa [at0_get hj] at h
        obtain ⟨q, hq⟩ := hO.sl.isAddr (by decide) hj
        subst hq
        refine RL.r (ix rfl rfl rfl hj) rfl ?_
        refine RL.m (ldS_el rfl hO.sl (Ext.refl _) rfl rfl hj) rfl ?_
        refine RL.buildSlice w0.heap.size H.size rfl rfl rfl rfl rfl ?_
        intro w9 i55 hi55 hx hb55
        replace H := H.ext hx; replace hbt := hbt.ext hx; replace hb3 := hb3.ext hx; replace hL := hL.ext hx; replace hO := hO.ext hx; clear hx
        refine RL.appendS rfl hL (by have := hb3.lt; omega) rfl (show Sl _ _ [S[j]] from Box.sl1 hb55) rfl rfl (by decide) rfl cell1 (by omega) (by simp only [maxLen]; omega) rfl ?_
        intro w10 a56 c56 hu hb56 hfr56
        have hfr : ∀ k, inBlock (some q) k → ¬ inBlock a7 k := fun k hk hk2 => by have h1 := (hL.blk hk2).1; have h2 := hOlt k hk; omega
        replace hbt := hbt.upd hu (fun h => by have h1 := (hL.blk h).1; omega)
        replace hb3 := hb3.upd hu (fun h => by have := (hL.blk h).1; omega)
        replace hO := hO.upd hu hfr
        replace H := Upd.own H (hL.mono (Nat.le_succ _)) hu; clear hu
        refine RL.r (asgL rfl) rfl ?_
        refine RL.nil ?_
        refine WP.region ?_
        refine RL.r (mvI rfl) rfl ?_
        refine RL.r (add rfl rfl (by omega)) rfl ?_
        refine RL.r (asgI rfl) rfl ?_
        refine RL.nil ?_
        refine ⟨k - 1, by omega, j + 1, _, _, by omega, Head.intro (by repeat (first | with_reducible exact AgreeOff.mix _ _ _ | refine AgreeOff.look rfl ?_ | refine AgreeOff.mixs rfl ?_)) ⟨slE (by rw [List.take_succ_eq_append_getElem hj]), rfl, trivial⟩, H, hbt, hb3, by rw [List.take_succ_eq_append_getElem hj]; exact hb56, hO, fun n h hn => ?_⟩
        by_cases hij : n < j
        · exact hok n h hij
        · obtain rfl : n = j := by omega
          exact hbj
      · refine WP.exit ?_
        refine WP.regionS ?_
        refine RL.r (mvL rfl) rfl ?_
        refine RL.m (ldS_box rfl hb3 (Nat.le_of_ble_eq_true rfl) rfl) rfl ?_
        refine RL.buildSlice w0.heap.size H.size rfl rfl rfl rfl rfl ?_
        intro w11 i61 hi61 hx hb61
        replace H := H.ext hx; replace hbt := hbt.ext hx; replace hb3 := hb3.ext hx; replace hL := hL.ext hx; replace hO := hO.ext hx; clear hx
        have hex : ∀ h : j < S.length, ¬ bef S[j] x := fun h hb => hc ⟨by omega, by rw [at0_get h]; exact hb⟩
        have hjl : j ≤ S.length := by omega
        obtain ⟨hsp, hspj⟩ := putS_split hs x hjl hok hex
        refine RL.appendS rfl hL (by have := hb3.lt; omega) rfl (show Sl _ _ [x] from Box.sl1 hb61) rfl rfl (by decide) rfl cell1 (by omega) (by simp only [maxLen]; omega) rfl ?_
        intro w12 a62 c62 hu hb62 hfr62
        have hfr : ∀ k, inBlock a k → ¬ inBlock a7 k := fun k hk hk2 => by have h1 := (hL.blk hk2).1; have h2 := hOlt k hk; omega
        replace hbt := hbt.upd hu (fun h => by have h1 := (hL.blk h).1; omega)
        replace hb3 := hb3.upd hu (fun h => by have := (hL.blk h).1; omega)
        replace hO := hO.upd hu hfr
        replace H := Upd.own H (hL.mono (Nat.le_succ _)) hu; clear hu
        refine RL.r (asgL rfl) rfl ?_
        refine RL.nil ?_
        refine WP.seq ?_
        refine WP.regionS ?_
        refine RL.r (mvB rfl) rfl ?_
        refine RL.nil ?_
        refine WP.cut (α := Nat) [8, 64, 65] (fun y => [(8, .int .i64 (y : Int))]) (fun y w' => Upd (XR i a) w0 w' ∧ Box B w' i 54 [.slice a S.length c] ∧ Box w0.heap.size w' i3 26 (Lies.enc x) ∧ Own (w0.heap.size + 1) w' 26 a62 c62 (S.take j ++ [x]) ∧ Own B w' 26 a c S ∧ y = if getS S x.key ≠ none then j + 1 else j) ?_ ?_
        · refine WP.cond rfl (fun hc => ?_) (fun hc => ?_)
          · refine WP.region ?_
            refine RL.r (mvI rfl) rfl ?_
            refine RL.r (add rfl rfl (by omega)) rfl ?_
            refine RL.r (asgI rfl) rfl ?_
            refine RL.nil ?_
            refine ⟨j + 1, Head.intro (by repeat (first | with_reducible exact AgreeOff.refl _ _ | with_reducible exact AgreeOff.mix _ _ _ | refine AgreeOff.look rfl ?_ | refine AgreeOff.mixs rfl ?_)) ⟨rfl, trivial⟩, H, hbt, hb3, hb62, hO, (if_pos hc).symm⟩
          · refine WP.skip ?_
            refine ⟨j, Head.intro (by repeat (first | with_reducible exact AgreeOff.refl _ _ | with_reducible exact AgreeOff.mix _ _ _ | refine AgreeOff.look rfl ?_ | refine AgreeOff.mixs rfl ?_)) ⟨rfl, trivial⟩, H, hbt, hb3, hb62, hO, (if_neg hc).symm⟩
        rintro y jc w13 ⟨H, hbt, hb3, hL, hO, hy⟩
        refine WP.regionS ?_
        refine RL.r (mvL rfl) rfl ?_
        refine RL.r (mvP rfl) rfl ?_
        refine RL.r (nilck rfl) rfl ?_
        refine RL.r (fa_box rfl) rfl ?_
        refine RL.m (ld_box rfl hbt rfl) rfl ?_
        refine RL.r (mvI rfl) rfl ?_
        have hyl : y ≤ S.length := by
          rw [hy]
          split
          · have := hspj (by assumption); omega
          · exact hjl
        refine RL.r (slcD (n := y) rfl rfl rfl hyl) rfl ?_
        refine RL.appendS rfl hL (by have := hb3.lt; omega) rfl (hO.sl.suf (n := y) (c := c) (sz := 4) rfl hyl hSc (by decide)) (by rw [List.length_drop]) rfl (by decide) rfl cell1 (by simp only [List.length_append, List.length_cons, List.length_nil]; omega) (by simp only [maxLen, List.length_append, List.length_cons, List.length_nil]; omega) rfl ?_
        intro w14 a73 c73 hu hb73 hfr73
        have hfr : ∀ k, inBlock a k → ¬ inBlock a62 k := fun k hk hk2 => by have h1 := (hL.blk hk2).1; have h2 := hOlt k hk; omega
        replace hbt := hbt.upd hu (fun h => by have h1 := (hL.blk h).1; omega)
        replace hb3 := hb3.upd hu (fun h => by have := (hL.blk h).1; omega)
        replace hO := hO.upd hu hfr
        replace H := Upd.own H (hL.mono (Nat.le_succ _)) hu; clear hu
        refine RL.r (asgL rfl) rfl ?_
        refine RL.nil ?_
        refine WP.regionS ?_
        refine RL.r (mvP rfl) rfl ?_
        refine RL.r (mvL rfl) rfl ?_
        refine RL.r (nilck rfl) rfl ?_
        refine RL.r (fa_box rfl) rfl ?_
        have hbt0 := hbt
        refine RL.store1 rfl hbt rfl rfl rfl rfl ?_
        intro w15 hu hbt
        replace H := Upd.upd H hu (fun k hk he => Or.inl he); replace hb3 := hb3.upd hu (Ne.symm net_3)
        refine RL.nil ?_
        refine WP.regionS ?_
        refine RL.r (asgI rfl) rfl ?_
        refine RL.nil ?_
        refine WP.ret ?_
        replace hL := own_box hb73 hbt0 (by decide) hu
        refine fin1_ret rfl ⟨⟨a73, c73, intE hE.symm, ?_⟩, H⟩
        have hR : putR S x = S.take j ++ [x] ++ S.drop y := by
          unfold putR
          rw [if_pos hE, hsp, hy]
        rw [hR]
        exact ⟨hbt, hL.mono (by omega)⟩
end Go.Proofs.Ytmjamhgihbapjaa
