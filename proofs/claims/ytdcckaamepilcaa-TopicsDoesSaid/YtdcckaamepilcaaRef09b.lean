/-
  The document's catalog: the walks of Make, Parts.
-/
import Derived.Test.YtdcckaamepilcaaRef09
set_option linter.unusedVariables false
namespace Go.Proofs.Ytdcckaamepilcaa
open Go Go.Eng Go.RowKit
theorem fa_o {P : Program} {e : Env} {x : Operand} {s : TypeId} {f off : Nat} {ft : TypeId} [hf : Fld P s f off ft] {α : Type} [Lies α] {w : World} {a : Option Addr} {l : List α} (hl : Sl w a l) (ha : a ≠ none) {k : Nat} (hx : ev e x = elp a k) : Pure P e (.fieldAddr s x f) (elp a (k + off)) := by
  cases a with
  | none => exact absurd rfl ha
  | some p => exact fa_el hl.1 hx
theorem ld_o {P : Program} {e : Env} {w : World} {t : TypeId} {x : Operand} {α : Type} [Lies α] {w0 : World} {a : Option Addr} {l : List α} {i off m : Nat} {v : Value} [hf : Flat P t] (hx : ev e x = elp a m) (hl : Sl w0 a l) (H : Ext w0 w) (hm : m = i * Lies.sz α + off) (hs : 0 < Lies.sz α) (hi : i < l.length) (hv : ∀ h : i < l.length, (Lies.enc l[i])[off]? = some v) : Does P e w (.load t x) v := by
  obtain ⟨p, rfl⟩ := hl.isAddr hs hi
  exact ld_el hx hl H hm hi (hv hi)
def nmAt (L : List Topic) (j : Nat) : ByteArray := (L[j]?.getD ⟨ByteArray.empty, 0⟩).name
theorem nmAt_get {L : List Topic} {j : Nat} (h : j < L.length) : nmAt L j = L[j].name := by unfold nmAt; rw [List.getElem?_eq_getElem h]; rfl
theorem nmAt_le {L : List Topic} (h : okC L) (j : Nat) : (nmAt L j).size ≤ 9223372036854775806 := by
  unfold nmAt
  cases e : L[j]? with
  | none => exact (show ByteArray.empty.size ≤ 9223372036854775806 by decide)
  | some x =>
    have := (h.may _ (List.mem_of_getElem? e)).1.2.1
    show x.name.size ≤ _
    exact Nat.le_trans (show x.name.size ≤ 1000 by omega) (by decide)
theorem next_ok {L : List Topic} {nm : ByteArray} {j : Nat} (h : ∀ (n : Nat) (h : n < L.length), n < j → slt L[n].name nm) (h2 : slt (nmAt L j) nm) : ∀ (n : Nat) (h : n < L.length), n < j + 1 → slt L[n].name nm := by
  intro n hn hnj
  by_cases e : n < j
  · exact h n hn e
  · obtain rfl : n = j := by omega
    rwa [nmAt_get hn] at h2
theorem put_at {S : List Topic} (hs : S.Pairwise bfr) {t : Topic} (hno : eGet S t.name = none) {j : Nat} (hj : j ≤ S.length) (hb : ∀ (n : Nat) (h : n < S.length), n < j → slt S[n].name t.name) (he : ∀ h : j < S.length, ¬ slt S[j].name t.name) : [] ++ S.take j ++ [t] ++ S.drop j = ePut S t := by
  obtain ⟨h1, _⟩ := ePut_split hs t hj hb he
  rw [if_neg (fun h => h hno)] at h1
  rw [h1, List.nil_append]
set_option maxRecDepth 20000 in
set_option maxHeartbeats 1600000 in
theorem rMake (w0 : World) (B i : Nat) (a : Option Addr) (S : List Topic) (hT : Tr B w0 i a S) (t : Topic) :
    Ct Try.prog 22 #[.pointer (some ⟨i, 0, none⟩), .string t.name, .int .i64 t.n] w0 fun v w' => (v = .int .i64 (makeE S t) ∧ ∃ a2, Tr B w' i a2 (makeC S t)) ∧ Upd (· = i) w0 w' := by
  refine Ct.intro1 Try.func22 Try.ntmps22 rfl rfl (by decide) rfl ?_
  have H : Upd (· = i) w0 w0 := Upd.refl _ w0
  obtain ⟨c, hbt, hO⟩ := hT.at_
  have hok := hT.ok
  have hle8 := hok.len
  have hSc := own_le hO
  have hBw : B ≤ w0.heap.size := Nat.le_of_lt (Nat.lt_of_le_of_lt hT.lt.2 hT.lt.1)
  refine WP.regionS ?_
  refine RL.r (asgI rfl) rfl ?_
  refine RL.nil ?_
  refine WP.seq ?_
  refine WP.regionS ?_
  refine RL.r (mvS rfl) rfl ?_
  refine RL.r (mvI rfl) rfl ?_
  -- call stagecoach/stagecoachref09.may (tmp 9) (tmp 10)
  refine RL.call (rMay _ t.name t.n) rfl rfl ?_
  rintro _ w1 ⟨rfl, hx⟩
  replace H := H.ext hx; replace hbt := hbt.ext hx; replace hO := hO.ext hx
  first | refine RL.r (notD rfl) rfl ?_ | refine RL.r (not_ rfl) rfl ?_
  refine RL.nil ?_
  refine WP.cond rfl (fun hc => ?_) (fun hc => ?_)
  · refine WP.regionS ?_
    refine RL.r (asgI rfl) rfl ?_
    refine RL.nil ?_
    refine WP.ret ?_
    have hE : makeE S t = 1 := by
      unfold makeE
      rw [if_pos (show ¬ topicOk t from hc)]
    refine fin1_ret rfl ⟨⟨intE hE.symm, a, by unfold makeC; rw [if_neg (by omega)]; exact ⟨⟨c, hbt, hO⟩, hok⟩⟩, H⟩
  · refine WP.skip ?_
    refine WP.seq ?_
    refine WP.regionS ?_
    refine RL.r (mvP rfl) rfl ?_
    refine RL.r (mvS rfl) rfl ?_
    -- call (*stagecoach/stagecoachref09.Catalog).place (tmp 13) (tmp 14)
    refine RL.call (rPlace _ B i a S ⟨⟨c, hbt, hO⟩, hok⟩ t.name) rfl rfl ?_
    rintro _ w2 ⟨rfl, hx⟩
    replace H := H.ext hx; replace hbt := hbt.ext hx; replace hO := hO.ext hx
    refine RL.r (geq rfl rfl) rfl ?_
    refine RL.nil ?_
    refine WP.cond rfl (fun hc => ?_) (fun hc => ?_)
    · refine WP.regionS ?_
      refine RL.r (asgI rfl) rfl ?_
      refine RL.nil ?_
      refine WP.ret ?_
      have hE : makeE S t = 90 := by
        unfold makeE
        have hm : ¬ ¬ topicOk t := by assumption
        rw [if_neg hm, if_pos (fun h => by have := placeI_neg.2 h; omega)]
      refine fin1_ret rfl ⟨⟨intE hE.symm, a, by unfold makeC; rw [if_neg (by omega)]; exact ⟨⟨c, hbt, hO⟩, hok⟩⟩, H⟩
    · refine WP.skip ?_
      refine WP.seq ?_
      refine WP.regionS ?_
      refine RL.r (mvP rfl) rfl ?_
      refine RL.r (nilck rfl) rfl ?_
      refine RL.r (fa_box rfl) rfl ?_
      refine RL.m (ld_box rfl hbt rfl) rfl ?_
      refine RL.r (len_sl rfl) rfl ?_
      refine RL.r (geq rfl rfl) rfl ?_
      refine RL.nil ?_
      refine WP.cond rfl (fun hc => ?_) (fun hc => ?_)
      · refine WP.regionS ?_
        refine RL.r (asgI rfl) rfl ?_
        refine RL.nil ?_
        refine WP.ret ?_
        have hE : makeE S t = 2 := by
          unfold makeE
          have hm : ¬ ¬ topicOk t := by assumption
          have hno : ¬ eGet S t.name ≠ none := fun h => by have := placeI_neg (S := S) (name := t.name); by_cases h2 : placeI S t.name < 0
                                                           · exact h (this.1 h2)
                                                           · omega
          rw [if_neg hm, if_neg hno, if_pos (by omega)]
        refine fin1_ret rfl ⟨⟨intE hE.symm, a, by unfold makeC; rw [if_neg (by omega)]; exact ⟨⟨c, hbt, hO⟩, hok⟩⟩, H⟩
      · refine WP.skip ?_
        refine WP.regionS ?_
        refine RL.r (asgI rfl) rfl ?_
        refine RL.nil ?_
        refine WP.seq ?_
        refine WP.block ?_
        refine WP.loop (fun k e' w' => ∃ j : Nat,  j + k = S.length ∧ Head [7, 23, 24, 25, 26, 27, 28, 29, 30, 31, 32, 33, 34, 35, 36, 37, 38, 39, 40, 41, 42, 43] _ [(7, .int .i64 (j : Int))] e' ∧ Upd (· = i) w0 w' ∧ Box B w' i 54 [.slice a S.length c] ∧ Eng.Own B w' 25 a c S ∧ ∀ (n : Nat) (h : n < S.length), n < j → slt S[n].name t.name) (S.length)
          ⟨0, by omega, Head.intro (AgreeOff.refl _ _) ⟨rfl, trivial⟩, H, hbt, hO, fun n h hn => by omega⟩ ?_
        clear H hbt hO
        rintro k e w3 ⟨j, hjk, ⟨jk, rfl⟩, H, hbt, hO, hok2⟩
        refine WP.seq ?_
        refine WP.seq (WP.quiet ?_)
        refine QL.r (mvI rfl) rfl ?_
        refine QL.r (mvP rfl) rfl ?_
        refine QL.r (nilck rfl) rfl ?_
        refine QL.r (fa_box rfl) rfl ?_
        refine QL.m (ld_box rfl hbt rfl) rfl ?_
        refine QL.r (len_sl rfl) rfl ?_
        refine QL.r (lss rfl rfl) rfl ?_
        refine QL.r (mvB rfl) rfl ?_
        refine QL.gg (gwT rfl rfl) (fun hg => (mvP rfl).does _) rfl ?_
        refine QL.gg (gwT rfl rfl) (fun hg => (nilck (gs hg rfl)).does _) rfl ?_
        refine QL.gg (gwT rfl rfl) (fun hg => (fa_box (gs hg rfl)).does _) rfl ?_
        refine QL.gg (gwT rfl rfl) (fun hg => ld_box (gs hg rfl) hbt rfl) rfl ?_
        refine QL.gg (gwT rfl rfl) (fun hg => (mvI rfl).does _) rfl ?_
        refine QL.gg (gwT rfl rfl) (fun hg => (ix_o (gs hg rfl) (gs hg rfl) rfl (show j < S.length by omega) (hO.sl.someA (by decide) (i := j) (by omega))).does _) rfl ?_
        refine QL.gg (gwT rfl rfl) (fun hg => (fa_o hO.sl (hO.sl.someA (by decide) (i := j) (by omega)) (gs hg rfl)).does _) rfl ?_
        refine QL.gg (gwT rfl rfl) (fun hg => ld_o (v := .string (nmAt S j)) (gs hg rfl) hO.sl (Ext.refl _) rfl (by decide) (show j < S.length by omega) (fun h => by rw [nmAt_get h]; rfl)) rfl ?_
        refine QL.gg (gwT rfl rfl) (fun hg => (mvS rfl).does _) rfl ?_
        -- call stagecoach/stagecoachref04.Less (tmp 38) (tmp 39)
        refine QL.gcall (gwT rfl rfl) (fun hg w' hw' => rLess w' (nmAt S j) t.name (nmAt_le hok j)) (fun hg => EvL.cons (gs hg rfl) (EvL.cons (gs hg rfl) (EvL.nil))) rfl ?_
        refine QL.r (pickAnd rfl (fun hn => gs hn rfl)) rfl ?_
        refine QL.nil ?_; intro w5 hx; replace H := H.ext hx; replace hbt := hbt.ext hx; replace hO := hO.ext hx
        refine WP.cond rfl (fun hc => ?_) (fun hc => ?_)
        · refine WP.skip ?_
          refine WP.block ?_
          refine WP.region ?_
          refine RL.r (mvI rfl) rfl ?_
          refine RL.r (add rfl rfl (by omega)) rfl ?_
          refine RL.r (asgI rfl) rfl ?_
          refine RL.nil ?_
          refine ⟨k - 1, by omega, j + 1, by omega, Head.intro (by repeat (first | with_reducible exact AgreeOff.mix _ _ _ | refine AgreeOff.look rfl ?_ | refine AgreeOff.mixs rfl ?_)) ⟨rfl, trivial⟩, H, hbt, hO, next_ok hok2 hc.2⟩
        · refine WP.exit ?_
          refine WP.regionS ?_
          have hOlt9 : ∀ k, inBlock a k → k < w5.heap.size := fun k hk => (hO.blk hk).2
          have hilt9 : i < w5.heap.size := hbt.lt
          have hs09 := H.size
          refine RL.build0 (α := Topic) w5.heap.size (Nat.le_refl _) rfl ?_
          intro w6 i44 hi44 hx hb44
          replace H := H.ext hx; replace hbt := hbt.ext hx; replace hO := hO.ext hx; clear hx
          have hlt44 : i44 < w6.heap.size := (hb44.blk ⟨_, rfl, rfl⟩).2
          have hbtA := hbt
          have hOA := hO
          have HA := H
          have H9 : Upd (fun k => w5.heap.size ≤ k) w6 w6 := Upd.refl _ _
          refine RL.r (mvP rfl) rfl ?_
          refine RL.r (nilck rfl) rfl ?_
          refine RL.r (fa_box rfl) rfl ?_
          refine RL.m (ld_box rfl hbt rfl) rfl ?_
          refine RL.r (mvI rfl) rfl ?_
          refine RL.r (slcT (n := j) rfl rfl rfl (by omega)) rfl ?_
          refine RL.appendS rfl hb44 (by omega) rfl (Sl.take0 (j := j) hO.sl (by omega) (by decide)) (by rw [List.length_take]; omega) rfl (by decide) rfl cell1 (by simp only [List.length_nil]; omega) (by simp only [maxLen, List.length_nil]; omega) rfl ?_
          intro w7 a51 c51 hu hb51 hfr51
          replace H9 := Upd.upd H9 hu (fun k hk he => (hb44.blk he).1)
          replace hbt := hbtA.upd H9 (fun h => Nat.lt_irrefl _ (Nat.lt_of_lt_of_le hilt9 h))
          replace hO := hOA.upd H9 (fun k hk h => Nat.lt_irrefl _ (Nat.lt_of_lt_of_le (hOlt9 k hk) h))
          replace H := Upd.upd HA H9 (fun k hk he => absurd (Nat.lt_of_lt_of_le hk hs09) (Nat.not_lt.2 he))
          have hn51 : (([] : List Topic) ++ S.take j).length ≤ 8 := by rw [List.nil_append, List.length_take]; omega
          refine RL.r (asgL rfl) rfl ?_
          refine RL.nil ?_
          refine WP.regionS ?_
          refine RL.r (mvL rfl) rfl ?_
          refine RL.r (mvS rfl) rfl ?_
          refine RL.r (mvI rfl) rfl ?_
          refine RL.r (bld rfl rfl) rfl ?_
          refine RL.buildSlice w0.heap.size H.size rfl rfl rfl rfl rfl ?_
          intro w8 i56 hi56 hx hb56
          replace H := H.ext hx; replace hbt := hbt.ext hx; replace hO := hO.ext hx; replace H9 := H9.ext hx; replace hb51 := hb51.ext hx; clear hx
          refine RL.appendS rfl hb51 (by have := H9.size; omega) rfl (show Sl _ _ [t] from Box.sl1 hb56) rfl rfl (by decide) rfl cell1 (by omega) (by simp only [maxLen]; omega) rfl ?_
          intro w9 a57 c57 hu hb57 hfr57
          replace H9 := Upd.upd H9 hu (fun k hk he => (hb51.blk he).1)
          replace hbt := hbtA.upd H9 (fun h => Nat.lt_irrefl _ (Nat.lt_of_lt_of_le hilt9 h))
          replace hO := hOA.upd H9 (fun k hk h => Nat.lt_irrefl _ (Nat.lt_of_lt_of_le (hOlt9 k hk) h))
          replace H := Upd.upd HA H9 (fun k hk he => absurd (Nat.lt_of_lt_of_le hk hs09) (Nat.not_lt.2 he))
          have hn57 : (([] : List Topic) ++ S.take j ++ [t]).length ≤ 9 := by rw [List.length_append]; simp only [List.length_cons, List.length_nil]; omega
          refine RL.r (asgL rfl) rfl ?_
          refine RL.nil ?_
          refine WP.regionS ?_
          refine RL.r (mvL rfl) rfl ?_
          refine RL.r (mvP rfl) rfl ?_
          refine RL.r (nilck rfl) rfl ?_
          refine RL.r (fa_box rfl) rfl ?_
          refine RL.m (ld_box rfl hbt rfl) rfl ?_
          refine RL.r (mvI rfl) rfl ?_
          refine RL.r (slcD (n := j) rfl rfl rfl (by omega)) rfl ?_
          refine RL.appendS rfl hb57 (by have := H9.size; omega) rfl (Sl.suf hO.sl rfl (by omega) (by omega) (by decide)) (List.length_drop ..) rfl (by decide) rfl cell1 (by omega) (by simp only [maxLen]; omega) rfl ?_
          intro w10 a65 c65 hu hb65 hfr65
          replace H9 := Upd.upd H9 hu (fun k hk he => (hb57.blk he).1)
          replace hbt := hbtA.upd H9 (fun h => Nat.lt_irrefl _ (Nat.lt_of_lt_of_le hilt9 h))
          replace hO := hOA.upd H9 (fun k hk h => Nat.lt_irrefl _ (Nat.lt_of_lt_of_le (hOlt9 k hk) h))
          replace H := Upd.upd HA H9 (fun k hk he => absurd (Nat.lt_of_lt_of_le hk hs09) (Nat.not_lt.2 he))
          refine RL.r (asgL rfl) rfl ?_
          refine RL.nil ?_
          refine WP.regionS ?_
          refine RL.r (mvP rfl) rfl ?_
          refine RL.r (mvL rfl) rfl ?_
          refine RL.r (nilck rfl) rfl ?_
          refine RL.r (fa_box rfl) rfl ?_
          have hbt_0 := hbt
          refine RL.store1 rfl hbt rfl rfl rfl rfl ?_
          intro w11 hu hbt
          replace hb65 := own_box hb65 hbt_0 (by decide) hu
          replace H := Upd.same H hu
          refine RL.nil ?_
          refine WP.regionS ?_
          refine RL.r (asgI rfl) rfl ?_
          refine RL.nil ?_
          refine WP.ret ?_
          have hm : ¬ ¬ topicOk t := by assumption
          have hpl : placeI S t.name < 0 := by omega
          have hno : eGet S t.name = none := placeI_neg.1 hpl
          have hE : makeE S t = 0 := by
            unfold makeE
            rw [if_neg hm, if_neg (fun h => h hno), if_neg (by omega)]
          have hokl := okC_make hok t
          have hg : makeC S t = [] ++ S.take j ++ [t] ++ S.drop j := by
            unfold makeC
            rw [if_pos hE]
            exact (put_at hok.srt hno (by omega) hok2 (fun h hlt => hc ⟨by omega, by rw [nmAt_get h]; exact hlt⟩)).symm
          rw [hg] at hokl ⊢
          refine fin1_ret rfl ⟨⟨intE hE.symm, _, ⟨⟨_, hbt, hb65.mono (Nat.le_trans hBw hs09)⟩, hokl⟩⟩, H⟩
theorem in_next {S : List Topic} {names : List ByteArray} {j j1 : Nat} (hj : j < S.length) (hj1 : j1 < names.length) : (nmAt S j ∈ names.take j1 ∨ names[j1] = S[j].name) ↔ nmAt S j ∈ names.take (j1 + 1) := by
  rw [List.take_succ_eq_append_getElem hj1, List.mem_append, List.mem_singleton, nmAt_get hj]
  exact or_congr Iff.rfl eq_comm
set_option maxRecDepth 20000 in
set_option maxHeartbeats 1600000 in
theorem rPartsC (w0 : World) (B i : Nat) (a : Option Addr) (S : List Topic) (hT : Tr B w0 i a S) (a2 : Option Addr) (c2 : Nat) (names : List ByteArray) (hn : Sl w0 a2 names) (hnl : names.length ≤ 1000) :
    Ct Try.prog 29 #[.pointer (some ⟨i, 0, none⟩), .slice a2 names.length c2] w0 fun v w' => (∃ a c, v = .slice a (partsC S names).length c ∧ Eng.Own w0.heap.size w' 48 a c (partsC S names)) ∧ Ext w0 w' := by
  refine Ct.intro1 Try.func29 Try.ntmps29 rfl rfl (by decide) rfl ?_
  have H : Ext w0 w0 := Ext.refl w0
  obtain ⟨c, hbt, hO⟩ := hT.at_
  have hok := hT.ok
  have hle8 := hok.len
  have hSc := own_le hO
  have hBw : B ≤ w0.heap.size := Nat.le_of_lt (Nat.lt_of_le_of_lt hT.lt.2 hT.lt.1)
  refine WP.regionS ?_
  refine RL.r (asgL rfl) rfl ?_
  refine RL.nil ?_
  refine WP.regionS ?_
  refine RL.build0 (α := Part) w0.heap.size H.size rfl ?_
  intro w1 i10 hi10 hx hb10
  replace H := H.ext hx; replace hbt := hbt.ext hx; replace hO := hO.ext hx; clear hx
  refine RL.r (asgL rfl) rfl ?_
  refine RL.nil ?_
  refine WP.seq ?_
  refine WP.regionS ?_
  refine RL.r (asgI rfl) rfl ?_
  refine RL.nil ?_
  refine WP.block ?_
  refine WP.loop (fun k e' w' => ∃ j : Nat, ∃ (a5 : Option Addr) (c5 : Nat) (P5 : List Part),  j + k = S.length ∧ Head [5, 6, 7, 8, 9, 11, 12, 13, 14, 15, 16, 17, 18, 19, 20, 21, 22, 23, 24, 25, 26, 27, 28, 29, 30, 31, 32, 33, 34, 35, 36, 37, 38, 39, 40, 41, 42, 43, 44, 45, 46, 47, 48, 49, 50, 51, 52, 53, 54, 55, 56, 57, 58, 59, 60, 61, 62, 63, 64, 65, 66, 67, 68, 69] _ [(5, .slice a5 P5.length c5), (6, .int .i64 (j : Int))] e' ∧ Ext w0 w' ∧ Box B w' i 54 [.slice a S.length c] ∧ Eng.Own B w' 25 a c S ∧ Eng.Own w0.heap.size w' 48 a5 c5 P5 ∧ P5 = partsC (S.take j) names) (S.length)
    ⟨0, _, _, [], by omega, Head.intro (AgreeOff.refl _ _) ⟨rfl, rfl, trivial⟩, H, hbt, hO, hb10, rfl⟩ ?_
  clear H hbt hO hb10
  rintro k e w2 ⟨j, a5, c5, P5, hjk, ⟨jk, rfl⟩, H, hbt, hO, hP, hP5⟩
  have hpl : P5.length ≤ 8 * j := by rw [hP5]; exact partsC_le hok names j (by omega)
  refine WP.seq ?_
  refine WP.regionS ?_
  refine RL.r (mvI rfl) rfl ?_
  refine RL.r (mvP rfl) rfl ?_
  refine RL.r (nilck rfl) rfl ?_
  refine RL.r (fa_box rfl) rfl ?_
  refine RL.m (ld_box rfl hbt rfl) rfl ?_
  refine RL.r (len_sl rfl) rfl ?_
  refine RL.r (lss rfl rfl) rfl ?_
  refine RL.nil ?_
  refine WP.cond rfl (fun hc => ?_) (fun hc => ?_)
  · refine WP.skip ?_
    refine WP.seq ?_
    refine WP.block ?_
    refine WP.regionS ?_
    refine RL.r (asgB rfl) rfl ?_
    refine RL.nil ?_
    refine WP.seq ?_
    refine WP.regionS ?_
    refine RL.r (asgI rfl) rfl ?_
    refine RL.nil ?_
    refine WP.block ?_
    refine WP.loop (fun k1 e' w' => ∃ j1 : Nat,  j1 + k1 = names.length ∧ Head [7, 8, 20, 21, 22, 23, 24, 25, 26, 27, 28, 29, 30, 31, 32, 33, 34, 35, 36, 37, 38, 39, 40, 41] _ [(7, .bool (decide (nmAt S j ∈ names.take j1))), (8, .int .i64 (j1 : Int))] e' ∧ Ext w0 w' ∧ Box B w' i 54 [.slice a S.length c] ∧ Eng.Own B w' 25 a c S ∧ Eng.Own w0.heap.size w' 48 a5 c5 P5) (names.length)
      ⟨0, by omega, Head.intro (AgreeOff.refl _ _) ⟨congrArg Value.bool (decide_eq_false (by simp)).symm, rfl, trivial⟩, H, hbt, hO, hP⟩ ?_
    clear H hbt hO hP
    rintro k1 e w3 ⟨j1, hjk1, ⟨jk1, rfl⟩, H, hbt, hO, hP⟩
    have hj : j < S.length := by omega
    have hn8 := (hok.may _ (List.getElem_mem hj)).2
    obtain ⟨q, hq⟩ := hO.sl.isAddr (by decide) hj
    subst hq
    refine WP.seq ?_
    refine WP.regionS ?_
    refine RL.r (mvI rfl) rfl ?_
    refine RL.r (mvL rfl) rfl ?_
    refine RL.r (len_sl rfl) rfl ?_
    refine RL.r (lss rfl rfl) rfl ?_
    refine RL.nil ?_
    refine WP.cond rfl (fun hc => ?_) (fun hc => ?_)
    · refine WP.skip ?_
      refine WP.seq ?_
      refine WP.block ?_
      refine WP.draw (by kernel_rfl) ?_
      refine QL.r (mvB rfl) rfl ?_
      refine QL.r (mvB rfl) rfl ?_
      refine QL.gg (gwF rfl rfl) (fun hg => (mvL rfl).does _) rfl ?_
      refine QL.gg (gwF rfl rfl) (fun hg => (mvI rfl).does _) rfl ?_
      have hj1 : j1 < names.length := by omega
      obtain ⟨p, hp⟩ := hn.isAddr (by decide) hj1
      subst hp
      refine QL.gg (gwF rfl rfl) (fun hg => (ix (gs hg rfl) (gs hg rfl) rfl hj1).does _) rfl ?_
      refine QL.gg (gwF rfl rfl) (fun hg => ld_e0 (gs hg rfl) hn H rfl hj1 rfl) rfl ?_
      refine QL.gg (gwF rfl rfl) (fun hg => (mvP rfl).does _) rfl ?_
      refine QL.gg (gwF rfl rfl) (fun hg => (nilck (gs hg rfl)).does _) rfl ?_
      refine QL.gg (gwF rfl rfl) (fun hg => (fa_box (gs hg rfl)).does _) rfl ?_
      refine QL.gg (gwF rfl rfl) (fun hg => ld_box (gs hg rfl) hbt rfl) rfl ?_
      refine QL.gg (gwF rfl rfl) (fun hg => (mvI rfl).does _) rfl ?_
      refine QL.gg (gwF rfl rfl) (fun hg => (ix (gs hg rfl) (gs hg rfl) rfl hj).does _) rfl ?_
      refine QL.gg (gwF rfl rfl) (fun hg => (fa_el hO.sl.1 (gs hg rfl)).does _) rfl ?_
      refine QL.gg (gwF rfl rfl) (fun hg => ld_el (gs hg rfl) hO.sl (Ext.refl _) rfl hj rfl) rfl ?_
      refine QL.gg (gwF rfl rfl) (fun hg => (seql (gs hg rfl) (gs hg rfl)).does _) rfl ?_
      refine QL.r (pickOr rfl (fun hn => gs hn rfl)) rfl ?_
      refine QL.r (asgB rfl) rfl ?_
      refine QL.nil ?_; intro w4 hx; replace H := H.ext hx; replace hbt := hbt.ext hx; replace hO := hO.ext hx; replace hP := hP.ext hx
      refine WP.region ?_
      refine RL.r (mvI rfl) rfl ?_
      refine RL.r (add rfl rfl (by omega)) rfl ?_
      refine RL.r (asgI rfl) rfl ?_
      refine RL.nil ?_
      refine ⟨k1 - 1, by omega, j1 + 1, by omega, Head.intro (by repeat (first | with_reducible exact AgreeOff.mix _ _ _ | refine AgreeOff.look rfl ?_ | refine AgreeOff.mixs rfl ?_)) ⟨congrArg Value.bool (decide_eq_decide.2 (in_next hj hj1)), rfl, trivial⟩, H, hbt, hO, hP⟩
    · refine WP.exit ?_
      refine WP.regionS ?_
      refine RL.r (asgI rfl) rfl ?_
      refine RL.nil ?_
      refine WP.block ?_
      refine WP.loop (fun k2 e' w' => ∃ j2 : Nat, ∃ (a5 : Option Addr) (c5 : Nat) (P6 : List Part),  j2 + k2 = S[j].n.toNat ∧ Head [5, 9, 42, 43, 44, 45, 46, 47, 48, 49, 50, 51, 52, 53, 54, 55, 56, 57, 58, 59, 60, 61, 62, 63, 64, 65, 66, 67, 68, 69] _ [(5, .slice a5 P6.length c5), (9, .int .i64 (j2 : Int))] e' ∧ Ext w0 w' ∧ Box B w' i 54 [.slice (some q) S.length c] ∧ Eng.Own B w' 25 (some q) c S ∧ Eng.Own w0.heap.size w' 48 a5 c5 P6 ∧ P6 = P5 ++ prS names S[j].name j2) (S[j].n.toNat)
        ⟨0, a5, c5, P5, by omega, Head.intro (AgreeOff.refl _ _) ⟨rfl, rfl, trivial⟩, H, hbt, hO, hP, by rw [prS_0, List.append_nil]⟩ ?_
      clear H hbt hO hP
      rintro k2 e w5 ⟨j2, a5, c5, P6, hjk2, ⟨jk2, rfl⟩, H, hbt, hO, hP, hP6⟩
      have hpl2 : P6.length ≤ 8 * j + j2 := by rw [hP6, List.length_append]; have := prS_le names S[j].name j2; omega
      refine WP.seq ?_
      refine WP.seq (WP.quiet ?_)
      refine QL.r (mvI rfl) rfl ?_
      refine QL.r (mvP rfl) rfl ?_
      refine QL.r (nilck rfl) rfl ?_
      refine QL.r (fa_box rfl) rfl ?_
      refine QL.m (ld_box rfl hbt rfl) rfl ?_
      refine QL.r (mvI rfl) rfl ?_
      refine QL.r (ix rfl rfl rfl hj) rfl ?_
      refine QL.r (fa_el hO.sl.1 rfl) rfl ?_
      refine QL.m (ld_el rfl hO.sl (Ext.refl _) rfl hj rfl) rfl ?_
      refine QL.r (lss rfl rfl) rfl ?_
      refine QL.r (mvB rfl) rfl ?_
      refine QL.gg (gwT rfl rfl) (fun hg => (mvB rfl).does _) rfl ?_
      refine QL.r (pickAnd rfl (fun hn => gs hn rfl)) rfl ?_
      refine QL.nil ?_; intro w6 hx; replace H := H.ext hx; replace hbt := hbt.ext hx; replace hO := hO.ext hx; replace hP := hP.ext hx
      refine WP.cond rfl (fun hc => ?_) (fun hc => ?_)
      · refine WP.skip ?_
        refine WP.seq ?_
        refine WP.block ?_
        refine WP.region ?_
        refine RL.r (mvL rfl) rfl ?_
        refine RL.r (mvP rfl) rfl ?_
        refine RL.r (nilck rfl) rfl ?_
        refine RL.r (fa_box rfl) rfl ?_
        refine RL.m (ld_box rfl hbt rfl) rfl ?_
        refine RL.r (mvI rfl) rfl ?_
        refine RL.r (ix rfl rfl rfl hj) rfl ?_
        refine RL.r (fa_el hO.sl.1 rfl) rfl ?_
        refine RL.m (ld_el rfl hO.sl (Ext.refl _) rfl hj rfl) rfl ?_
        refine RL.r (mvI rfl) rfl ?_
        refine RL.r (bld rfl rfl) rfl ?_
        refine RL.buildSlice w0.heap.size H.size rfl rfl rfl rfl rfl ?_
        intro w7 i68 hi68 hx hb68
        replace H := H.ext hx; replace hbt := hbt.ext hx; replace hO := hO.ext hx; replace hP := hP.ext hx; clear hx
        refine RL.appendS rfl hP H.size rfl (show Sl _ _ [(⟨S[j].name, (j2 : Int)⟩ : Part)] from Box.sl1 hb68) rfl rfl (by decide) rfl cell1 (by omega) (by simp only [maxLen]; omega) rfl ?_
        intro w8 a69 c69 hu hb69 hfr69
        replace hbt := hbt.upd hu (fun h => hP.box_apart hbt (by decide) h)
        replace hO := hO.upd hu (fun y hy => hO.apart hP (by decide) hy)
        replace H := Ext.own H hP hu; clear hu
        refine RL.r (asgL rfl) rfl ?_
        refine RL.nil ?_
        refine WP.region ?_
        refine RL.r (mvI rfl) rfl ?_
        refine RL.r (add rfl rfl (by omega)) rfl ?_
        refine RL.r (asgI rfl) rfl ?_
        refine RL.nil ?_
        refine ⟨k2 - 1, by omega, j2 + 1, _, _, _, by omega, Head.intro (by repeat (first | with_reducible exact AgreeOff.mix _ _ _ | refine AgreeOff.look rfl ?_ | refine AgreeOff.mixs rfl ?_)) ⟨rfl, rfl, trivial⟩, H, hbt, hO, hb69, by rw [hP6, prS_yes (by have h := hc.2; rw [nmAt_get hj] at h; exact List.mem_of_mem_take h), List.append_assoc]⟩
      · refine WP.exit ?_
        refine WP.region ?_
        refine RL.r (mvI rfl) rfl ?_
        refine RL.r (add rfl rfl (by omega)) rfl ?_
        refine RL.r (asgI rfl) rfl ?_
        refine RL.nil ?_
        have hfin : prS names S[j].name j2 = prS names S[j].name S[j].n.toNat := by
          by_cases hm : S[j].name ∈ names
          · have : ¬ ((j2 : Int) < S[j].n) := fun h => hc ⟨h, by rw [nmAt_get hj, List.take_of_length_le (by omega)]; exact hm⟩
            rw [show j2 = S[j].n.toNat by omega]
          · rw [prS_no hm, prS_no hm]
        refine ⟨k - 1, by omega, j + 1, _, _, _, by omega, Head.intro (by repeat (first | with_reducible exact AgreeOff.mix _ _ _ | refine AgreeOff.look rfl ?_ | refine AgreeOff.mixs rfl ?_)) ⟨rfl, rfl, trivial⟩, H, hbt, hO, hP, by rw [hP6, hP5, partsC_s hj, hfin]⟩
  · refine WP.exit ?_
    refine WP.regionS ?_
    refine RL.r (mvL rfl) rfl ?_
    refine RL.r (asgL rfl) rfl ?_
    refine RL.nil ?_
    refine WP.ret ?_
    have hall : partsC S names = P5 := by rw [hP5, List.take_of_length_le (by omega)]
    refine fin1_ret rfl ⟨⟨a5, c5, by rw [hall]; rfl, by rw [hall]; exact hP⟩, H⟩
end Go.Proofs.Ytdcckaamepilcaa
