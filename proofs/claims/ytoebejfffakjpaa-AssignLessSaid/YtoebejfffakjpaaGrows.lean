/-
  Grows: walks and laws, written by gen/gen.py out of gen/thy/Grows.py.
-/
import Derived.Test.YtoebejfffakjpaaOne
set_option linter.unusedVariables false
namespace Go.Proofs.Ytoebejfffakjpaa
open Go Go.Eng Go.RowKit
/-- no block in both -/
def Ap (a b : Option Addr) : Prop := ∀ k, inBlock a k → ¬ inBlock b k
theorem Ap.symm {a b : Option Addr} (h : Ap a b) : Ap b a := fun k hb ha => h k ha hb
theorem Ap.grow {α : Type} [Lies α] {a b a' : Option Addr} {w : World} {B c : Nat} {T : TypeId} {l : List α} (h : Ap a b) (hf : Fr w a a') (ho : Own B w T b c l) : Ap a' b := by
  intro k ha hb
  rcases hf k ha with h1 | h1
  · exact h k h1 hb
  · have := (ho.blk hb).2; omega
theorem Ap.new {i j : Nat} (h : i < j) : Ap (some ⟨i, 0, none⟩) (some ⟨j, 0, none⟩) := by
  rintro k ⟨p, hp, rfl⟩ ⟨q, hq, e⟩
  cases hp; cases hq
  simp only at e
  omega
def fil (t : ByteArray) (l : List Part) : List Part := l.filter fun x => decide (x.topic ≠ t)
theorem fil_yes {t : ByteArray} {l : List Part} {j : Nat} (hj : j < l.length) (h : l[j].topic ≠ t) : fil t (l.take (j + 1)) = fil t (l.take j) ++ [l[j]] := by
  unfold fil
  rw [List.take_succ_eq_append_getElem hj, List.filter_append]
  congr 1
  simp [h]
theorem fil_no {t : ByteArray} {l : List Part} {j : Nat} (hj : j < l.length) (h : ¬ l[j].topic ≠ t) : fil t (l.take (j + 1)) = fil t (l.take j) := by
  unfold fil
  rw [List.take_succ_eq_append_getElem hj, List.filter_append]
  have : List.filter (fun x : Part => decide (x.topic ≠ t)) [l[j]] = [] := by simpa using Classical.not_not.1 h
  rw [this, List.append_nil]
theorem fil_len (t : ByteArray) (l : List Part) : (fil t l).length ≤ l.length := List.length_filter_le _ _
/-- topic n has one more partition, or one -/
def growT (t : Topic) : Topic := ⟨t.name, t.n % 8 + 1⟩
theorem grow_fil (m : List Mem) (i : Nat) (l : List Topic) (n : Nat) (hn : n < l.length) : fil l[n].name (rangeRow m l i) = fil l[n].name (rangeRow m (l.set n (growT l[n])) i) := by
  unfold rangeRow fil
  rw [List.filter_flatMap, List.filter_flatMap]
  have h1 : ∀ t : Topic, t.name = l[n].name → (part1 m i t).filter (fun x => decide (x.topic ≠ l[n].name)) = [] := by
    intro t ht
    rw [List.filter_eq_nil_iff]
    intro x hx
    simp [(part1_mem hx).1, ht]
  rw [List.flatMap_def, List.flatMap_def]
  congr 1
  apply List.ext_getElem (by simp)
  intro k h2 h3
  simp only [List.getElem_map, List.getElem_set]
  split
  · rename_i e
    subst e
    rw [h1 _ rfl]
    exact (h1 (growT l[n]) rfl).symm
  · rfl
theorem grow_check {l : List Topic} {m : List Mem} {n : Nat} (hn : n < l.length) (h : checkE l m = 0) : checkE (l.set n (growT l[n])) m = 0 := by
  obtain ⟨hl8, hlok, hm8, hmok⟩ := check_ok h
  have hname : ∀ (k : Nat) (hk : k < l.length), ((l.set n (growT l[n]))[k]'(by simpa using hk)).name = l[k].name := by
    intro k hk
    rw [List.getElem_set]
    split
    · rename_i e; subst e; rfl
    · rfl
  have h1 : topicsE (l.set n (growT l[n])) = 0 := by
    unfold topicsE
    rw [if_neg (by rw [List.length_set]; omega), if_pos]
    intro k hk
    have hk' : k < l.length := by simpa using hk
    have h2 := hlok k hk'
    refine ⟨⟨by rw [hname k hk']; exact h2.1.1, ?_⟩, fun h0 => ?_⟩
    · rw [List.getElem_set]
      split
      · show 1 ≤ l[n].n % 8 + 1 ∧ l[n].n % 8 + 1 ≤ 8
        omega
      · exact h2.1.2
    · rw [hname k hk', hname (k - 1) (by omega)]
      exact h2.2 h0
  unfold checkE
  rw [if_neg (by simp [h1]), if_neg (by omega), if_pos hmok]
set_option maxRecDepth 20000 in
set_option maxHeartbeats 3200000 in
theorem lAssignGrows (w0 : World) (a b : Option Addr) (c d : Nat) (l : List Topic) (m : List Mem) (k0 : Int) (hl : SlI w0 a l) (hm : SlI w0 b m) (hts : ∀ x ∈ m, SlI w0 x.ta x.topics) :
    Ct Try.prog 7 #[.agg [.slice a l.length c, .slice b m.length d].toArray, .int .i64 k0] w0 fun v w' => v = .bool true ∧ Ext w0 w' := by
  refine Ct.intro1 Try.func7 Try.ntmps7 rfl rfl (by decide) rfl ?_
  have H : Ext w0 w0 := Ext.refl w0
  refine WP.regionS ?_
  refine RL.boxS w0.heap.size H.size rfl rfl ?_
  intro w1 i2 hi2 hx hb2
  replace H := H.ext hx; clear hx
  refine RL.r (asgB rfl) rfl ?_
  refine RL.nil ?_
  refine WP.regionS ?_
  refine RL.m (ldS_box rfl hb2 (Nat.le_of_ble_eq_true rfl) rfl) rfl ?_
  -- call stagecoach/stagecoachlaw10.cut (tmp 16)
  have H0s := H.size
  refine RL.call (lCut _ _ _ c d l m (fun h => (hl h).ext H) (fun h => (hm h).ext H) (fun x hx h => (hts x hx h).ext H)) rfl rfl ?_
  rintro _ w2 ⟨⟨a1, c1, L1, b1, d1, M1, rfl, hA⟩, hx⟩
  replace H := H.ext hx; replace hb2 := hb2.ext hx
  have hb2o := hb2
  refine RL.storeS rfl hb2 rfl rfl rfl rfl ?_
  intro w3 hu hb2
  replace H := H.box hu hb2.old
  refine RL.nil ?_
  refine WP.seq ?_
  refine WP.seq (WP.quiet ?_)
  refine QL.r (fa_box rfl) rfl ?_
  refine QL.m (ld_box rfl hb2 rfl) rfl ?_
  refine QL.r (fa_box rfl) rfl ?_
  refine QL.m (ld_box rfl hb2 rfl) rfl ?_
  -- call stagecoach/assign.Check (tmp 19) (tmp 21)
  replace hA := hA.mono H0s
  replace hA := hA.box hb2o (by decide) (by decide) (by decide) hu
  have HA := Ext.refl w3
  have H03 := H
  have hb23 := hb2
  have hK0 : ∀ w', Ext w3 w' → Ct Try.prog 15 #[.slice a1 L1.length c1, .slice b1 M1.length d1] w' fun u w'' => u = .int .i64 (checkE L1 M1) ∧ Ext w' w'' := fun w' hw' => pCheck w' _ _ c1 d1 L1 M1 (hA.ol.sl.ext hw') (hA.om.sl.ext hw')
  refine QL.call (fun w' hw' => hK0 w' hw') rfl rfl ?_
  refine QL.r (neq rfl rfl) rfl ?_
  refine QL.r (mvB rfl) rfl ?_
  refine QL.gg (gwF rfl rfl) (fun hg => (fa_box rfl).does _) rfl ?_
  refine QL.gg (gwF rfl rfl) (fun hg => ld_box (gs hg rfl) hb2 rfl) rfl ?_
  refine QL.gg (gwF rfl rfl) (fun hg => (len_sl (gs hg rfl)).does _) rfl ?_
  refine QL.gg (gwF rfl rfl) (fun hg => (eql (gs hg rfl) rfl).does _) rfl ?_
  refine QL.r (pickOr rfl (fun hn => gs hn rfl)) rfl ?_
  refine QL.nil ?_; intro w5 hx; replace H := H.ext hx; replace hb2 := hb2.ext hx; replace HA := HA.ext hx
  refine WP.cond rfl (fun hc => ?_) (fun hc => ?_)
  · refine WP.regionS ?_
    -- call stagecoach/stagecoachlaw10.fixed 
    refine RL.call (lFixed _) rfl rfl ?_
    rintro _ w6 ⟨rfl, hx⟩
    replace H := H.ext hx; replace hb2 := hb2.ext hx; replace HA := HA.ext hx
    refine RL.r (asgB rfl) rfl ?_
    refine RL.nil ?_
    refine WP.ret ?_
    refine fin1_ret rfl ⟨rfl, H⟩
  · have hck : checkE L1 M1 = 0 := Classical.not_not.1 fun h => hc (Or.inl h)
    have hne : 0 < L1.length := Nat.pos_of_ne_zero fun h => hc (Or.inr (by rw [h]; rfl))
    refine WP.skip ?_
    refine WP.regionS ?_
    refine RL.r (mvI rfl) rfl ?_
    refine RL.r (and16 rfl rfl) rfl ?_
    refine RL.r (fa_box rfl) rfl ?_
    refine RL.m (ld_box rfl hb2 rfl) rfl ?_
    refine RL.r (len_sl rfl) rfl ?_
    refine RL.r (rem rfl rfl (by omega)) rfl ?_
    refine RL.r (asgI rfl) rfl ?_
    refine RL.nil ?_
    refine WP.regionS ?_
    obtain ⟨hl8, hlok, hm8, hmok⟩ := check_ok hck
    obtain ⟨n, hnd⟩ : ∃ n, n = and16v k0 % L1.length := ⟨_, rfl⟩
    have hn : n < L1.length := by rw [hnd]; exact Nat.mod_lt _ hne
    have hJn : ((and16v k0 : Nat) : Int) % ((L1.length : Nat) : Int) = ((n : Nat) : Int) := by rw [hnd]; exact (Int.natCast_emod _ _).symm
    have hck2 : checkE (L1.set n (growT L1[n])) M1 = 0 := grow_check hn hck
    have htn := (hlok n hn).1.2
    have hnm : ∀ h : n < (L1.set n (growT L1[n])).length, (Lies.enc ((L1.set n (growT L1[n]))[n]'h))[0]? = some (Value.string L1[n].name) := fun h => by rw [List.getElem_set_self]; rfl
    refine RL.build0 (α := Topic) w3.heap.size HA.size rfl ?_
    intro w7 i37 hi37 hx hb37
    replace H := H.ext hx; replace hb2 := hb2.ext hx; replace HA := HA.ext hx; clear hx
    refine RL.r (fa_box rfl) rfl ?_
    refine RL.m (ld_box rfl hb2 rfl) rfl ?_
    refine RL.appendS rfl hb37 HA.size rfl (hA.ol.sl.ext HA) rfl rfl (by decide) rfl cell1 (by simp only [List.length_nil]; omega) (by simp only [maxLen, List.length_nil]; omega) rfl ?_
    intro w8 a40 c40 hu hb40 hfr40
    replace HA := Ext.own HA hb37 hu; replace H := H03.trans HA; replace hb2 := hb23.ext HA; clear hu
    refine RL.r (asgL rfl) rfl ?_
    refine RL.nil ?_
    refine WP.regionS ?_
    refine RL.r (mvL rfl) rfl ?_
    refine RL.r (mvI rfl) rfl ?_
    refine RL.r (mvL rfl) rfl ?_
    refine RL.r (mvI rfl) rfl ?_
    have hl2 : Own w3.heap.size w8 46 a40 c40 L1 := hb40
    obtain ⟨q6, rfl⟩ := hl2.sl.isAddr (by decide) hn
    refine RL.r (ix rfl rfl hJn hn) rfl ?_
    refine RL.r (fa_el hl2.sl.1 rfl) rfl ?_
    refine RL.m (ld_el rfl hl2.sl (Ext.refl _) rfl hn rfl) rfl ?_
    refine RL.r (rem rfl rfl (by omega)) rfl ?_
    refine RL.r (add rfl rfl (by omega)) rfl ?_
    refine RL.r (ix rfl rfl hJn hn) rfl ?_
    refine RL.r (fa_el hl2.sl.1 rfl) rfl ?_
    refine RL.setOwn (u := growT L1[n]) (i := n) (off := 1) (v := .int .i64 (L1[n].n % 8 + 1)) (vs := [.int .i64 (L1[n].n % 8 + 1)]) rfl hl2 hn rfl rfl rfl (Nat.le_of_ble_eq_true rfl) rfl (fun v hv => by obtain rfl := List.mem_singleton.1 hv; rfl) ?_
    intro w9 hu2 hl3
    replace HA := Ext.own HA hl2 hu2
    replace H := H03.trans HA
    replace hb2 := hb23.ext HA
    refine RL.nil ?_
    refine WP.regionS ?_
    refine RL.r (fa_box rfl) rfl ?_
    refine RL.m (ld_box rfl hb2 rfl) rfl ?_
    refine RL.r (fa_box rfl) rfl ?_
    refine RL.m (ld_box rfl hb2 rfl) rfl ?_
    -- call stagecoach/assign.Range (tmp 54) (tmp 56)
    refine RL.call (pRange _ _ _ c1 d1 L1 M1 (hA.ol.sl.ext HA) (hA.om.sl.ext HA) (hA.ext HA).ts) rfl rfl ?_
    rintro _ w10 ⟨⟨qa, ca, ga, rfl, hGa, hra⟩, hx⟩
    replace H := H.ext hx; replace hb2 := hb2.ext hx; replace HA := HA.ext hx; replace hl3 := hl3.ext hx
    refine RL.r (mvU rfl) rfl ?_
    refine RL.r (ex0 rfl) rfl ?_
    refine RL.r (ex1 rfl) rfl ?_
    refine RL.r (asgL rfl) rfl ?_
    refine RL.r (asgI rfl) rfl ?_
    refine RL.nil ?_
    refine WP.regionS ?_
    refine RL.r (mvL rfl) rfl ?_
    refine RL.r (fa_box rfl) rfl ?_
    refine RL.m (ld_box rfl hb2 rfl) rfl ?_
    -- call stagecoach/assign.Range (tmp 61) (tmp 63)
    have hP := pRange w10 (some q6) _ c40 d1 (L1.set n (growT L1[n])) M1 hl3.sl (hA.om.sl.ext HA) (hA.ext HA).ts
    rw [List.length_set] at hP
    refine RL.call (hP) rfl rfl ?_
    rintro _ w11 ⟨⟨qb, cb, gb, rfl, hGb, hrb⟩, hx⟩
    replace H := H.ext hx; replace hb2 := hb2.ext hx; replace HA := HA.ext hx; replace hl3 := hl3.ext hx; replace hGa := hGa.ext hx
    have HD := Ext.refl w11
    have H011 := H
    have hb211 := hb2
    have hA11 := hA.ext HA
    have hGa11 := hGa
    have hGb11 := hGb
    have hl11 := hl3
    have hra11 : rows ga = rangeG L1 M1 := by rw [hra, if_pos hck]
    have hrb11 : rows gb = rangeG (L1.set n (growT L1[n])) M1 := by rw [hrb, if_pos hck2]
    refine RL.r (mvU rfl) rfl ?_
    refine RL.r (ex0 rfl) rfl ?_
    refine RL.r (ex1 rfl) rfl ?_
    refine RL.r (asgL rfl) rfl ?_
    refine RL.r (asgI rfl) rfl ?_
    refine RL.nil ?_
    refine WP.seq ?_
    refine WP.seq (WP.quiet ?_)
    refine QL.r (mvI rfl) rfl ?_
    refine QL.r (neq rfl rfl) rfl ?_
    refine QL.r (mvB rfl) rfl ?_
    refine QL.gg (gwF rfl rfl) (fun hg => (mvI rfl).does _) rfl ?_
    refine QL.gg (gwF rfl rfl) (fun hg => (neq (gs hg rfl) rfl).does _) rfl ?_
    refine QL.r (pickOr rfl (fun hn => gs hn rfl)) rfl ?_
    refine QL.r (mvB rfl) rfl ?_
    refine QL.gg (gwF rfl rfl) (fun hg => (mvL rfl).does _) rfl ?_
    refine QL.gg (gwF rfl rfl) (fun hg => (len_sl (gs hg rfl)).does _) rfl ?_
    refine QL.gg (gwF rfl rfl) (fun hg => (fa_box rfl).does _) rfl ?_
    refine QL.gg (gwF rfl rfl) (fun hg => ld_box (gs hg rfl) hb2 rfl) rfl ?_
    refine QL.gg (gwF rfl rfl) (fun hg => (len_sl (gs hg rfl)).does _) rfl ?_
    refine QL.gg (gwF rfl rfl) (fun hg => (neq (gs hg rfl) (gs hg rfl)).does _) rfl ?_
    refine QL.r (pickOr rfl (fun hn => gs hn rfl)) rfl ?_
    refine QL.r (mvB rfl) rfl ?_
    refine QL.gg (gwF rfl rfl) (fun hg => (mvL rfl).does _) rfl ?_
    refine QL.gg (gwF rfl rfl) (fun hg => (len_sl (gs hg rfl)).does _) rfl ?_
    refine QL.gg (gwF rfl rfl) (fun hg => (fa_box rfl).does _) rfl ?_
    refine QL.gg (gwF rfl rfl) (fun hg => ld_box (gs hg rfl) hb2 rfl) rfl ?_
    refine QL.gg (gwF rfl rfl) (fun hg => (len_sl (gs hg rfl)).does _) rfl ?_
    refine QL.gg (gwF rfl rfl) (fun hg => (neq (gs hg rfl) (gs hg rfl)).does _) rfl ?_
    refine QL.r (pickOr rfl (fun hn => gs hn rfl)) rfl ?_
    refine QL.nil ?_; intro w12 hx; replace H := H.ext hx; replace hb2 := hb2.ext hx; replace HD := HD.ext hx
    refine WP.cond rfl (fun hc => ?_) (fun hc => ?_)
    · refine WP.regionS ?_
      refine RL.r (asgB rfl) rfl ?_
      refine RL.nil ?_
      refine WP.ret ?_
      refine fin1_ret rfl ⟨absurd hc (by rw [rows_length hra11, rows_length hrb11]; simp [hck, hck2, rangeG]), H⟩
    · refine WP.skip ?_
      refine WP.seq ?_
      refine WP.regionS ?_
      refine RL.r (asgI rfl) rfl ?_
      refine RL.nil ?_
      refine WP.block ?_
      refine WP.loop (fun k e' w' => ∃ j : Nat,  j + k = M1.length ∧ Head [4, 11, 12, 13, 14, 15, 89, 90, 91, 92, 93, 94, 95, 96, 97, 98, 99, 100, 101, 102, 103, 104, 105, 106, 107, 108, 109, 110, 111, 112, 113, 114, 115, 116, 117, 118, 119, 120, 121, 122, 123, 124, 125, 126, 127, 128, 129, 130, 131, 132, 133, 134, 135, 136, 137, 138, 139, 140, 141, 142, 143, 144, 145, 146, 147, 148, 149, 150, 151, 152, 153, 154, 155, 156, 157, 158, 159, 160, 161, 162, 163, 164, 165, 166, 167] _ [(11, .int .i64 (j : Int))] e' ∧ Ext w0 w' ∧ Box w0.heap.size w' i2 25 [.slice a1 L1.length c1, .slice b1 M1.length d1] ∧ Ext w11 w' ∧ True) (M1.length)
        ⟨0, by omega, Head.intro (AgreeOff.refl _ _) ⟨rfl, trivial⟩, H, hb2, HD, trivial⟩ ?_
      clear H hb2 HD
      rintro k e w13 ⟨j, hjk, ⟨jk, rfl⟩, H, hb2, HD, -⟩
      have hga := rows_length hra11; have hgb := rows_length hrb11; simp only [rangeG, List.length_map, List.length_range] at hga hgb
      refine WP.seq ?_
      refine WP.regionS ?_
      refine RL.r (mvI rfl) rfl ?_
      refine RL.r (fa_box rfl) rfl ?_
      refine RL.m (ld_box rfl hb2 rfl) rfl ?_
      refine RL.r (len_sl rfl) rfl ?_
      refine RL.r (lss rfl rfl) rfl ?_
      refine RL.nil ?_
      refine WP.cond rfl (fun hc => ?_) (fun hc => ?_)
      · refine WP.skip ?_
        refine WP.seq ?_
        refine WP.block ?_
        refine WP.regionS ?_
        refine RL.build0 (α := Part) w11.heap.size HD.size rfl ?_
        intro w14 i96 hi96 hx hb96
        replace H := H.ext hx; replace hb2 := hb2.ext hx; replace HD := HD.ext hx; clear hx
        have hlt96 : i96 < w14.heap.size := (hb96.blk ⟨_, rfl, rfl⟩).2
        refine RL.build0 (α := Part) w11.heap.size HD.size rfl ?_
        intro w15 i97 hi97 hx hb97
        replace H := H.ext hx; replace hb2 := hb2.ext hx; replace HD := HD.ext hx; replace hb96 := hb96.ext hx; clear hx
        refine RL.r (asgL rfl) rfl ?_
        refine RL.r (asgL rfl) rfl ?_
        refine RL.nil ?_
        refine WP.seq ?_
        refine WP.regionS ?_
        refine RL.r (asgI rfl) rfl ?_
        refine RL.nil ?_
        refine WP.block ?_
        have hj : j < M1.length := by omega
        have hja : j < ga.length := by omega
        have hjb : j < gb.length := by omega
        obtain ⟨pa, rfl⟩ := hGa11.head.sl.isAddr (by decide) hja
        obtain ⟨pb, rfl⟩ := hGb11.head.sl.isAddr (by decide) hjb
        have hea : ga[j].l = rangeRow M1 L1 j := by
          have := congrArg (fun l => l[j]?) hra11
          simpa [rangeG, hja, hj] using this
        have heb : gb[j].l = rangeRow M1 (L1.set n (growT L1[n])) j := by
          have := congrArg (fun l => l[j]?) hrb11
          simpa [rangeG, hjb, hj] using this
        have hla : ga[j].l.length ≤ 64 := by rw [hea]; exact rangeG_le hck _ (List.mem_map.2 ⟨j, by simpa using hj, rfl⟩)
        have hlb : gb[j].l.length ≤ 64 := by rw [heb]; exact rangeG_le hck2 _ (List.mem_map.2 ⟨j, by simpa using hj, rfl⟩)
        refine WP.loop (fun k1 e' w' => ∃ j1 : Nat, ∃ (a12 : Option Addr) (c12 : Nat),  j1 + k1 = ga[j].l.length ∧ Head [12, 14, 98, 99, 100, 101, 102, 103, 104, 105, 106, 107, 108, 109, 110, 111, 112, 113, 114, 115, 116, 117, 118, 119, 120, 121, 122, 123, 124, 125, 126, 127, 128, 129, 130] _ [(12, .slice a12 (fil L1[n].name (ga[j].l.take j1)).length c12), (14, .int .i64 (j1 : Int))] e' ∧ Ext w0 w' ∧ Box w0.heap.size w' i2 25 [.slice a1 L1.length c1, .slice b1 M1.length d1] ∧ Ext w11 w' ∧ Own w11.heap.size w' 27 a12 c12 (fil L1[n].name (ga[j].l.take j1)) ∧ Own w11.heap.size w' 27 (some ⟨i97, 0, none⟩) 0 ([] : List Part) ∧ Ap a12 (some ⟨i97, 0, none⟩)) (ga[j].l.length)
          ⟨0, _, 0, by omega, Head.intro (AgreeOff.refl _ _) ⟨rfl, rfl, trivial⟩, H, hb2, HD, hb96, hb97, Ap.new (by omega)⟩ ?_
        clear H hb2 HD hb96 hb97
        rintro k1 e w16 ⟨j1, a12, c12, hjk1, ⟨jk1, rfl⟩, H, hb2, HD, hX, hY, hap⟩
        have hfl := fil_len L1[n].name (ga[j].l.take j1); rw [List.length_take] at hfl
        refine WP.seq ?_
        refine WP.regionS ?_
        refine RL.r (mvI rfl) rfl ?_
        refine RL.r (mvL rfl) rfl ?_
        refine RL.r (mvI rfl) rfl ?_
        refine RL.r (ix rfl rfl rfl hja) rfl ?_
        refine RL.m (ld_e0 rfl hGa11.head.sl HD rfl hja rfl) rfl ?_
        refine RL.r (len_sl rfl) rfl ?_
        refine RL.r (lss rfl rfl) rfl ?_
        refine RL.nil ?_
        refine WP.cond rfl (fun hc => ?_) (fun hc => ?_)
        · refine WP.skip ?_
          refine WP.seq ?_
          refine WP.block ?_
          refine WP.seq ?_
          refine WP.draw (by kernel_rfl) ?_
          refine QL.r (mvL rfl) rfl ?_
          refine QL.r (mvI rfl) rfl ?_
          have hj1 : j1 < ga[j].l.length := by omega
          have hrow := (hGa11.row j hja).sl
          obtain ⟨q, hq⟩ := hrow.isAddr (by decide) hj1
          rw [hq] at hrow
          refine QL.r (ix rfl rfl rfl hja) rfl ?_
          refine QL.m (ld_e0 rfl hGa11.head.sl HD rfl hja (hdr hq)) rfl ?_
          refine QL.r (mvI rfl) rfl ?_
          refine QL.r (ix rfl rfl rfl hj1) rfl ?_
          refine QL.r (fa_el hrow.1 rfl) rfl ?_
          refine QL.m (ld_el rfl hrow HD rfl hj1 rfl) rfl ?_
          refine QL.r (mvL rfl) rfl ?_
          refine QL.r (mvI rfl) rfl ?_
          refine QL.r (ix rfl rfl hJn hn) rfl ?_
          refine QL.r (fa_el hl11.sl.1 rfl) rfl ?_
          refine QL.m (ld_el rfl hl11.sl HD rfl (by rw [List.length_set]; exact hn) (hnm _)) rfl ?_
          refine QL.r (sneq rfl rfl) rfl ?_
          refine QL.nil ?_; intro w17 hx; replace H := H.ext hx; replace hb2 := hb2.ext hx; replace HD := HD.ext hx; replace hX := hX.ext hx; replace hY := hY.ext hx
          refine WP.cond rfl (fun hc => ?_) (fun hc => ?_)
          · refine WP.region ?_
            refine RL.r (mvL rfl) rfl ?_
            refine RL.r (mvL rfl) rfl ?_
            refine RL.r (mvI rfl) rfl ?_
            refine RL.r (ix rfl rfl rfl hja) rfl ?_
            refine RL.m (ld_e0 rfl hGa11.head.sl HD rfl hja (hdr hq)) rfl ?_
            refine RL.r (mvI rfl) rfl ?_
            refine RL.r (ix rfl rfl rfl hj1) rfl ?_
            refine RL.m (ldS_el rfl hrow HD rfl rfl hj1) rfl ?_
            refine RL.buildSlice w0.heap.size H.size rfl rfl rfl rfl rfl ?_
            intro w18 i129 hi129 hx hb129
            replace H := H.ext hx; replace hb2 := hb2.ext hx; replace HD := HD.ext hx; replace hX := hX.ext hx; replace hY := hY.ext hx; clear hx
            refine RL.appendS rfl hX HD.size rfl (show Sl _ _ [ga[j].l[j1]] from Box.sl1 hb129) rfl rfl (by decide) rfl cell1 (by omega) (by simp only [maxLen]; omega) rfl ?_
            intro w19 a130 c130 hu hb130 hfr130
            have hap2 := hap.grow hfr130 hY
            replace hY := hY.upd hu (fun b hb hx => hap b hx hb)
            replace HD := Ext.own HD hX hu; replace H := H011.trans HD; replace hb2 := hb211.ext HD; clear hu
            refine RL.r (asgL rfl) rfl ?_
            refine RL.nil ?_
            refine WP.region ?_
            refine RL.r (mvI rfl) rfl ?_
            refine RL.r (add rfl rfl (by omega)) rfl ?_
            refine RL.r (asgI rfl) rfl ?_
            refine RL.nil ?_
            have hcs := fil_yes hj1 hc
            refine ⟨k1 - 1, by omega, j1 + 1, _, _, by omega, Head.intro (by repeat (first | with_reducible exact AgreeOff.mix _ _ _ | refine AgreeOff.look rfl ?_ | refine AgreeOff.mixs rfl ?_)) ⟨slE (by rw [hcs]), rfl, trivial⟩, H, hb2, HD, hcs ▸ hb130, hY, hap2⟩
          · refine WP.skip ?_
            refine WP.region ?_
            refine RL.r (mvI rfl) rfl ?_
            refine RL.r (add rfl rfl (by omega)) rfl ?_
            refine RL.r (asgI rfl) rfl ?_
            refine RL.nil ?_
            have hcs := fil_no hj1 hc
            refine ⟨k1 - 1, by omega, j1 + 1, _, _, by omega, Head.intro (by repeat (first | with_reducible exact AgreeOff.mix _ _ _ | refine AgreeOff.look rfl ?_ | refine AgreeOff.mixs rfl ?_)) ⟨slE (by rw [hcs]), rfl, trivial⟩, H, hb2, HD, hcs ▸ hX, hY, hap⟩
        · refine WP.exit ?_
          refine WP.seq ?_
          refine WP.regionS ?_
          refine RL.r (asgI rfl) rfl ?_
          refine RL.nil ?_
          refine WP.block ?_
          refine WP.loop (fun k2 e' w' => ∃ j2 : Nat, ∃ (a13 : Option Addr) (c13 : Nat),  j2 + k2 = gb[j].l.length ∧ Head [13, 15, 131, 132, 133, 134, 135, 136, 137, 138, 139, 140, 141, 142, 143, 144, 145, 146, 147, 148, 149, 150, 151, 152, 153, 154, 155, 156, 157, 158, 159, 160, 161, 162, 163] _ [(13, .slice a13 (fil L1[n].name (gb[j].l.take j2)).length c13), (15, .int .i64 (j2 : Int))] e' ∧ Ext w0 w' ∧ Box w0.heap.size w' i2 25 [.slice a1 L1.length c1, .slice b1 M1.length d1] ∧ Ext w11 w' ∧ Own w11.heap.size w' 27 a13 c13 (fil L1[n].name (gb[j].l.take j2)) ∧ Own w11.heap.size w' 27 a12 c12 (fil L1[n].name (ga[j].l.take j1)) ∧ Ap a13 a12) (gb[j].l.length)
            ⟨0, _, 0, by omega, Head.intro (AgreeOff.refl _ _) ⟨rfl, rfl, trivial⟩, H, hb2, HD, hY, hX, hap.symm⟩ ?_
          clear H hb2 HD hX hY
          rintro k2 e w20 ⟨j2, a13, c13, hjk2, ⟨jk2, rfl⟩, H, hb2, HD, hY, hX, hap⟩
          have hfl := fil_len L1[n].name (gb[j].l.take j2); rw [List.length_take] at hfl
          refine WP.seq ?_
          refine WP.regionS ?_
          refine RL.r (mvI rfl) rfl ?_
          refine RL.r (mvL rfl) rfl ?_
          refine RL.r (mvI rfl) rfl ?_
          refine RL.r (ix rfl rfl rfl hjb) rfl ?_
          refine RL.m (ld_e0 rfl hGb11.head.sl HD rfl hjb rfl) rfl ?_
          refine RL.r (len_sl rfl) rfl ?_
          refine RL.r (lss rfl rfl) rfl ?_
          refine RL.nil ?_
          refine WP.cond rfl (fun hc => ?_) (fun hc => ?_)
          · refine WP.skip ?_
            refine WP.seq ?_
            refine WP.block ?_
            refine WP.seq ?_
            refine WP.draw (by kernel_rfl) ?_
            refine QL.r (mvL rfl) rfl ?_
            refine QL.r (mvI rfl) rfl ?_
            have hj2 : j2 < gb[j].l.length := by omega
            have hrow := (hGb11.row j hjb).sl
            obtain ⟨q, hq⟩ := hrow.isAddr (by decide) hj2
            rw [hq] at hrow
            refine QL.r (ix rfl rfl rfl hjb) rfl ?_
            refine QL.m (ld_e0 rfl hGb11.head.sl HD rfl hjb (hdr hq)) rfl ?_
            refine QL.r (mvI rfl) rfl ?_
            refine QL.r (ix rfl rfl rfl hj2) rfl ?_
            refine QL.r (fa_el hrow.1 rfl) rfl ?_
            refine QL.m (ld_el rfl hrow HD rfl hj2 rfl) rfl ?_
            refine QL.r (mvL rfl) rfl ?_
            refine QL.r (mvI rfl) rfl ?_
            refine QL.r (ix rfl rfl hJn hn) rfl ?_
            refine QL.r (fa_el hl11.sl.1 rfl) rfl ?_
            refine QL.m (ld_el rfl hl11.sl HD rfl (by rw [List.length_set]; exact hn) (hnm _)) rfl ?_
            refine QL.r (sneq rfl rfl) rfl ?_
            refine QL.nil ?_; intro w21 hx; replace H := H.ext hx; replace hb2 := hb2.ext hx; replace HD := HD.ext hx; replace hX := hX.ext hx; replace hY := hY.ext hx
            refine WP.cond rfl (fun hc => ?_) (fun hc => ?_)
            · refine WP.region ?_
              refine RL.r (mvL rfl) rfl ?_
              refine RL.r (mvL rfl) rfl ?_
              refine RL.r (mvI rfl) rfl ?_
              refine RL.r (ix rfl rfl rfl hjb) rfl ?_
              refine RL.m (ld_e0 rfl hGb11.head.sl HD rfl hjb (hdr hq)) rfl ?_
              refine RL.r (mvI rfl) rfl ?_
              refine RL.r (ix rfl rfl rfl hj2) rfl ?_
              refine RL.m (ldS_el rfl hrow HD rfl rfl hj2) rfl ?_
              refine RL.buildSlice w0.heap.size H.size rfl rfl rfl rfl rfl ?_
              intro w22 i162 hi162 hx hb162
              replace H := H.ext hx; replace hb2 := hb2.ext hx; replace HD := HD.ext hx; replace hX := hX.ext hx; replace hY := hY.ext hx; clear hx
              refine RL.appendS rfl hY HD.size rfl (show Sl _ _ [gb[j].l[j2]] from Box.sl1 hb162) rfl rfl (by decide) rfl cell1 (by omega) (by simp only [maxLen]; omega) rfl ?_
              intro w23 a163 c163 hu hb163 hfr163
              have hap2 := hap.grow hfr163 hX
              replace hX := hX.upd hu (fun b hb hx => hap b hx hb)
              replace HD := Ext.own HD hY hu; replace H := H011.trans HD; replace hb2 := hb211.ext HD; clear hu
              refine RL.r (asgL rfl) rfl ?_
              refine RL.nil ?_
              refine WP.region ?_
              refine RL.r (mvI rfl) rfl ?_
              refine RL.r (add rfl rfl (by omega)) rfl ?_
              refine RL.r (asgI rfl) rfl ?_
              refine RL.nil ?_
              have hcs := fil_yes hj2 hc
              refine ⟨k2 - 1, by omega, j2 + 1, _, _, by omega, Head.intro (by repeat (first | with_reducible exact AgreeOff.mix _ _ _ | refine AgreeOff.look rfl ?_ | refine AgreeOff.mixs rfl ?_)) ⟨slE (by rw [hcs]), rfl, trivial⟩, H, hb2, HD, hcs ▸ hb163, hX, hap2⟩
            · refine WP.skip ?_
              refine WP.region ?_
              refine RL.r (mvI rfl) rfl ?_
              refine RL.r (add rfl rfl (by omega)) rfl ?_
              refine RL.r (asgI rfl) rfl ?_
              refine RL.nil ?_
              have hcs := fil_no hj2 hc
              refine ⟨k2 - 1, by omega, j2 + 1, _, _, by omega, Head.intro (by repeat (first | with_reducible exact AgreeOff.mix _ _ _ | refine AgreeOff.look rfl ?_ | refine AgreeOff.mixs rfl ?_)) ⟨slE (by rw [hcs]), rfl, trivial⟩, H, hb2, HD, hcs ▸ hY, hX, hap⟩
          · refine WP.exit ?_
            refine WP.regionS ?_
            refine RL.r (mvL rfl) rfl ?_
            refine RL.r (mvL rfl) rfl ?_
            -- call stagecoach/stagecoachref04.Parts (tmp 164) (tmp 165)
            have hfx := fil_len L1[n].name (ga[j].l.take j1); rw [List.length_take] at hfx
            refine RL.call (rParts _ _ _ c12 c13 (fil L1[n].name (ga[j].l.take j1)) (fil L1[n].name (gb[j].l.take j2)) hX.sl hY.sl (by omega)) rfl rfl ?_
            rintro _ w24 ⟨rfl, hx⟩
            replace H := H.ext hx; replace hb2 := hb2.ext hx; replace HD := HD.ext hx; replace hX := hX.ext hx; replace hY := hY.ext hx
            first | refine RL.r (notD rfl) rfl ?_ | refine RL.r (not_ rfl) rfl ?_
            refine RL.nil ?_
            refine WP.cond rfl (fun hc => ?_) (fun hc => ?_)
            · refine WP.regionS ?_
              refine RL.r (asgB rfl) rfl ?_
              refine RL.nil ?_
              refine WP.ret ?_
              refine fin1_ret rfl ⟨absurd hc (Classical.not_not.2 (by rw [List.take_of_length_le (by omega), List.take_of_length_le (by omega), hea, heb]; exact grow_fil M1 j L1 n hn)), H⟩
            · refine WP.skip ?_
              refine WP.region ?_
              refine RL.r (mvI rfl) rfl ?_
              refine RL.r (add rfl rfl (by omega)) rfl ?_
              refine RL.r (asgI rfl) rfl ?_
              refine RL.nil ?_
              refine ⟨k - 1, by omega, j + 1, by omega, Head.intro (by repeat (first | with_reducible exact AgreeOff.mix _ _ _ | refine AgreeOff.look rfl ?_ | refine AgreeOff.mixs rfl ?_)) ⟨rfl, trivial⟩, H, hb2, HD, trivial⟩
      · refine WP.exit ?_
        refine WP.regionS ?_
        -- call stagecoach/stagecoachlaw10.fixed 
        refine RL.call (lFixed _) rfl rfl ?_
        rintro _ w25 ⟨rfl, hx⟩
        replace H := H.ext hx; replace hb2 := hb2.ext hx; replace HD := HD.ext hx
        refine RL.r (asgB rfl) rfl ?_
        refine RL.nil ?_
        refine WP.ret ?_
        refine fin1_ret rfl ⟨rfl, H⟩
end Go.Proofs.Ytoebejfffakjpaa
