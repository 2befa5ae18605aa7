/-
  The document's catalog: what it holds; the walks of place, N, Has, Grow, Drop.
-/
import Derived.Test.YtdcckaamepilcaaCat1
set_option linter.unusedVariables false
namespace Go.Proofs.Ytdcckaamepilcaa
open Go Go.Eng Go.RowKit
theorem own_le {α : Type} [Lies α] {B : Nat} {w : World} {T : TypeId} {a : Option Addr} {c : Nat} {l : List α} (h : Eng.Own B w T a c l) : l.length ≤ c := by
  rcases h.cases with ⟨_, rfl, rfl⟩ | ⟨g, cur, _, _, _, h, _⟩
  · simp
  · exact h
def delAll {V K : Type} [DecidableEq K] [Keyed V K] (H : List V) (ks : List K) : List V := H.filter fun x => decide (key x ∉ ks)
theorem own_box {α : Type} [Lies α] {B B' : Nat} {w w' : World} {T T' : TypeId} {a : Option Addr} {c b : Nat} {l : List α} {cs : List Value} (h : Eng.Own B w T a c l) (ho : Box B' w b T' cs) (hT : T ≠ T') (k : Upd (· = b) w w') : Eng.Own B w' T a c l := h.upd k (fun y hy e => by subst e; exact h.box_apart ho hT hy)
def XR (i : Nat) (a : Option Addr) (k : Nat) : Prop := k = i ∨ inBlock a k
structure Tr (B : Nat) (w : World) (i : Nat) (a : Option Addr) (S : List Topic) : Prop where
  at_ : ∃ c, Box B w i 54 [.slice a S.length c] ∧ Eng.Own B w 25 a c S
  ok : okC S
theorem Tr.ext {B i : Nat} {a : Option Addr} {w w' : World} {S : List Topic} (h : Tr B w i a S) (k : Ext w w') : Tr B w' i a S :=
  let ⟨c, h1, h2⟩ := h.at_
  ⟨⟨c, h1.ext k, h2.ext k⟩, h.ok⟩
theorem Tr.upd {X : Nat → Prop} {B i : Nat} {a : Option Addr} {w w' : World} {S : List Topic} (h : Tr B w i a S) (k : Upd X w w') (h1 : ¬ X i) (h2 : ∀ j, inBlock a j → ¬ X j) : Tr B w' i a S :=
  let ⟨c, h3, h4⟩ := h.at_
  ⟨⟨c, h3.upd k h1, h4.upd k h2⟩, h.ok⟩
theorem Tr.mono {B B' i : Nat} {a : Option Addr} {w : World} {S : List Topic} (h : Tr B w i a S) (k : B' ≤ B) : Tr B' w i a S :=
  let ⟨c, h1, h2⟩ := h.at_
  ⟨⟨c, ⟨Nat.le_trans k h1.old, h1.at_⟩, h2.mono k⟩, h.ok⟩
theorem Tr.lt {B i : Nat} {a : Option Addr} {w : World} {S : List Topic} (h : Tr B w i a S) : i < w.heap.size ∧ B ≤ i := let ⟨_, h1, _⟩ := h.at_; ⟨h1.lt, h1.old⟩
theorem xr_old {B i n : Nat} {a : Option Addr} {w : World} {S : List Topic} (h : Tr B w i a S) (hn : n ≤ B) : ∀ k, XR i a k → n ≤ k := by
  obtain ⟨c, h1, h2⟩ := h.at_
  rintro k (rfl | hk)
  · exact Nat.le_trans hn h1.old
  · exact Nat.le_trans hn (h2.blk hk).1
/-- the one's turn leaves the other as it is -/
theorem Tc.xr {B B' i m i' : Nat} {a : Option Addr} {w w' : World} {S S' : List Topic} (h : Tc B w i m S) (hT : Tr B' w i' a S') (k : Upd (XR i' a) w w') : Tc B w' i m S := by
  obtain ⟨c', hb, ho⟩ := hT.at_
  refine h.upd k ?_ ?_
  · rintro (e | e)
    · exact box_nt h.box hb (by decide) e
    · exact ho.box_apart h.box (by decide) e
  · rintro (e | e)
    · exact h.neb hb e.symm
    · exact h.nea ho e
theorem Tr.xm {B B' i m i' : Nat} {a : Option Addr} {w w' : World} {S S' : List Topic} (h : Tr B' w i' a S') (hT : Tc B w i m S) (k : Upd (· = m) w w') : Tr B' w' i' a S' := by
  obtain ⟨c', hb, ho⟩ := h.at_
  exact h.upd k (fun e => hT.neb hb e) (fun j hj e => hT.nea ho (e ▸ hj))
theorem Sl.take0 {α : Type} [Lies α] {w : World} {a : Option Addr} {l : List α} (h : Sl w a l) {j : Nat} (hj : j ≤ l.length) (hs : 0 < Lies.sz α) : Sl w a (l.take j) := by
  cases a with
  | none =>
    have := sl_none h hs
    subst this
    simpa using h
  | some p =>
    have h1 := h.take 0 j (by omega)
    rw [List.drop_zero, Nat.zero_mul] at h1
    rwa [show p.add 0 = p from rfl] at h1
def placeI (S : List Topic) (name : ByteArray) : Int := match S.findIdx? (fun x => decide (x.name = name)) with
  | some j => (j : Int)
  | none => -1
theorem placeI_some {S : List Topic} {name : ByteArray} {j : Nat} (hj : j < S.length) (h : S[j].name = name) (hb : ∀ (i : Nat) (hi : i < S.length), i < j → S[i].name ≠ name) : placeI S name = (j : Int) := by
  unfold placeI
  have : S.findIdx? (fun x => decide (x.name = name)) = some j := by
    rw [List.findIdx?_eq_some_iff_getElem]
    exact ⟨hj, by simpa using h, fun i hi => by simpa using hb i (by omega) hi⟩
  rw [this]
theorem placeI_none {S : List Topic} {name : ByteArray} (hb : ∀ (i : Nat) (hi : i < S.length), S[i].name ≠ name) : placeI S name = -1 := by
  unfold placeI
  have : S.findIdx? (fun x => decide (x.name = name)) = none := by
    rw [List.findIdx?_eq_none_iff]
    intro x hx
    obtain ⟨i, hi, rfl⟩ := List.getElem_of_mem hx
    simpa using hb i hi
  rw [this]
theorem placeI_neg {S : List Topic} {name : ByteArray} : placeI S name < 0 ↔ eGet S name = none := by
  unfold placeI
  cases h : S.findIdx? (fun x => decide (x.name = name)) with
  | none =>
    rw [List.findIdx?_eq_none_iff] at h
    simp only
    refine ⟨fun _ => ?_, fun _ => by decide⟩
    rw [eGet_none]
    intro x hx
    exact of_decide_eq_false (h x hx)
  | some j =>
    rw [List.findIdx?_eq_some_iff_getElem] at h
    obtain ⟨hj, hk, _⟩ := h
    simp only
    refine ⟨fun h => by omega, fun h => ?_⟩
    rw [eGet_none] at h
    exact absurd (of_decide_eq_true hk) (h _ (List.getElem_mem hj))
theorem placeI_of {S : List Topic} (hs : S.Pairwise bfr) {name : ByteArray} (h : eGet S name ≠ none) : ∃ (j : Nat) (hj : j < S.length), S[j].name = name ∧ placeI S name = (j : Int) ∧ nC S name = S[j].n := by
  obtain ⟨x, hx⟩ := Option.ne_none_iff_exists'.1 h
  obtain ⟨h1, h2⟩ := eGet_some hx
  obtain ⟨j, hj, e⟩ := List.getElem_of_mem h1
  refine ⟨j, hj, by rw [e]; exact h2, placeI_some hj (by rw [e]; exact h2) fun i hi hij => ?_, by rw [nC_some hx, e]⟩
  have h3 := bfr_key (List.pairwise_iff_getElem.1 hs i j hi hj hij)
  intro e2
  exact h3 (e2.trans (by rw [e]; exact h2.symm))
/-- putting at the place where the name stands -/
theorem put_here {S : List Topic} (hs : S.Pairwise bfr) {j : Nat} (hj : j < S.length) {t : Topic} (hn : S[j].name = t.name) : S.set j t = ePut S t := by
  have hne : eGet S (key t) ≠ none := eGet_ne.2 ⟨S[j], List.getElem_mem hj, hn⟩
  obtain ⟨h1, _⟩ := ePut_split hs t (j := j) (by omega) (fun n h hnj => (bfr_congr rfl hn).1 (List.pairwise_iff_getElem.1 hs n j h hj hnj)) (fun h hb => bfr_irr S[j] ((bfr_congr rfl hn).2 hb))
  rw [h1, if_pos hne, List.set_eq_take_append_cons_drop, if_pos hj]
  simp
theorem del_here {S : List Topic} (hs : S.Pairwise bfr) {j : Nat} (hj : j < S.length) {name : ByteArray} (hn : S[j].name = name) : [] ++ S.take j ++ S.drop (j + 1) = eDel S name := by
  unfold eDel
  conv => rhs; rw [← List.take_append_drop j S, List.drop_eq_getElem_cons hj, List.filter_append]
  rw [List.filter_cons_of_neg (by simpa using (show key S[j] = name from hn)), List.nil_append, List.filter_eq_self.2, List.filter_eq_self.2]
  · intro y hy
    obtain ⟨k, hk, rfl⟩ := List.getElem_of_mem hy
    rw [List.length_drop] at hk
    rw [List.getElem_drop]
    have h := bfr_key (List.pairwise_iff_getElem.1 hs j (j + 1 + k) hj (by omega) (by omega))
    have : key S[j + 1 + k] ≠ name := fun e => h (Eq.trans hn e.symm)
    simpa using this
  · intro y hy
    obtain ⟨k, hk, rfl⟩ := List.getElem_of_mem hy
    rw [List.length_take] at hk
    rw [List.getElem_take]
    have h := bfr_key (List.pairwise_iff_getElem.1 hs k j (by omega) hj (by omega))
    have : key S[k] ≠ name := fun e => h (e.trans hn.symm)
    simpa using this
theorem rPlace (w0 : World) (B i : Nat) (a : Option Addr) (S : List Topic) (hT : Tr B w0 i a S) (name : ByteArray) :
    Ct Try.prog 37 #[.pointer (some ⟨i, 0, none⟩), .string name] w0 fun v w' => v = .int .i64 (placeI S name) ∧ Ext w0 w' := by
  refine Ct.intro1 Try.func37 Try.ntmps37 rfl rfl (by decide) rfl ?_
  have H : Ext w0 w0 := Ext.refl w0
  obtain ⟨c, hbt, hO⟩ := hT.at_
  have hok := hT.ok
  have hle8 := hok.len
  have hSc := own_le hO
  have hBw : B ≤ w0.heap.size := Nat.le_of_lt (Nat.lt_of_le_of_lt hT.lt.2 hT.lt.1)
  refine WP.regionS ?_
  refine RL.r (asgI rfl) rfl ?_
  refine RL.nil ?_
  refine WP.seq ?_
  refine WP.regionS ?_
  refine RL.r (asgI rfl) rfl ?_
  refine RL.nil ?_
  refine WP.block ?_
  refine WP.loop (fun k e' w' => ∃ j : Nat,  j + k = S.length ∧ Head [4, 5, 6, 7, 8, 9, 10, 11, 12, 13, 14, 15, 16, 17, 18, 19, 20, 21, 22, 23, 24, 25] _ [(5, .int .i64 (j : Int))] e' ∧ Ext w0 w' ∧ Box B w' i 54 [.slice a S.length c] ∧ Eng.Own B w' 25 a c S ∧ ∀ (n : Nat) (h : n < S.length), n < j → S[n].name ≠ name) (S.length)
    ⟨0, by omega, Head.intro (AgreeOff.refl _ _) ⟨rfl, trivial⟩, H, hbt, hO, fun n h hn => by omega⟩ ?_
  clear H hbt hO
  rintro k e w1 ⟨j, hjk, ⟨jk, rfl⟩, H, hbt, hO, hok2⟩
  refine WP.seq ?_
  refine WP.regionS ?_
  refine RL.r (mvI rfl) rfl ?_
  refine RL.r (mvP rfl) rfl ?_
  refine RL.r (nilck rfl) rfl ?_
  refine RL.r (fa_box rfl) rfl ?_
  refine RL.m (ld_box rfl hbt rfl) rfl ?_
  refine RL.r (len_sl rfl) rfl ?_
  refine RL.r (lss rfl rfl) rfl ?_
  refine RL.nil ?_
  refine WP.cond rfl (fun hc => ?_) (fun hc => ?_)
  · refine WP.skip ?_
    refine WP.seq ?_
    refine WP.block ?_
    refine WP.regionS ?_
    refine RL.r (mvP rfl) rfl ?_
    refine RL.r (nilck rfl) rfl ?_
    refine RL.r (fa_box rfl) rfl ?_
    refine RL.m (ld_box rfl hbt rfl) rfl ?_
    refine RL.r (mvI rfl) rfl ?_
    have hj : j < S.length := by omega
    obtain ⟨q, hq⟩ := hO.sl.isAddr (by decide) hj
    subst hq
    refine RL.r (ix rfl rfl rfl hj) rfl ?_
    refine RL.r (fa_el hO.sl.1 rfl) rfl ?_
    refine RL.m (ld_el rfl hO.sl (Ext.refl _) rfl hj rfl) rfl ?_
    refine RL.r (mvS rfl) rfl ?_
    refine RL.r (seql rfl rfl) rfl ?_
    refine RL.nil ?_
    refine WP.cond rfl (fun hc => ?_) (fun hc => ?_)
    · refine WP.regionS ?_
      refine RL.r (mvI rfl) rfl ?_
      refine RL.r (asgI rfl) rfl ?_
      refine RL.nil ?_
      refine WP.ret ?_
      refine fin1_ret rfl ⟨intE (placeI_some (by omega) hc (fun n hn hnj => hok2 n hn hnj)).symm, H⟩
    · refine WP.skip ?_
      refine WP.region ?_
      refine RL.r (mvI rfl) rfl ?_
      refine RL.r (add rfl rfl (by omega)) rfl ?_
      refine RL.r (asgI rfl) rfl ?_
      refine RL.nil ?_
      refine ⟨k - 1, by omega, j + 1, by omega, Head.intro (by repeat (first | with_reducible exact AgreeOff.mix _ _ _ | refine AgreeOff.look rfl ?_ | refine AgreeOff.mixs rfl ?_)) ⟨rfl, trivial⟩, H, hbt, hO, fun n h hn => ?_⟩
      by_cases hij : n < j
      · exact hok2 n h hij
      · obtain rfl : n = j := by omega
        exact hc
  · refine WP.exit ?_
    refine WP.regionS ?_
    refine RL.r (asgI rfl) rfl ?_
    refine RL.nil ?_
    refine WP.ret ?_
    refine fin1_ret rfl ⟨intE (placeI_none (fun n hn => hok2 n hn (by omega))).symm, H⟩
theorem rN (w0 : World) (B i : Nat) (a : Option Addr) (S : List Topic) (hT : Tr B w0 i a S) (name : ByteArray) :
    Ct Try.prog 26 #[.pointer (some ⟨i, 0, none⟩), .string name] w0 fun v w' => v = .int .i64 (nC S name) ∧ Ext w0 w' := by
  refine Ct.intro1 Try.func26 Try.ntmps26 rfl rfl (by decide) rfl ?_
  have H : Ext w0 w0 := Ext.refl w0
  obtain ⟨c, hbt, hO⟩ := hT.at_
  have hok := hT.ok
  have hle8 := hok.len
  have hSc := own_le hO
  have hBw : B ≤ w0.heap.size := Nat.le_of_lt (Nat.lt_of_le_of_lt hT.lt.2 hT.lt.1)
  refine WP.regionS ?_
  refine RL.r (asgI rfl) rfl ?_
  refine RL.nil ?_
  refine WP.regionS ?_
  refine RL.r (mvP rfl) rfl ?_
  refine RL.r (mvS rfl) rfl ?_
  -- call (*stagecoach/stagecoachref09.Catalog).place (tmp 6) (tmp 7)
  refine RL.call (rPlace _ B i a S ⟨⟨c, hbt, hO⟩, hok⟩ name) rfl rfl ?_
  rintro _ w1 ⟨rfl, hx⟩
  replace H := H.ext hx; replace hbt := hbt.ext hx; replace hO := hO.ext hx
  refine RL.r (asgI rfl) rfl ?_
  refine RL.nil ?_
  refine WP.seq ?_
  refine WP.regionS ?_
  refine RL.r (mvI rfl) rfl ?_
  refine RL.r (lss rfl rfl) rfl ?_
  refine RL.nil ?_
  refine WP.cond rfl (fun hc => ?_) (fun hc => ?_)
  · refine WP.regionS ?_
    refine RL.r (asgI rfl) rfl ?_
    refine RL.nil ?_
    refine WP.ret ?_
    refine fin1_ret rfl ⟨intE (by unfold nC; rw [placeI_neg.1 hc]; rfl), H⟩
  · refine WP.skip ?_
    refine WP.regionS ?_
    refine RL.r (mvP rfl) rfl ?_
    refine RL.r (nilck rfl) rfl ?_
    refine RL.r (fa_box rfl) rfl ?_
    refine RL.m (ld_box rfl hbt rfl) rfl ?_
    refine RL.r (mvI rfl) rfl ?_
    obtain ⟨j, hj, hnj, hpj, hnc⟩ := placeI_of hok.srt (fun h => hc (placeI_neg.2 h))
    obtain ⟨q, hq⟩ := hO.sl.isAddr (by decide) hj
    subst hq
    refine RL.r (ix rfl rfl hpj hj) rfl ?_
    refine RL.r (fa_el hO.sl.1 rfl) rfl ?_
    refine RL.m (ld_el rfl hO.sl (Ext.refl _) rfl hj rfl) rfl ?_
    refine RL.r (asgI rfl) rfl ?_
    refine RL.nil ?_
    refine WP.ret ?_
    refine fin1_ret rfl ⟨intE hnc.symm, H⟩
theorem rHas (w0 : World) (B i : Nat) (a : Option Addr) (S : List Topic) (hT : Tr B w0 i a S) (p : Part) :
    Ct Try.prog 27 #[.pointer (some ⟨i, 0, none⟩), .agg (Lies.enc p).toArray] w0 fun v w' => v = .bool (decide (0 ≤ p.n ∧ p.n < nC S p.topic)) ∧ Ext w0 w' := by
  refine Ct.intro1 Try.func27 Try.ntmps27 rfl rfl (by decide) rfl ?_
  have H : Ext w0 w0 := Ext.refl w0
  obtain ⟨c, hbt, hO⟩ := hT.at_
  have hok := hT.ok
  have hle8 := hok.len
  have hSc := own_le hO
  have hBw : B ≤ w0.heap.size := Nat.le_of_lt (Nat.lt_of_le_of_lt hT.lt.2 hT.lt.1)
  refine WP.regionS ?_
  refine RL.boxS w0.heap.size H.size rfl rfl ?_
  intro w1 i3 hi3 hx hb3
  have net_3 := hbt.ne hi3
  replace H := H.ext hx; replace hbt := hbt.ext hx; replace hO := hO.ext hx; clear hx
  refine RL.r (asgB rfl) rfl ?_
  refine RL.nil ?_
  refine WP.seq ?_
  refine WP.draw (by kernel_rfl) ?_
  refine QL.r (fa_box rfl) rfl ?_
  refine QL.m (ld_box rfl hb3 rfl) rfl ?_
  refine QL.r (geq rfl rfl) rfl ?_
  refine QL.r (mvB rfl) rfl ?_
  refine QL.gg (gwT rfl rfl) (fun hg => (fa_box rfl).does _) rfl ?_
  refine QL.gg (gwT rfl rfl) (fun hg => ld_box (gs hg rfl) hb3 rfl) rfl ?_
  refine QL.gg (gwT rfl rfl) (fun hg => (mvP rfl).does _) rfl ?_
  refine QL.gg (gwT rfl rfl) (fun hg => (fa_box rfl).does _) rfl ?_
  refine QL.gg (gwT rfl rfl) (fun hg => ld_box (gs hg rfl) hb3 rfl) rfl ?_
  -- call (*stagecoach/stagecoachref09.Catalog).N (tmp 11) (tmp 13)
  refine QL.gcall (gwT rfl rfl) (fun hg w' hw' => rN w' B i a S ((show Tr B _ i a S from ⟨⟨c, hbt, hO⟩, hok⟩).ext hw') p.topic) (fun hg => EvL.cons (gs hg rfl) (EvL.cons (gs hg rfl) (EvL.nil))) rfl ?_
  refine QL.gg (gwT rfl rfl) (fun hg => (lss (gs hg rfl) (gs hg rfl)).does _) rfl ?_
  refine QL.r (pickAnd rfl (fun hn => gs hn rfl)) rfl ?_
  refine QL.r (asgB rfl) rfl ?_
  refine QL.nil ?_; intro w3 hx; replace H := H.ext hx; replace hbt := hbt.ext hx; replace hb3 := hb3.ext hx; replace hO := hO.ext hx
  refine WP.ret ?_
  refine fin1_ret rfl ⟨rfl, H⟩
theorem rGrow (w0 : World) (B i : Nat) (a : Option Addr) (S : List Topic) (hT : Tr B w0 i a S) (t : Topic) :
    Ct Try.prog 23 #[.pointer (some ⟨i, 0, none⟩), .string t.name, .int .i64 t.n] w0 fun v w' => (v = .int .i64 (growE S t) ∧ Tr B w' i a (growC S t)) ∧ Upd (XR i a) w0 w' := by
  refine Ct.intro1 Try.func23 Try.ntmps23 rfl rfl (by decide) rfl ?_
  have H : Upd (XR i a) w0 w0 := Upd.refl _ w0
  obtain ⟨c, hbt, hO⟩ := hT.at_
  have hok := hT.ok
  have hle8 := hok.len
  have hSc := own_le hO
  have hBw : B ≤ w0.heap.size := Nat.le_of_lt (Nat.lt_of_le_of_lt hT.lt.2 hT.lt.1)
  refine WP.regionS ?_
  refine RL.r (asgI rfl) rfl ?_
  refine RL.nil ?_
  refine WP.regionS ?_
  refine RL.r (mvP rfl) rfl ?_
  refine RL.r (mvS rfl) rfl ?_
  -- call (*stagecoach/stagecoachref09.Catalog).place (tmp 8) (tmp 9)
  refine RL.call (rPlace _ B i a S ⟨⟨c, hbt, hO⟩, hok⟩ t.name) rfl rfl ?_
  rintro _ w1 ⟨rfl, hx⟩
  replace H := H.ext hx; replace hbt := hbt.ext hx; replace hO := hO.ext hx
  refine RL.r (asgI rfl) rfl ?_
  refine RL.nil ?_
  refine WP.seq ?_
  refine WP.regionS ?_
  refine RL.r (mvI rfl) rfl ?_
  refine RL.r (lss rfl rfl) rfl ?_
  refine RL.nil ?_
  refine WP.cond rfl (fun hc => ?_) (fun hc => ?_)
  · refine WP.regionS ?_
    refine RL.r (asgI rfl) rfl ?_
    refine RL.nil ?_
    refine WP.ret ?_
    have hE : growE S t = 91 := by unfold growE; rw [if_pos (placeI_neg.1 hc)]
    refine fin1_ret rfl ⟨⟨intE hE.symm, by unfold growC; rw [if_neg (by omega)]; exact ⟨⟨c, hbt, hO⟩, hok⟩⟩, H⟩
  · refine WP.skip ?_
    refine WP.seq ?_
    refine WP.seq (WP.quiet ?_)
    refine QL.r (mvI rfl) rfl ?_
    refine QL.r (gtr rfl rfl) rfl ?_
    refine QL.r (mvB rfl) rfl ?_
    refine QL.gg (gwF rfl rfl) (fun hg => (mvI rfl).does _) rfl ?_
    refine QL.gg (gwF rfl rfl) (fun hg => (mvP rfl).does _) rfl ?_
    refine QL.gg (gwF rfl rfl) (fun hg => (nilck (gs hg rfl)).does _) rfl ?_
    refine QL.gg (gwF rfl rfl) (fun hg => (fa_box (gs hg rfl)).does _) rfl ?_
    refine QL.gg (gwF rfl rfl) (fun hg => ld_box (gs hg rfl) hbt rfl) rfl ?_
    refine QL.gg (gwF rfl rfl) (fun hg => (mvI rfl).does _) rfl ?_
    have hne : ¬ eGet S t.name = none := fun h => (by assumption : ¬ placeI S t.name < 0) (placeI_neg.2 h)
    obtain ⟨j, hj, hnj, hpj, hnc⟩ := placeI_of hok.srt hne
    obtain ⟨q, hq⟩ := hO.sl.isAddr (by decide) hj
    subst hq
    refine QL.gg (gwF rfl rfl) (fun hg => (ix (gs hg rfl) (gs hg rfl) hpj hj).does _) rfl ?_
    refine QL.gg (gwF rfl rfl) (fun hg => (fa_el hO.sl.1 (gs hg rfl)).does _) rfl ?_
    refine QL.gg (gwF rfl rfl) (fun hg => ld_el (gs hg rfl) hO.sl (Ext.refl _) rfl hj rfl) rfl ?_
    refine QL.gg (gwF rfl rfl) (fun hg => (lss (gs hg rfl) (gs hg rfl)).does _) rfl ?_
    refine QL.r (pickOr rfl (fun hn => gs hn rfl)) rfl ?_
    refine QL.nil ?_; intro w2 hx; replace H := H.ext hx; replace hbt := hbt.ext hx; replace hO := hO.ext hx
    refine WP.cond rfl (fun hc => ?_) (fun hc => ?_)
    · refine WP.regionS ?_
      refine RL.r (asgI rfl) rfl ?_
      refine RL.nil ?_
      refine WP.ret ?_
      have hE : growE S t = 1 := by
        unfold growE
        rw [if_neg hne, if_pos]
        rcases hc with h | h
        · exact .inr h
        · exact .inl (by rw [hnc]; exact h)
      refine fin1_ret rfl ⟨⟨intE hE.symm, by unfold growC; rw [if_neg (by omega)]; exact ⟨⟨c, hbt, hO⟩, hok⟩⟩, H⟩
    · refine WP.skip ?_
      refine WP.regionS ?_
      refine RL.r (mvP rfl) rfl ?_
      refine RL.r (nilck rfl) rfl ?_
      refine RL.r (fa_box rfl) rfl ?_
      refine RL.m (ld_box rfl hbt rfl) rfl ?_
      refine RL.r (mvI rfl) rfl ?_
      refine RL.r (mvI rfl) rfl ?_
      refine RL.r (ix rfl rfl hpj hj) rfl ?_
      refine RL.r (fa_el hO.sl.1 rfl) rfl ?_
      refine RL.setOwn (u := (⟨S[j].name, t.n⟩ : Topic)) (i := j) (off := 1) (v := .int .i64 t.n) (vs := [.int .i64 t.n]) rfl hO hj rfl rfl rfl (Nat.le_of_ble_eq_true rfl) rfl (fun v hv => by obtain rfl := List.mem_singleton.1 hv; rfl) ?_
      intro w99 hu hO2
      replace hbt := hbt.upd hu (hO.box_apart hbt (by decide))
      replace H := Upd.upd H hu (fun k hk he => Or.inr he)
      refine RL.nil ?_
      refine WP.regionS ?_
      refine RL.r (asgI rfl) rfl ?_
      refine RL.nil ?_
      refine WP.ret ?_
      have hE : growE S t = 0 := by
        unfold growE
        rw [if_neg hne, if_neg]
        rintro (h | h)
        · exact hc (.inr (by rw [← hnc]; exact h))
        · exact hc (.inl h)
      have hokl := okC_grow hok t
      have hg : growC S t = S.set j ⟨S[j].name, t.n⟩ := by
        unfold growC
        rw [if_pos hE, hnj]
        exact (put_here hok.srt hj hnj).symm
      rw [hg] at hokl ⊢
      refine fin1_ret rfl ⟨⟨intE hE.symm, ⟨⟨c, by rw [List.length_set]; exact hbt, hO2⟩, hokl⟩⟩, H⟩
theorem rDrop (w0 : World) (B i : Nat) (a : Option Addr) (S : List Topic) (hT : Tr B w0 i a S) (name : ByteArray) :
    Ct Try.prog 24 #[.pointer (some ⟨i, 0, none⟩), .string name] w0 fun v w' => (v = .int .i64 (dropE S name) ∧ ∃ a2, Tr B w' i a2 (dropC S name)) ∧ Upd (· = i) w0 w' := by
  refine Ct.intro1 Try.func24 Try.ntmps24 rfl rfl (by decide) rfl ?_
  have H : Upd (· = i) w0 w0 := Upd.refl _ w0
  obtain ⟨c, hbt, hO⟩ := hT.at_
  have hok := hT.ok
  have hle8 := hok.len
  have hSc := own_le hO
  have hBw : B ≤ w0.heap.size := Nat.le_of_lt (Nat.lt_of_le_of_lt hT.lt.2 hT.lt.1)
  refine WP.regionS ?_
  refine RL.r (asgI rfl) rfl ?_
  refine RL.nil ?_
  refine WP.regionS ?_
  refine RL.r (mvP rfl) rfl ?_
  refine RL.r (mvS rfl) rfl ?_
  -- call (*stagecoach/stagecoachref09.Catalog).place (tmp 7) (tmp 8)
  refine RL.call (rPlace _ B i a S ⟨⟨c, hbt, hO⟩, hok⟩ name) rfl rfl ?_
  rintro _ w1 ⟨rfl, hx⟩
  replace H := H.ext hx; replace hbt := hbt.ext hx; replace hO := hO.ext hx
  refine RL.r (asgI rfl) rfl ?_
  refine RL.nil ?_
  refine WP.seq ?_
  refine WP.regionS ?_
  refine RL.r (mvI rfl) rfl ?_
  refine RL.r (lss rfl rfl) rfl ?_
  refine RL.nil ?_
  refine WP.cond rfl (fun hc => ?_) (fun hc => ?_)
  · refine WP.regionS ?_
    refine RL.r (asgI rfl) rfl ?_
    refine RL.nil ?_
    refine WP.ret ?_
    have hE : dropE S name = 91 := by unfold dropE; rw [if_pos (placeI_neg.1 hc)]
    have hg : dropC S name = S := by
      unfold dropC eDel
      rw [List.filter_eq_self]
      intro x hx
      simpa using eGet_none.1 (placeI_neg.1 hc) x hx
    refine fin1_ret rfl ⟨⟨intE hE.symm, a, by rw [hg]; exact ⟨⟨c, hbt, hO⟩, hok⟩⟩, H⟩
  · refine WP.skip ?_
    refine WP.regionS ?_
    have hne : ¬ eGet S name = none := fun h => hc (placeI_neg.2 h)
    obtain ⟨j, hj, hnj, hpj, hnc⟩ := placeI_of hok.srt hne
    have hOlt9 : ∀ k, inBlock a k → k < w1.heap.size := fun k hk => (hO.blk hk).2
    have hilt9 : i < w1.heap.size := hbt.lt
    have hs09 := H.size
    refine RL.build0 (α := Topic) w1.heap.size (Nat.le_refl _) rfl ?_
    intro w2 i12 hi12 hx hb12
    replace H := H.ext hx; replace hbt := hbt.ext hx; replace hO := hO.ext hx; clear hx
    have hlt12 : i12 < w2.heap.size := (hb12.blk ⟨_, rfl, rfl⟩).2
    have hbtA := hbt
    have hOA := hO
    have HA := H
    have H9 : Upd (fun k => w1.heap.size ≤ k) w2 w2 := Upd.refl _ _
    refine RL.r (mvP rfl) rfl ?_
    refine RL.r (nilck rfl) rfl ?_
    refine RL.r (fa_box rfl) rfl ?_
    refine RL.m (ld_box rfl hbt rfl) rfl ?_
    refine RL.r (mvI rfl) rfl ?_
    refine RL.r (slcT (n := j) rfl rfl hpj (by omega)) rfl ?_
    refine RL.appendS rfl hb12 (by omega) rfl (Sl.take0 (j := j) hO.sl (by omega) (by decide)) (by rw [List.length_take]; omega) rfl (by decide) rfl cell1 (by simp only [List.length_nil]; omega) (by simp only [maxLen, List.length_nil]; omega) rfl ?_
    intro w3 a19 c19 hu hb19 hfr19
    replace H9 := Upd.upd H9 hu (fun k hk he => (hb12.blk he).1)
    replace hbt := hbtA.upd H9 (fun h => Nat.lt_irrefl _ (Nat.lt_of_lt_of_le hilt9 h))
    replace hO := hOA.upd H9 (fun k hk h => Nat.lt_irrefl _ (Nat.lt_of_lt_of_le (hOlt9 k hk) h))
    replace H := Upd.upd HA H9 (fun k hk he => absurd (Nat.lt_of_lt_of_le hk hs09) (Nat.not_lt.2 he))
    have hn19 : (([] : List Topic) ++ S.take j).length ≤ 8 := by rw [List.nil_append, List.length_take]; omega
    refine RL.r (asgL rfl) rfl ?_
    refine RL.nil ?_
    refine WP.regionS ?_
    refine RL.r (mvL rfl) rfl ?_
    refine RL.r (mvP rfl) rfl ?_
    refine RL.r (nilck rfl) rfl ?_
    refine RL.r (fa_box rfl) rfl ?_
    refine RL.m (ld_box rfl hbt rfl) rfl ?_
    refine RL.r (mvI rfl) rfl ?_
    refine RL.r (add rfl rfl (by omega)) rfl ?_
    refine RL.r (slcD (n := j + 1) rfl rfl (by rw [hpj]; rfl) (by omega)) rfl ?_
    refine RL.appendS rfl hb19 (by have := H9.size; omega) rfl (Sl.suf hO.sl rfl (by omega) (by omega) (by decide)) (List.length_drop ..) rfl (by decide) rfl cell1 (by omega) (by simp only [maxLen]; omega) rfl ?_
    intro w4 a28 c28 hu hb28 hfr28
    replace H9 := Upd.upd H9 hu (fun k hk he => (hb19.blk he).1)
    replace hbt := hbtA.upd H9 (fun h => Nat.lt_irrefl _ (Nat.lt_of_lt_of_le hilt9 h))
    replace hO := hOA.upd H9 (fun k hk h => Nat.lt_irrefl _ (Nat.lt_of_lt_of_le (hOlt9 k hk) h))
    replace H := Upd.upd HA H9 (fun k hk he => absurd (Nat.lt_of_lt_of_le hk hs09) (Nat.not_lt.2 he))
    refine RL.r (asgL rfl) rfl ?_
    refine RL.nil ?_
    refine WP.regionS ?_
    refine RL.r (mvP rfl) rfl ?_
    refine RL.r (mvL rfl) rfl ?_
    refine RL.r (nilck rfl) rfl ?_
    refine RL.r (fa_box rfl) rfl ?_
    have hbt_0 := hbt
    refine RL.store1 rfl hbt rfl rfl rfl rfl ?_
    intro w5 hu hbt
    replace hb28 := own_box hb28 hbt_0 (by decide) hu
    replace H := Upd.same H hu
    refine RL.nil ?_
    refine WP.regionS ?_
    refine RL.r (asgI rfl) rfl ?_
    refine RL.nil ?_
    refine WP.ret ?_
    have hE : dropE S name = 0 := by unfold dropE; rw [if_neg hne]
    have hokl := okC_drop hok name
    have hg : dropC S name = [] ++ S.take j ++ S.drop (j + 1) := (del_here hok.srt hj hnj).symm
    rw [hg] at hokl ⊢
    refine fin1_ret rfl ⟨⟨intE hE.symm, _, ⟨⟨_, hbt, hb28.mono (Nat.le_trans hBw hs09)⟩, hokl⟩⟩, H⟩
end Go.Proofs.Ytdcckaamepilcaa
