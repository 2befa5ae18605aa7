/-
  The document's group: what it holds; the walks of place, Fence, May, Seat.
-/
import Derived.Test.YtlkpgeopcdhgjaaFix11b
set_option linter.unusedVariables false
namespace Go.Proofs.Ytlkpgeopcdhgjaa
open Go Go.Eng Go.RowKit
def XR (i : Nat) (a : Option Addr) (k : Nat) : Prop := k = i ∨ inBlock a k
structure Tr (B : Nat) (w : World) (i : Nat) (a : Option Addr) (G : Gs) : Prop where
  at_ : ∃ (c : Nat) (H : List Seat), Box B w i 42 [.int .i64 G.gen, .bool G.rb, .slice a H.length c] ∧ Own B w 31 a c H ∧ H.map Seat.st = G.S ∧ Owns B w H
  ok : okG G
theorem Tr.ext {B i : Nat} {a : Option Addr} {w w' : World} {G : Gs} (h : Tr B w i a G) (k : Ext w w') : Tr B w' i a G :=
  let ⟨c, H, h1, h2, h3, h4⟩ := h.at_
  ⟨⟨c, H, h1.ext k, h2.ext k, h3, h4.ext k⟩, h.ok⟩
theorem Tr.mono {B B' i : Nat} {a : Option Addr} {w : World} {G : Gs} (h : Tr B w i a G) (k : B' ≤ B) : Tr B' w i a G :=
  let ⟨c, H, h1, h2, h3, h4⟩ := h.at_
  ⟨⟨c, H, ⟨Nat.le_trans k h1.old, h1.at_⟩, h2.mono k, h3, h4.mono k⟩, h.ok⟩
theorem Tr.lt {B i : Nat} {a : Option Addr} {w : World} {G : Gs} (h : Tr B w i a G) : i < w.heap.size ∧ B ≤ i := let ⟨_, _, h1, _⟩ := h.at_; ⟨h1.lt, h1.old⟩
theorem xr_old {B i n : Nat} {a : Option Addr} {w : World} {G : Gs} (h : Tr B w i a G) (hn : n ≤ B) : ∀ k, XR i a k → n ≤ k := by
  obtain ⟨c, H, h1, h2, _⟩ := h.at_
  rintro k (rfl | hk)
  · exact Nat.le_trans hn h1.old
  · exact Nat.le_trans hn (h2.blk hk).1
theorem own_xr {α : Type} [Lies α] {B B' i c : Nat} {a a' : Option Addr} {w w' : World} {G : Gs} {T : TypeId} {l : List α} (h : Own B' w T a' c l) (hT : Tr B w i a G) (h1 : T ≠ 42) (h2 : T ≠ 31) (k : Upd (XR i a) w w') : Own B' w' T a' c l := by
  obtain ⟨c', H, hb, ho, _⟩ := hT.at_
  refine h.upd k ?_
  rintro j hj (e | e)
  · exact h.box_apart hb h1 (e ▸ hj)
  · exact h.apart ho h2 hj e
theorem owns_xr {B B' i : Nat} {a : Option Addr} {w w' : World} {G : Gs} {H : List Seat} (h : Owns B' w H) (hT : Tr B w i a G) (k : Upd (XR i a) w w') : Owns B' w' H := fun x hx => own_xr (h x hx) hT (by decide) (by decide) k
theorem box_xr {B B' i b : Nat} {a : Option Addr} {w w' : World} {G : Gs} {T : TypeId} {cs : List Value} (h : Box B' w b T cs) (hT : Tr B w i a G) (h1 : T ≠ 42) (h2 : 31 ≠ T) (k : Upd (XR i a) w w') (h3 : ∀ j, inBlock a j → j ≠ b) : Box B' w' b T cs := by
  obtain ⟨c', H, hb, ho, _⟩ := hT.at_
  refine h.upd k ?_
  rintro (e | e)
  · exact box_nt h hb h1 e
  · exact h3 _ e rfl
/-- the one's turn leaves the other as it is -/
theorem Tg.xr {B B' i m i' : Nat} {a : Option Addr} {w w' : World} {G G' : Gs} (h : Tg B w i m G) (hT : Tr B' w i' a G') (k : Upd (XR i' a) w w') : Tg B w' i m G := by
  obtain ⟨H, lb, c, h1, h2, h3, h4⟩ := h.map
  obtain ⟨c', H', hb, ho, _⟩ := hT.at_
  refine ⟨h.box.upd k ?_, ⟨H, lb, c, h1.upd k ?_, h2, h3, owns_xr h4 hT k⟩, h.ok⟩
  · rintro (e | e)
    · exact box_nt h.box hb (by decide) e
    · exact ho.box_apart h.box (by decide) e
  · rintro (e | e)
    · exact h1.neb hb e
    · exact h1.nea ho e
theorem Tr.xg {B B' i m i' : Nat} {a : Option Addr} {w w' : World} {G G' : Gs} (h : Tr B' w i' a G') (hT : Tg B w i m G) (k : Upd (XG i m) w w') : Tr B' w' i' a G' := by
  obtain ⟨c', H', hb, ho, hst, how⟩ := h.at_
  exact ⟨⟨c', H', box_xg hb hT (by decide) k, own_xg ho hT (by decide) k, hst, owns_xg hT how k⟩, h.ok⟩
def placeI (S : List St) (name : ByteArray) : Int := match S.findIdx? (fun x => decide (x.name = name)) with
  | some j => (j : Int)
  | none => -1
theorem placeI_some {S : List St} {name : ByteArray} {j : Nat} (hj : j < S.length) (h : S[j].name = name) (hb : ∀ (i : Nat) (hi : i < S.length), i < j → S[i].name ≠ name) : placeI S name = (j : Int) := by
  unfold placeI
  have : S.findIdx? (fun x => decide (x.name = name)) = some j := by
    rw [List.findIdx?_eq_some_iff_getElem]
    exact ⟨hj, by simpa using h, fun i hi => by simpa using hb i (by omega) hi⟩
  rw [this]
theorem placeI_none {S : List St} {name : ByteArray} (hb : ∀ (i : Nat) (hi : i < S.length), S[i].name ≠ name) : placeI S name = -1 := by
  unfold placeI
  have : S.findIdx? (fun x => decide (x.name = name)) = none := by
    rw [List.findIdx?_eq_none_iff]
    intro x hx
    obtain ⟨i, hi, rfl⟩ := List.getElem_of_mem hx
    simpa using hb i hi
  rw [this]
theorem placeI_neg {S : List St} {name : ByteArray} : placeI S name < 0 ↔ eGet S name = none := by
  unfold placeI
  cases h : S.findIdx? (fun x => decide (x.name = name)) with
  | none =>
    rw [List.findIdx?_eq_none_iff] at h
    simp only
    refine ⟨fun _ => ?_, fun _ => by decide⟩
    rw [eGet_none]
    intro x hx
    exact of_decide_eq_false (h x hx)
  | some j =>
    rw [List.findIdx?_eq_some_iff_getElem] at h
    obtain ⟨hj, hk, _⟩ := h
    simp only
    refine ⟨fun h => by omega, fun h => ?_⟩
    rw [eGet_none] at h
    exact absurd (of_decide_eq_true hk) (h _ (List.getElem_mem hj))
theorem placeI_at {S : List St} (hs : S.Pairwise bfr) {j : Nat} (hj : j < S.length) : placeI S S[j].name = (j : Int) :=
  placeI_some hj rfl fun i hi hij => bfr_key (List.pairwise_iff_getElem.1 hs i j hi hj hij)
theorem st_nm {H : List Seat} {S : List St} (h : H.map Seat.st = S) {j : Nat} (hj : j < H.length) : (S[j]'(by rw [← h, List.length_map]; exact hj)).name = H[j].name := by
  subst h
  rw [List.getElem_map]
  rfl
theorem name_le {s : ByteArray} (h : nameB s) : s.size ≤ 40 := by have := h.2.1; omega
theorem rPlace (w0 : World) (B i : Nat) (a : Option Addr) (G : Gs) (hT : Tr B w0 i a G) (name : ByteArray) :
    Ct Try.prog 40 #[.pointer (some ⟨i, 0, none⟩), .string name] w0 fun v w' => v = .int .i64 (placeI G.S name) ∧ Ext w0 w' := by
  refine Ct.intro1 Try.func40 Try.ntmps40 rfl rfl (by decide) rfl ?_
  have H : Ext w0 w0 := Ext.refl w0
  obtain ⟨c, H0, hbt, hO, hst, how⟩ := hT.at_
  have hok := hT.ok
  have hlH := st_len hst
  have hle8 := hok.len
  have hSc := own_le hO
  have hnum1 := hok.num.1
  have hnum2 := hok.num.2
  refine WP.regionS ?_
  refine RL.r (asgI rfl) rfl ?_
  refine RL.nil ?_
  refine WP.seq ?_
  refine WP.regionS ?_
  refine RL.r (asgI rfl) rfl ?_
  refine RL.nil ?_
  refine WP.block ?_
  refine WP.loop (fun k e' w' => ∃ j : Nat,  j + k = H0.length ∧ Head [4, 5, 6, 7, 8, 9, 10, 11, 12, 13, 14, 15, 16, 17, 18, 19, 20, 21, 22, 23, 24, 25, 26] _ [(5, .int .i64 (j : Int))] e' ∧ Ext w0 w' ∧ Box B w' i 42 [.int .i64 G.gen, .bool G.rb, .slice a H0.length c] ∧ ∀ (n : Nat) (h : n < H0.length), n < j → H0[n].name ≠ name) (H0.length)
    ⟨0, by omega, Head.intro (AgreeOff.refl _ _) ⟨rfl, trivial⟩, H, hbt, fun n h hn => by omega⟩ ?_
  clear H hbt
  rintro k e w1 ⟨j, hjk, ⟨jk, rfl⟩, H, hbt, hok2⟩
  refine WP.seq ?_
  refine WP.regionS ?_
  refine RL.r (mvI rfl) rfl ?_
  refine RL.r (mvP rfl) rfl ?_
  refine RL.r (nilck rfl) rfl ?_
  refine RL.r (fa_box rfl) rfl ?_
  refine RL.m (ld_box rfl hbt rfl) rfl ?_
  refine RL.r (len_sl rfl) rfl ?_
  refine RL.r (lss rfl rfl) rfl ?_
  refine RL.nil ?_
  refine WP.cond rfl (fun hc => ?_) (fun hc => ?_)
  · refine WP.skip ?_
    refine WP.seq ?_
    refine WP.block ?_
    refine WP.regionS ?_
    refine RL.r (mvP rfl) rfl ?_
    refine RL.r (nilck rfl) rfl ?_
    refine RL.r (fa_box rfl) rfl ?_
    refine RL.m (ld_box rfl hbt rfl) rfl ?_
    refine RL.r (mvI rfl) rfl ?_
    have hj : j < H0.length := by omega
    obtain ⟨q, hq⟩ := hO.sl.isAddr (by decide) hj
    subst hq
    refine RL.r (ix rfl rfl rfl hj) rfl ?_
    refine RL.r (fa_el hO.sl.1 rfl) rfl ?_
    refine RL.r (fa_el hO.sl.1 rfl) rfl ?_
    refine RL.m (ld_el rfl hO.sl H rfl hj rfl) rfl ?_
    refine RL.r (mvS rfl) rfl ?_
    refine RL.r (seql rfl rfl) rfl ?_
    refine RL.nil ?_
    refine WP.cond rfl (fun hc => ?_) (fun hc => ?_)
    · refine WP.regionS ?_
      refine RL.r (mvI rfl) rfl ?_
      refine RL.r (asgI rfl) rfl ?_
      refine RL.nil ?_
      refine WP.ret ?_
      refine fin1_ret rfl ⟨intE (placeI_some (by omega) ?_ ?_).symm, H⟩
      · rw [st_nm hst (show j < H0.length by omega)]; exact hc
      · intro n hn hnj
        rw [st_nm hst (show n < H0.length by omega)]
        exact hok2 n (by omega) hnj
    · refine WP.skip ?_
      refine WP.region ?_
      refine RL.r (mvI rfl) rfl ?_
      refine RL.r (add rfl rfl (by omega)) rfl ?_
      refine RL.r (asgI rfl) rfl ?_
      refine RL.nil ?_
      refine ⟨k - 1, by omega, j + 1, by omega, Head.intro (by repeat (first | with_reducible exact AgreeOff.mix _ _ _ | refine AgreeOff.look rfl ?_ | refine AgreeOff.mixs rfl ?_)) ⟨rfl, trivial⟩, H, hbt, fun n h hn => ?_⟩
      by_cases hij : n < j
      · exact hok2 n h hij
      · obtain rfl : n = j := by omega
        exact hc
  · refine WP.exit ?_
    refine WP.regionS ?_
    refine RL.r (asgI rfl) rfl ?_
    refine RL.nil ?_
    refine WP.ret ?_
    refine fin1_ret rfl ⟨intE (placeI_none ?_).symm, H⟩
    intro n hn
    rw [st_nm hst (show n < H0.length by omega)]
    exact hok2 n (by omega) (by omega)
theorem rFence (w0 : World) (B i : Nat) (a : Option Addr) (G : Gs) (hT : Tr B w0 i a G) (name : ByteArray) (gen : Int) :
    Ct Try.prog 18 #[.pointer (some ⟨i, 0, none⟩), .string name, .int .i64 gen] w0 fun v w' => v = .int .i64 (fenceE G name gen) ∧ Ext w0 w' := by
  refine Ct.intro1 Try.func18 Try.ntmps18 rfl rfl (by decide) rfl ?_
  have H : Ext w0 w0 := Ext.refl w0
  obtain ⟨c, H0, hbt, hO, hst, how⟩ := hT.at_
  have hok := hT.ok
  have hlH := st_len hst
  have hle8 := hok.len
  have hSc := own_le hO
  have hnum1 := hok.num.1
  have hnum2 := hok.num.2
  refine WP.regionS ?_
  refine RL.r (asgI rfl) rfl ?_
  refine RL.nil ?_
  refine WP.seq ?_
  refine WP.regionS ?_
  refine RL.r (mvP rfl) rfl ?_
  refine RL.r (mvS rfl) rfl ?_
  -- call (*stagecoach/stagecoachref11.Group).place (tmp 7) (tmp 8)
  refine RL.call (rPlace _ B i a G hT name) rfl rfl ?_
  rintro _ w1 ⟨rfl, hx⟩
  replace H := H.ext hx; replace hbt := hbt.ext hx
  refine RL.r (lss rfl rfl) rfl ?_
  refine RL.nil ?_
  refine WP.cond rfl (fun hc => ?_) (fun hc => ?_)
  · refine WP.regionS ?_
    refine RL.r (asgI rfl) rfl ?_
    refine RL.nil ?_
    refine WP.ret ?_
    refine fin1_ret rfl ⟨intE (by unfold fenceE; rw [if_pos (placeI_neg.1 hc)]), H⟩
  · refine WP.skip ?_
    refine WP.seq ?_
    refine WP.regionS ?_
    refine RL.r (mvI rfl) rfl ?_
    refine RL.r (mvP rfl) rfl ?_
    refine RL.r (nilck rfl) rfl ?_
    refine RL.r (fa_box rfl) rfl ?_
    refine RL.m (ld_box rfl hbt rfl) rfl ?_
    refine RL.r (neq rfl rfl) rfl ?_
    refine RL.nil ?_
    refine WP.cond rfl (fun hc => ?_) (fun hc => ?_)
    · refine WP.regionS ?_
      refine RL.r (asgI rfl) rfl ?_
      refine RL.nil ?_
      refine WP.ret ?_
      refine fin1_ret rfl ⟨intE (by unfold fenceE; rw [if_neg (fun h => (by assumption : ¬ placeI G.S name < 0) (placeI_neg.2 h)), if_pos hc]), H⟩
    · refine WP.skip ?_
      refine WP.regionS ?_
      refine RL.r (asgI rfl) rfl ?_
      refine RL.nil ?_
      refine WP.ret ?_
      refine fin1_ret rfl ⟨intE (by unfold fenceE; rw [if_neg (fun h => (by assumption : ¬ placeI G.S name < 0) (placeI_neg.2 h)), if_neg hc]), H⟩
theorem rMayS' (w0 : World) (nm : ByteArray) (ta : Option Addr) (tc : Nat) (tp : List ByteArray) (tmo se : Int) (hl : Sl w0 ta tp) (hlen : tp.length ≤ 100000) (hsz : ∀ x ∈ tp, x.size ≤ 40) :
    Ct Try.prog 49 #[.agg [.string nm, .slice ta tp.length tc, .int .i64 tmo, .int .i64 se].toArray] w0 fun v w' => v = .bool (decide (mayS ⟨nm, tp, tmo, se⟩)) ∧ Ext w0 w' := by
  refine Ct.intro1 Try.func49 Try.ntmps49 rfl rfl (by decide) rfl ?_
  have H : Ext w0 w0 := Ext.refl w0
  refine WP.regionS ?_
  refine RL.boxS w0.heap.size H.size rfl rfl ?_
  intro w1 i1 hi1 hx hb1
  replace H := H.ext hx; clear hx
  refine RL.r (asgB rfl) rfl ?_
  refine RL.nil ?_
  refine WP.regionS ?_
  refine RL.r (fa_box rfl) rfl ?_
  refine RL.r (fa_box rfl) rfl ?_
  refine RL.m (ld_box rfl hb1 rfl) rfl ?_
  refine RL.r (asgL rfl) rfl ?_
  refine RL.nil ?_
  refine WP.seq ?_
  refine WP.seq (WP.quiet ?_)
  refine QL.r (fa_box rfl) rfl ?_
  refine QL.r (fa_box rfl) rfl ?_
  refine QL.m (ld_box rfl hb1 rfl) rfl ?_
  -- call stagecoach/stagecoachref04.Name (tmp 10)
  refine QL.call (fun w' hw' => rName w' _) rfl rfl ?_
  first | refine QL.r (notD rfl) rfl ?_ | refine QL.r (not_ rfl) rfl ?_
  refine QL.r (mvB rfl) rfl ?_
  refine QL.gg (gwF rfl rfl) (fun hg => (mvL rfl).does _) rfl ?_
  refine QL.gg (gwF rfl rfl) (fun hg => (len_sl (gs hg rfl)).does _) rfl ?_
  refine QL.gg (gwF rfl rfl) (fun hg => (lss (gs hg rfl) rfl).does _) rfl ?_
  refine QL.r (pickOr rfl (fun hn => gs hn rfl)) rfl ?_
  refine QL.r (mvB rfl) rfl ?_
  refine QL.gg (gwF rfl rfl) (fun hg => (mvL rfl).does _) rfl ?_
  refine QL.gg (gwF rfl rfl) (fun hg => (len_sl (gs hg rfl)).does _) rfl ?_
  refine QL.gg (gwF rfl rfl) (fun hg => (gtr (gs hg rfl) rfl).does _) rfl ?_
  refine QL.r (pickOr rfl (fun hn => gs hn rfl)) rfl ?_
  refine QL.r (mvB rfl) rfl ?_
  refine QL.gg (gwF rfl rfl) (fun hg => (fa_box rfl).does _) rfl ?_
  refine QL.gg (gwF rfl rfl) (fun hg => ld_box (gs hg rfl) hb1 rfl) rfl ?_
  refine QL.gg (gwF rfl rfl) (fun hg => (lss (gs hg rfl) rfl).does _) rfl ?_
  refine QL.r (pickOr rfl (fun hn => gs hn rfl)) rfl ?_
  refine QL.r (mvB rfl) rfl ?_
  refine QL.gg (gwF rfl rfl) (fun hg => (fa_box rfl).does _) rfl ?_
  refine QL.gg (gwF rfl rfl) (fun hg => ld_box (gs hg rfl) hb1 rfl) rfl ?_
  -- call stagecoach/stagecoachref03.Num (tmp 30)
  refine QL.gcall (gwF rfl rfl) (fun hg w' hw' => rNum w' _) (fun hg => EvL.cons (gs hg rfl) (EvL.nil)) rfl ?_
  first | refine QL.gg (gwF rfl rfl) (fun hg => (notD (gs hg rfl)).does _) rfl ?_ | refine QL.gg (gwF rfl rfl) (fun hg => (not_ (gs hg rfl)).does _) rfl ?_
  refine QL.r (pickOr rfl (fun hn => gs hn rfl)) rfl ?_
  refine QL.r (mvB rfl) rfl ?_
  refine QL.gg (gwF rfl rfl) (fun hg => (fa_box rfl).does _) rfl ?_
  refine QL.gg (gwF rfl rfl) (fun hg => ld_box (gs hg rfl) hb1 rfl) rfl ?_
  -- call stagecoach/stagecoachref03.Num (tmp 36)
  refine QL.gcall (gwF rfl rfl) (fun hg w' hw' => rNum w' _) (fun hg => EvL.cons (gs hg rfl) (EvL.nil)) rfl ?_
  first | refine QL.gg (gwF rfl rfl) (fun hg => (notD (gs hg rfl)).does _) rfl ?_ | refine QL.gg (gwF rfl rfl) (fun hg => (not_ (gs hg rfl)).does _) rfl ?_
  refine QL.r (pickOr rfl (fun hn => gs hn rfl)) rfl ?_
  refine QL.nil ?_; intro w5 hx; replace H := H.ext hx; replace hb1 := hb1.ext hx
  refine WP.cond rfl (fun hc => ?_) (fun hc => ?_)
  · refine WP.regionS ?_
    refine RL.r (asgB rfl) rfl ?_
    refine RL.nil ?_
    refine WP.ret ?_
    refine fin1_ret rfl ⟨boolE (Eq.symm (decide_eq_false fun h => ?_)), H⟩
    obtain ⟨h1, h2, h3, h4, h5, h6, h7⟩ := h
    simp only at h2 h3 h5 h6 h7
    rcases hc with ((((hc | hc) | hc) | hc) | hc) | hc
    · exact hc h1
    · omega
    · omega
    · omega
    · exact hc h6
    · exact hc h7
  · refine WP.skip ?_
    refine WP.seq ?_
    refine WP.regionS ?_
    refine RL.r (asgI rfl) rfl ?_
    refine RL.nil ?_
    refine WP.block ?_
    refine WP.loop (fun k e' w' => ∃ j : Nat,  j + k = tp.length ∧ Head [2, 4, 40, 41, 42, 43, 44, 45, 46, 47, 48, 49, 50, 51, 52, 53, 54, 55, 56, 57, 58, 59, 60, 61, 62, 63, 64, 65, 66, 67, 68] _ [(4, .int .i64 (j : Int))] e' ∧ Ext w0 w' ∧ Box w0.heap.size w' i1 31 [.string nm, .slice ta tp.length tc, .int .i64 tmo, .int .i64 se] ∧ ∀ (i : Nat) (h : i < tp.length), i < j → nameB tp[i] ∧ (0 < i → slt tp[i - 1] tp[i])) (tp.length)
      ⟨0, by omega, Head.intro (AgreeOff.refl _ _) ⟨rfl, trivial⟩, H, hb1, fun i h hi => by omega⟩ ?_
    clear H hb1
    rintro k e w6 ⟨j, hjk, ⟨jk, rfl⟩, H, hb1, hok⟩
    refine WP.seq ?_
    refine WP.regionS ?_
    refine RL.r (mvI rfl) rfl ?_
    refine RL.r (mvL rfl) rfl ?_
    refine RL.r (len_sl rfl) rfl ?_
    refine RL.r (lss rfl rfl) rfl ?_
    refine RL.nil ?_
    refine WP.cond rfl (fun hc => ?_) (fun hc => ?_)
    · refine WP.skip ?_
      refine WP.seq ?_
      refine WP.block ?_
      refine WP.seq ?_
      refine WP.draw (by kernel_rfl) ?_
      refine QL.r (mvL rfl) rfl ?_
      refine QL.r (mvI rfl) rfl ?_
      have hj : j < tp.length := by omega
      have hj1 : j - 1 < tp.length := by omega
      obtain ⟨p, rfl⟩ := hl.isAddr (by decide) hj
      refine QL.r (ix rfl rfl rfl hj) rfl ?_
      refine QL.m (ld_e0 rfl hl H rfl hj rfl) rfl ?_
      -- call stagecoach/stagecoachref04.Name (tmp 49)
      refine QL.call (fun w' hw' => rName w' _) rfl rfl ?_
      first | refine QL.r (notD rfl) rfl ?_ | refine QL.r (not_ rfl) rfl ?_
      refine QL.r (mvB rfl) rfl ?_
      refine QL.gg (gwF rfl rfl) (fun hg => (mvI rfl).does _) rfl ?_
      refine QL.gg (gwF rfl rfl) (fun hg => (gtr (gs hg rfl) rfl).does _) rfl ?_
      refine QL.gg (gwF rfl rfl) (fun hg => (mvv (gs hg rfl)).does _) rfl ?_
      refine QL.gg (gwTT rfl rfl) (fun hg => (mvL rfl).does _) rfl ?_
      refine QL.gg (gwTT rfl rfl) (fun hg => (mvI rfl).does _) rfl ?_
      refine QL.gg (gwTT rfl rfl) (fun hg => (sub (gs hg rfl) rfl (by omega)).does _) rfl ?_
      refine QL.gg (gwTT rfl rfl) (fun hg => (ix (gs hg rfl) (gs hg rfl) (show ((j : Int) - 1) = ((j - 1 : Nat) : Int) by have := hg.2; omega) hj1).does _) rfl ?_
      refine QL.gg (gwTT rfl rfl) (fun hg => ld_e0 (gs hg rfl) hl H rfl hj1 rfl) rfl ?_
      refine QL.gg (gwTT rfl rfl) (fun hg => (mvL rfl).does _) rfl ?_
      refine QL.gg (gwTT rfl rfl) (fun hg => (mvI rfl).does _) rfl ?_
      refine QL.gg (gwTT rfl rfl) (fun hg => (ix (gs hg rfl) (gs hg rfl) rfl hj).does _) rfl ?_
      refine QL.gg (gwTT rfl rfl) (fun hg => ld_e0 (gs hg rfl) hl H rfl hj rfl) rfl ?_
      -- call stagecoach/stagecoachref04.Less (tmp 60) (tmp 64)
      refine QL.gcall (gwTT rfl rfl) (fun hg w' hw' => rLess w' _ _ (by have := hsz tp[j - 1] (List.getElem_mem _); omega)) (fun hg => EvL.cons (gs hg rfl) (EvL.cons (gs hg rfl) (EvL.nil))) rfl ?_
      first | refine QL.gg (gwTT rfl rfl) (fun hg => (notD (gs hg rfl)).does _) rfl ?_ | refine QL.gg (gwTT rfl rfl) (fun hg => (not_ (gs hg rfl)).does _) rfl ?_
      refine QL.gg (gwF rfl rfl) (fun hg => (pickAnd (gs hg rfl) (fun hn => gs ⟨hg, hn⟩ rfl)).does _) rfl ?_
      refine QL.r (pickOr rfl (fun hn => gs hn rfl)) rfl ?_
      refine QL.nil ?_; intro w9 hx; replace H := H.ext hx; replace hb1 := hb1.ext hx
      refine WP.cond rfl (fun hc => ?_) (fun hc => ?_)
      · refine WP.regionS ?_
        refine RL.r (asgB rfl) rfl ?_
        refine RL.nil ?_
        refine WP.ret ?_
        refine fin1_ret rfl ⟨boolE (Eq.symm (decide_eq_false fun h => ?_)), H⟩
        obtain ⟨h1, h2⟩ := h.2.2.2.1 j hj
        rcases hc with hc | ⟨hc, hc'⟩
        · exact hc h1
        · exact hc' (h2 (by omega))
      · refine WP.skip ?_
        refine WP.region ?_
        refine RL.r (mvI rfl) rfl ?_
        refine RL.r (add rfl rfl (by omega)) rfl ?_
        refine RL.r (asgI rfl) rfl ?_
        refine RL.nil ?_
        refine ⟨k - 1, by omega, j + 1, by omega, Head.intro (by repeat (first | with_reducible exact AgreeOff.mix _ _ _ | refine AgreeOff.look rfl ?_ | refine AgreeOff.mixs rfl ?_)) ⟨rfl, trivial⟩, H, hb1, fun i h hi => ?_⟩
        by_cases hij : i < j
        · exact hok i h hij
        · obtain rfl : i = j := by omega
          exact ⟨Classical.byContradiction fun h => hc (.inl h), fun h0 => Classical.byContradiction fun h => hc (.inr ⟨by omega, h⟩)⟩
    · refine WP.exit ?_
      refine WP.regionS ?_
      refine RL.r (asgB rfl) rfl ?_
      refine RL.nil ?_
      refine WP.ret ?_
      refine fin1_ret rfl ⟨congrArg Value.bool (bT ?_), H⟩
      have hall : topOk tp := fun i h => hok i h (by omega)
      have hn : ¬ _ := (by assumption : ¬ (((((¬ nameB nm ∨ (tp.length : Int) < 1) ∨ (8 : Int) < (tp.length : Int)) ∨ tmo < 1) ∨ ¬ numB tmo) ∨ ¬ numB se))
      refine ⟨?_, ?_, ?_, hall, ?_, ?_, ?_⟩
      · exact Classical.byContradiction fun h => hn (.inl (.inl (.inl (.inl (.inl h)))))
      · exact Classical.byContradiction fun h => hn (.inl (.inl (.inl (.inl (.inr (by simp only at h; omega))))))
      · exact Classical.byContradiction fun h => hn (.inl (.inl (.inl (.inr (by simp only at h; omega)))))
      · exact Classical.byContradiction fun h => hn (.inl (.inl (.inr (by simp only at h; omega))))
      · exact Classical.byContradiction fun h => hn (.inl (.inr h))
      · exact Classical.byContradiction fun h => hn (.inr h)
theorem rMayS (w0 : World) (s : Seat) (hl : Sl w0 s.ta s.topics) (hlen : s.topics.length ≤ 100000) (hsz : ∀ x ∈ s.topics, x.size ≤ 40) :
    Ct Try.prog 49 #[.agg (Lies.enc s).toArray] w0 fun v w' => v = .bool (decide (mayS s.st)) ∧ Ext w0 w' := rMayS' w0 s.name s.ta s.tc s.topics s.timeout s.seen hl hlen hsz
end Go.Proofs.Ytlkpgeopcdhgjaa
