/-
  What the statements of chapter 9 ask at fixed topics.
-/
import Derived.Test.YtdcckaamepilcaaCat1
set_option linter.unusedVariables false
namespace Go.Proofs.Ytdcckaamepilcaa
open Go Go.Eng Go.RowKit
abbrev aS : ByteArray := ⟨#[97]⟩
abbrev bS : ByteArray := ⟨#[98]⟩
abbrev xS : ByteArray := ⟨#[120]⟩
abbrev AS : ByteArray := ⟨#[65]⟩
theorem one_name (c : UInt8) (h : okb c = true) : nameB ⟨#[c]⟩ := by
  refine ⟨Nat.le_refl 1, (show 1 ≤ 16 by decide), fun i hi => ?_⟩
  have : i = 0 := by
    have : i < 1 := hi
    omega
  subst this
  exact h
theorem one_ok (c : UInt8) (h : okb c = true) (n : Int) (h1 : 1 ≤ n) (h2 : n ≤ 8) : topicOk ⟨⟨#[c]⟩, n⟩ := ⟨one_name c h, h1, h2⟩
theorem slt_one {a b : UInt8} (h : a < b) : slt ⟨#[a]⟩ ⟨#[b]⟩ := by
  unfold slt
  rw [ByteArray.toList_eq, ByteArray.toList_eq]
  simp [Op.bytesLess, h]
theorem ab : slt aS bS := slt_one (by decide)
theorem ba : ¬ slt bS aS := fun h => slt_irrefl _ (slt_trans h ab)
theorem eGet_yes {x : Topic} {S : List Topic} {k : ByteArray} (h : x.name = k) : eGet (x :: S) k = some x := by
  exact List.find?_cons_of_pos (p := fun x : Topic => decide (key x = k)) (decide_eq_true (show key x = k from h))
theorem eGet_no {x : Topic} {S : List Topic} {k : ByteArray} (h : x.name ≠ k) : eGet (x :: S) k = eGet S k := by
  exact List.find?_cons_of_neg (p := fun x : Topic => decide (key x = k)) (by rw [decide_eq_true_iff]; exact h)
theorem eGet_nil (k : ByteArray) : eGet ([] : List Topic) k = none := rfl
theorem make_ok {S : List Topic} {t : Topic} (h1 : topicOk t) (h2 : eGet S t.name = none) (h3 : S.length < 8) : makeE S t = 0 ∧ makeC S t = ePut S t := by
  have hE : makeE S t = 0 := by unfold makeE; rw [if_neg (not_not_intro h1), if_neg (not_not_intro h2), if_neg (by omega)]
  exact ⟨hE, by unfold makeC; rw [if_pos hE]⟩
theorem make_no {S : List Topic} {t : Topic} {k : Int} (h : makeE S t = k) (hk : k ≠ 0) : makeC S t = S := by unfold makeC; rw [if_neg (by rw [h]; exact hk)]
theorem make_bad {S : List Topic} {t : Topic} (h : ¬ topicOk t) : makeE S t = 1 ∧ makeC S t = S := by
  have hE : makeE S t = 1 := by unfold makeE; rw [if_pos h]
  exact ⟨hE, make_no hE (by decide)⟩
theorem make_there {S : List Topic} {t : Topic} (h1 : topicOk t) (h2 : eGet S t.name ≠ none) : makeE S t = 90 ∧ makeC S t = S := by
  have hE : makeE S t = 90 := by unfold makeE; rw [if_neg (not_not_intro h1), if_pos h2]
  exact ⟨hE, make_no hE (by decide)⟩
theorem make_full {S : List Topic} {t : Topic} (h1 : topicOk t) (h2 : eGet S t.name = none) (h3 : 8 ≤ S.length) : makeE S t = 2 ∧ makeC S t = S := by
  have hE : makeE S t = 2 := by unfold makeE; rw [if_neg (not_not_intro h1), if_neg (not_not_intro h2), if_pos h3]
  exact ⟨hE, make_no hE (by decide)⟩
theorem grow_yes {S : List Topic} {t x : Topic} (h1 : eGet S t.name = some x) (h2 : x.n ≤ t.n) (h3 : t.n ≤ 8) : growE S t = 0 ∧ growC S t = ePut S t := by
  have hE : growE S t = 0 := by unfold growE; rw [if_neg (by rw [h1]; exact Option.some_ne_none _), nC_some h1, if_neg (by omega)]
  exact ⟨hE, by unfold growC; rw [if_pos hE]⟩
theorem grow_no {S : List Topic} {t x : Topic} (h1 : eGet S t.name = some x) (h2 : t.n < x.n) : growE S t = 1 ∧ growC S t = S := by
  have hE : growE S t = 1 := by unfold growE; rw [if_neg (by rw [h1]; exact Option.some_ne_none _), nC_some h1, if_pos (.inl h2)]
  exact ⟨hE, by unfold growC; rw [if_neg (by rw [hE]; decide)]⟩
theorem drop_none {S : List Topic} {k : ByteArray} (h : eGet S k = none) : dropE S k = 91 ∧ dropC S k = S := ⟨by unfold dropE; rw [if_pos h], eDel_none h⟩
abbrev S1 : List Topic := [⟨bS, 2⟩]
abbrev S2 : List Topic := [⟨aS, 1⟩, ⟨bS, 2⟩]
abbrev S3 : List Topic := [⟨aS, 3⟩, ⟨bS, 2⟩]
theorem ab_ne : aS ≠ bS := by simp
theorem ax_ne : aS ≠ xS := by simp
theorem bx_ne : bS ≠ xS := by simp
theorem put1 : ePut [] (⟨bS, 2⟩ : Topic) = S1 := rfl
theorem put2 : ePut S1 (⟨aS, 1⟩ : Topic) = S2 := by
  unfold ePut
  rw [List.filter_cons_of_neg (by simp only [decide_eq_true_eq]; exact ba), List.filter_nil, List.filter_cons_of_pos (by simp only [decide_eq_true_eq]; exact ab), List.filter_nil]
  rfl
theorem put3 : ePut S2 (⟨aS, 3⟩ : Topic) = S3 := by
  unfold ePut
  rw [List.filter_cons_of_neg (by simp only [decide_eq_true_eq]; exact slt_irrefl aS), List.filter_cons_of_neg (by simp only [decide_eq_true_eq]; exact ba), List.filter_nil, List.filter_cons_of_neg (by simp only [decide_eq_true_eq]; exact slt_irrefl aS), List.filter_cons_of_pos (by simp only [decide_eq_true_eq]; exact ab), List.filter_nil]
  rfl
theorem m1 : makeE [] ⟨bS, 2⟩ = 0 ∧ makeC [] ⟨bS, 2⟩ = S1 := by
  have h := make_ok (S := []) (t := ⟨bS, 2⟩) (one_ok 98 (by decide) 2 (by decide) (by decide)) rfl (by decide)
  exact ⟨h.1, h.2.trans put1⟩
theorem m2 : makeE S1 ⟨aS, 1⟩ = 0 ∧ makeC S1 ⟨aS, 1⟩ = S2 := by
  have h := make_ok (S := S1) (t := ⟨aS, 1⟩) (one_ok 97 (by decide) 1 (by decide) (by decide)) ((eGet_no ab_ne.symm).trans rfl) (by decide)
  exact ⟨h.1, h.2.trans put2⟩
theorem m3 : makeE S2 ⟨aS, 1⟩ = 90 ∧ makeC S2 ⟨aS, 1⟩ = S2 := make_there (one_ok 97 (by decide) 1 (by decide) (by decide)) (by rw [eGet_yes rfl]; exact Option.some_ne_none _)
theorem m4 : makeE S2 ⟨AS, 1⟩ = 1 ∧ makeC S2 ⟨AS, 1⟩ = S2 := make_bad fun h => by
  have h2 := h.1.2.2 0 (show 0 < 1 by decide)
  exact absurd (show okb 65 = true from h2) (by decide)
theorem m5 : growE S2 ⟨aS, 3⟩ = 0 ∧ growC S2 ⟨aS, 3⟩ = S3 := by
  have h := grow_yes (S := S2) (t := ⟨aS, 3⟩) (eGet_yes rfl) (by decide) (by decide)
  exact ⟨h.1, h.2.trans put3⟩
theorem m6 : growE S3 ⟨aS, 2⟩ = 1 ∧ growC S3 ⟨aS, 2⟩ = S3 := grow_no (eGet_yes rfl) (by decide)
theorem m7 : dropE S3 xS = 91 ∧ dropC S3 xS = S3 := drop_none ((eGet_no ax_ne).trans ((eGet_no bx_ne).trans rfl))
theorem m8 : topicsE [⟨bS, 1⟩, ⟨aS, 1⟩] = 1 := by
  unfold topicsE
  rw [if_neg (by decide), if_neg]
  intro h
  exact ba ((h 1 (by decide)).2 (by decide))
theorem n3 : nC S3 aS = 3 := nC_some (eGet_yes rfl)
theorem n0 : nC S3 xS = 0 := by unfold nC; rw [eGet_no ax_ne, eGet_no bx_ne]; rfl
theorem pts : partsC S2 [bS, aS, xS, aS] = [⟨aS, 0⟩, ⟨bS, 0⟩, ⟨bS, 1⟩] := by
  have h1 : prS [bS, aS, xS, aS] aS 1 = [⟨aS, 0⟩] := by unfold prS; rw [if_pos (by simp)]; rfl
  have h2 : prS [bS, aS, xS, aS] bS 2 = [⟨bS, 0⟩, ⟨bS, 1⟩] := by unfold prS; rw [if_pos (by simp)]; rfl
  show prS [bS, aS, xS, aS] aS 1 ++ (prS [bS, aS, xS, aS] bS 2 ++ []) = _
  rw [h1, h2]
  rfl
theorem pLoad_ok (w0 : World) (a : Option Addr) (c0 : Nat) (l : List Topic) (hl : Sl w0 a l) (h0 : topicsE l = 0) :
    Ct Try.prog 9 #[.slice a l.length c0] w0 fun v w' => (∃ i m, v = .tuple #[.pointer (some ⟨i, 0, none⟩), .int .i64 0] ∧ Tc w0.heap.size w' i m l) ∧ Ext w0 w' :=
  (pLoad w0 a c0 l hl).mono fun v w' ⟨⟨p, h1, h2, _⟩, hx⟩ => ⟨by obtain ⟨i, m, rfl, hT⟩ := h2 h0; exact ⟨i, m, by rw [h1, h0], hT⟩, hx⟩
theorem pLoad_no (w0 : World) (a : Option Addr) (c0 : Nat) (l : List Topic) (hl : Sl w0 a l) {k : Int} (h0 : topicsE l = k) (hk : k ≠ 0) :
    Ct Try.prog 9 #[.slice a l.length c0] w0 fun v w' => v = .tuple #[.pointer none, .int .i64 k] ∧ Ext w0 w' :=
  (pLoad w0 a c0 l hl).mono fun v w' ⟨⟨p, h1, _, h3⟩, hx⟩ => ⟨by rw [h1, h3 (by rw [h0]; exact hk), h0], hx⟩
set_option maxRecDepth 20000 in
set_option maxHeartbeats 1600000 in
theorem lFixed (w0 : World) :
    Ct Try.prog 13 #[] w0 fun v w' => v = .bool true ∧ Ext w0 w' := by
  refine Ct.intro1 Try.func13 Try.ntmps13 rfl rfl (by decide) rfl ?_
  have H : Ext w0 w0 := Ext.refl w0
  refine WP.regionS ?_
  refine RL.r (asgB rfl) rfl ?_
  refine RL.nil ?_
  refine WP.regionS ?_
  -- call stagecoach/topics.New 
  refine RL.call (pNew _) rfl rfl ?_
  rintro v w1 ⟨⟨i, m, rfl, hT⟩, hx⟩
  replace H := H.ext hx
  refine RL.r (asgP rfl) rfl ?_
  refine RL.nil ?_
  refine WP.seq ?_
  refine WP.regionS ?_
  refine RL.r (mvP rfl) rfl ?_
  refine RL.r (peqn rfl rfl) rfl ?_
  refine RL.nil ?_
  refine WP.cond rfl (fun hc => ?_) (fun hc => ?_)
  · refine WP.regionS ?_
    refine RL.r (asgB rfl) rfl ?_
    refine RL.nil ?_
    refine WP.ret ?_
    refine fin1_ret rfl ⟨absurd hc (by simp), H⟩
  · refine WP.skip ?_
    refine WP.regionS ?_
    refine RL.r (mvP rfl) rfl ?_
    -- call (*stagecoach/topics.Catalog).Make (tmp 17) (const (string {data:#[98]})) (const (int i64 2))
    refine RL.call ((by have h := pMake _ _ i m [] hT bS 2; rw [m1.1] at h; exact h)) rfl rfl ?_
    rintro _ w2 ⟨⟨rfl, hT2⟩, hx⟩
    replace H := H.mp hx hT.old
    rw [m1.2] at hT2
    replace hT := hT2; clear hT2
    refine RL.r (mvP rfl) rfl ?_
    -- call (*stagecoach/topics.Catalog).Make (tmp 19) (const (string {data:#[97]})) (const (int i64 1))
    refine RL.call ((by have h := pMake _ _ i m S1 hT aS 1; rw [m2.1] at h; exact h)) rfl rfl ?_
    rintro _ w3 ⟨⟨rfl, hT2⟩, hx⟩
    replace H := H.mp hx hT.old
    rw [m2.2] at hT2
    replace hT := hT2; clear hT2
    refine RL.r (asgI rfl) rfl ?_
    refine RL.r (asgI rfl) rfl ?_
    refine RL.nil ?_
    refine WP.regionS ?_
    refine RL.r (mvP rfl) rfl ?_
    refine RL.buildSlice w0.heap.size H.size rfl rfl rfl rfl rfl ?_
    intro w4 i22 hi22 hx hb22
    replace H := H.ext hx; replace hT := hT.ext hx; clear hx
    -- call (*stagecoach/topics.Catalog).Parts (tmp 21) (tmp 22)
    refine RL.call (pParts _ _ i m S2 hT _ 4 [bS, aS, xS, aS] (Box.sl (l := [bS, aS, xS, aS]) hb22) (by decide)) rfl rfl ?_
    rintro v w5 ⟨⟨aP, cP, rfl, hP⟩, hx⟩
    replace H := H.ext hx; replace hT := hT.ext hx
    refine RL.r (asgL rfl) rfl ?_
    refine RL.nil ?_
    refine WP.regionS ?_
    refine RL.r (mvP rfl) rfl ?_
    -- call (*stagecoach/topics.Catalog).Make (tmp 24) (const (string {data:#[97]})) (const (int i64 1))
    refine RL.call ((by have h := pMake _ _ i m S2 hT aS 1; rw [m3.1] at h; exact h)) rfl rfl ?_
    rintro _ w6 ⟨⟨rfl, hT2⟩, hx⟩
    replace H := H.mp hx hT.old; replace hP := hP.upd hx (fun k hk e => hT.nea hP (e ▸ hk))
    rw [m3.2] at hT2
    replace hT := hT2; clear hT2
    refine RL.r (mvP rfl) rfl ?_
    -- call (*stagecoach/topics.Catalog).Make (tmp 26) (const (string {data:#[65]})) (const (int i64 1))
    refine RL.call ((by have h := pMake _ _ i m S2 hT AS 1; rw [m4.1] at h; exact h)) rfl rfl ?_
    rintro _ w7 ⟨⟨rfl, hT2⟩, hx⟩
    replace H := H.mp hx hT.old; replace hP := hP.upd hx (fun k hk e => hT.nea hP (e ▸ hk))
    rw [m4.2] at hT2
    replace hT := hT2; clear hT2
    refine RL.r (mvP rfl) rfl ?_
    -- call (*stagecoach/topics.Catalog).Grow (tmp 28) (const (string {data:#[97]})) (const (int i64 3))
    refine RL.call ((by have h := pGrow _ _ i m S2 hT aS 3; rw [m5.1] at h; exact h)) rfl rfl ?_
    rintro _ w8 ⟨⟨rfl, hT2⟩, hx⟩
    replace H := H.mp hx hT.old; replace hP := hP.upd hx (fun k hk e => hT.nea hP (e ▸ hk))
    rw [m5.2] at hT2
    replace hT := hT2; clear hT2
    refine RL.r (asgI rfl) rfl ?_
    refine RL.r (asgI rfl) rfl ?_
    refine RL.r (asgI rfl) rfl ?_
    refine RL.nil ?_
    refine WP.regionS ?_
    refine RL.r (mvP rfl) rfl ?_
    -- call (*stagecoach/topics.Catalog).Grow (tmp 30) (const (string {data:#[97]})) (const (int i64 2))
    refine RL.call ((by have h := pGrow _ _ i m S3 hT aS 2; rw [m6.1] at h; exact h)) rfl rfl ?_
    rintro _ w9 ⟨⟨rfl, hT2⟩, hx⟩
    replace H := H.mp hx hT.old; replace hP := hP.upd hx (fun k hk e => hT.nea hP (e ▸ hk))
    rw [m6.2] at hT2
    replace hT := hT2; clear hT2
    refine RL.r (mvP rfl) rfl ?_
    -- call (*stagecoach/topics.Catalog).Drop (tmp 32) (const (string {data:#[120]}))
    refine RL.call ((by have h := pDrop _ _ i m S3 hT xS; rw [m7.1] at h; exact h)) rfl rfl ?_
    rintro _ w10 ⟨⟨rfl, hT2⟩, hx⟩
    replace H := H.mp hx hT.old; replace hP := hP.upd hx (fun k hk e => hT.nea hP (e ▸ hk))
    rw [m7.2] at hT2
    replace hT := hT2; clear hT2
    refine RL.r (asgI rfl) rfl ?_
    refine RL.r (asgI rfl) rfl ?_
    refine RL.nil ?_
    refine WP.regionS ?_
    refine RL.r (mvP rfl) rfl ?_
    -- call (*stagecoach/topics.Catalog).List (tmp 35)
    refine RL.call (pList _ _ i m S3 hT) rfl rfl ?_
    rintro v w11 ⟨⟨aL, cL, rfl, hL⟩, hx⟩
    replace H := H.ext hx; replace hT := hT.ext hx; replace hP := hP.ext hx
    -- call stagecoach/topics.Load (tmp 36)
    refine RL.call (pLoad_ok _ aL cL S3 hL.sl (okC_topicsE hT.ok)) rfl rfl ?_
    rintro v w12 ⟨⟨i2, m2, rfl, _⟩, hx⟩
    replace H := H.ext hx; replace hT := hT.ext hx; replace hP := hP.ext hx
    refine RL.r (mvU rfl) rfl ?_
    refine RL.r (ex0 rfl) rfl ?_
    refine RL.r (ex1 rfl) rfl ?_
    refine RL.r (asgP rfl) rfl ?_
    refine RL.r (asgI rfl) rfl ?_
    refine RL.nil ?_
    refine WP.regionS ?_
    refine RL.r (bld rfl rfl) rfl ?_
    refine RL.r (bld rfl rfl) rfl ?_
    refine RL.buildSlice w0.heap.size H.size rfl rfl rfl rfl rfl ?_
    intro w13 i43 hi43 hx hb43
    replace H := H.ext hx; replace hT := hT.ext hx; replace hP := hP.ext hx; clear hx
    -- call stagecoach/topics.Load (tmp 43)
    refine RL.call (pLoad_no _ _ 2 [⟨bS, 1⟩, ⟨aS, 1⟩] (Box.sl (l := [(⟨bS, 1⟩ : Topic), ⟨aS, 1⟩]) hb43) m8 (by decide)) rfl rfl ?_
    rintro _ w14 ⟨rfl, hx⟩
    replace H := H.ext hx; replace hT := hT.ext hx; replace hP := hP.ext hx
    refine RL.r (mvU rfl) rfl ?_
    refine RL.r (ex0 rfl) rfl ?_
    refine RL.r (ex1 rfl) rfl ?_
    refine RL.r (asgP rfl) rfl ?_
    refine RL.r (asgI rfl) rfl ?_
    refine RL.nil ?_
    refine WP.regionS ?_
    refine RL.r (mvI rfl) rfl ?_
    refine RL.r (eql rfl rfl) rfl ?_
    refine RL.mvT rfl (by first | assumption | omega) rfl ?_
    refine RL.yes rfl rfl rfl ?_
    refine RL.r (mvI rfl) rfl ?_
    refine RL.yes rfl rfl rfl ?_
    refine RL.r (eql rfl rfl) rfl ?_
    refine RL.r (pickT rfl) rfl ?_
    refine RL.mvT rfl (by first | assumption | omega) rfl ?_
    refine RL.yes rfl rfl rfl ?_
    refine RL.r (mvL rfl) rfl ?_
    refine RL.yes rfl rfl rfl ?_
    refine RL.r (bld rfl rfl) rfl ?_
    refine RL.yes rfl rfl rfl ?_
    refine RL.r (bld rfl rfl) rfl ?_
    refine RL.yes rfl rfl rfl ?_
    refine RL.r (bld rfl rfl) rfl ?_
    refine RL.yes rfl rfl rfl ?_
    refine RL.buildSlice w0.heap.size H.size rfl rfl rfl rfl rfl ?_
    intro w15 i58 hi58 hx hb58
    replace H := H.ext hx; replace hT := hT.ext hx; replace hP := hP.ext hx; clear hx
    refine RL.yes rfl rfl rfl ?_
    -- call stagecoach/stagecoachref04.Parts (tmp 54) (tmp 58)
    refine RL.call (rParts _ aP _ cP 3 (partsC S2 [bS, aS, xS, aS]) [⟨aS, 0⟩, ⟨bS, 0⟩, ⟨bS, 1⟩] hP.sl (Box.sl (l := [(⟨aS, 0⟩ : Part), ⟨bS, 0⟩, ⟨bS, 1⟩]) hb58) (by rw [pts]; decide)) rfl rfl ?_
    rintro _ w16 ⟨rfl, hx⟩
    replace H := H.ext hx; replace hT := hT.ext hx; replace hP := hP.ext hx
    refine RL.r (pickT rfl) rfl ?_
    refine RL.mvT rfl pts rfl ?_
    refine RL.yes rfl rfl rfl ?_
    refine RL.r (mvI rfl) rfl ?_
    refine RL.yes rfl rfl rfl ?_
    refine RL.r (eql rfl rfl) rfl ?_
    refine RL.r (pickT rfl) rfl ?_
    refine RL.mvT rfl (by first | assumption | omega) rfl ?_
    refine RL.yes rfl rfl rfl ?_
    refine RL.r (mvI rfl) rfl ?_
    refine RL.yes rfl rfl rfl ?_
    refine RL.r (eql rfl rfl) rfl ?_
    refine RL.r (pickT rfl) rfl ?_
    refine RL.mvT rfl (by first | assumption | omega) rfl ?_
    refine RL.yes rfl rfl rfl ?_
    refine RL.r (mvI rfl) rfl ?_
    refine RL.yes rfl rfl rfl ?_
    refine RL.r (eql rfl rfl) rfl ?_
    refine RL.r (pickT rfl) rfl ?_
    refine RL.mvT rfl (by first | assumption | omega) rfl ?_
    refine RL.yes rfl rfl rfl ?_
    refine RL.r (mvI rfl) rfl ?_
    refine RL.yes rfl rfl rfl ?_
    refine RL.r (eql rfl rfl) rfl ?_
    refine RL.r (pickT rfl) rfl ?_
    refine RL.mvT rfl (by first | assumption | omega) rfl ?_
    refine RL.yes rfl rfl rfl ?_
    refine RL.r (mvI rfl) rfl ?_
    refine RL.yes rfl rfl rfl ?_
    refine RL.r (eql rfl rfl) rfl ?_
    refine RL.r (pickT rfl) rfl ?_
    refine RL.mvT rfl (by first | assumption | omega) rfl ?_
    refine RL.yes rfl rfl rfl ?_
    refine RL.r (mvP rfl) rfl ?_
    refine RL.yes rfl rfl rfl ?_
    refine RL.r (pneqn rfl rfl) rfl ?_
    refine RL.r (pickT rfl) rfl ?_
    refine RL.mvT rfl (by simp) rfl ?_
    refine RL.yes rfl rfl rfl ?_
    refine RL.r (mvI rfl) rfl ?_
    refine RL.yes rfl rfl rfl ?_
    refine RL.r (eql rfl rfl) rfl ?_
    refine RL.r (pickT rfl) rfl ?_
    refine RL.mvT rfl (by first | assumption | omega) rfl ?_
    refine RL.yes rfl rfl rfl ?_
    refine RL.r (mvI rfl) rfl ?_
    refine RL.yes rfl rfl rfl ?_
    refine RL.r (eql rfl rfl) rfl ?_
    refine RL.r (pickT rfl) rfl ?_
    refine RL.mvT rfl (by first | assumption | omega) rfl ?_
    refine RL.yes rfl rfl rfl ?_
    refine RL.r (mvP rfl) rfl ?_
    refine RL.yes rfl rfl rfl ?_
    refine RL.r (bld rfl rfl) rfl ?_
    refine RL.yes rfl rfl rfl ?_
    -- call (*stagecoach/topics.Catalog).Has (tmp 94) (tmp 95)
    refine RL.call (pHas _ _ i m S3 hT ⟨aS, 2⟩) rfl rfl ?_
    rintro _ w17 ⟨rfl, hx⟩
    replace H := H.ext hx; replace hT := hT.ext hx; replace hP := hP.ext hx
    refine RL.r (pickT rfl) rfl ?_
    refine RL.mvT rfl ⟨by decide, by show (2 : Int) < nC S3 aS; rw [n3]; decide⟩ rfl ?_
    refine RL.yes rfl rfl rfl ?_
    refine RL.r (mvP rfl) rfl ?_
    refine RL.yes rfl rfl rfl ?_
    refine RL.r (bld rfl rfl) rfl ?_
    refine RL.yes rfl rfl rfl ?_
    -- call (*stagecoach/topics.Catalog).Has (tmp 99) (tmp 100)
    refine RL.call (pHas _ _ i m S3 hT ⟨aS, 3⟩) rfl rfl ?_
    rintro _ w18 ⟨rfl, hx⟩
    replace H := H.ext hx; replace hT := hT.ext hx; replace hP := hP.ext hx
    refine RL.yes rfl rfl rfl ?_
    first | refine RL.r (notD rfl) rfl ?_ | refine RL.r (not_ rfl) rfl ?_
    refine RL.r (pickT rfl) rfl ?_
    refine RL.mvT rfl (fun h => by have h2 : (3 : Int) < nC S3 aS := h.2; rw [n3] at h2; exact absurd h2 (by decide)) rfl ?_
    refine RL.yes rfl rfl rfl ?_
    refine RL.r (mvP rfl) rfl ?_
    refine RL.yes rfl rfl rfl ?_
    -- call (*stagecoach/topics.Catalog).N (tmp 105) (const (string {data:#[97]}))
    refine RL.call (pN _ _ i m S3 hT aS) rfl rfl ?_
    rintro _ w19 ⟨rfl, hx⟩
    replace H := H.ext hx; replace hT := hT.ext hx; replace hP := hP.ext hx
    refine RL.yes rfl rfl rfl ?_
    refine RL.r (eql rfl rfl) rfl ?_
    refine RL.r (pickT rfl) rfl ?_
    refine RL.mvT rfl n3 rfl ?_
    refine RL.yes rfl rfl rfl ?_
    refine RL.r (mvP rfl) rfl ?_
    refine RL.yes rfl rfl rfl ?_
    -- call (*stagecoach/topics.Catalog).N (tmp 110) (const (string {data:#[120]}))
    refine RL.call (pN _ _ i m S3 hT xS) rfl rfl ?_
    rintro _ w20 ⟨rfl, hx⟩
    replace H := H.ext hx; replace hT := hT.ext hx; replace hP := hP.ext hx
    refine RL.yes rfl rfl rfl ?_
    refine RL.r (eql rfl rfl) rfl ?_
    refine RL.r (pickT rfl) rfl ?_
    refine RL.r (asgB rfl) rfl ?_
    refine RL.nil ?_
    refine WP.ret ?_
    refine fin1_ret rfl ⟨congrArg Value.bool (decide_eq_true n0), H⟩
theorem lFixedD (w0 : World) : Ct Try.prog 13 #[] w0 fun v w' => v = .bool (decide ((0 : Nat) = 0)) ∧ Ext w0 w' :=
  (lFixed w0).mono fun v w' ⟨h, hx⟩ => ⟨by rw [h]; rfl, hx⟩
theorem lCut (w0 : World) (s : ByteArray) :
    Ct Try.prog 8 #[.string s] w0 fun v w' => v = .string (s.extract 0 (min s.size 40)) ∧ Ext w0 w' := by
  refine Ct.intro1 Try.func8 Try.ntmps8 rfl rfl (by decide) rfl ?_
  have H : Ext w0 w0 := Ext.refl w0
  refine WP.regionS ?_
  refine RL.r (asgS rfl) rfl ?_
  refine RL.nil ?_
  refine WP.regionS ?_
  refine RL.r (mvS rfl) rfl ?_
  refine RL.r (mvS rfl) rfl ?_
  refine RL.r (len_str rfl) rfl ?_
  refine RL.r (min_i rfl rfl) rfl ?_
  refine RL.r (slcS (n := min s.size 40) rfl rfl (by omega) (by omega)) rfl ?_
  refine RL.r (asgS rfl) rfl ?_
  refine RL.nil ?_
  refine WP.ret ?_
  refine fin1_ret rfl ⟨rfl, H⟩
end Go.Proofs.Ytdcckaamepilcaa
