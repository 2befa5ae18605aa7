/-
  The document's table of producers: how it lies; the walks of is, row, last, Ask.
-/
import Derived.Test.YtbggmjnhfacjpaaTold08
set_option linter.unusedVariables false
namespace Go.Proofs.Ytbggmjnhfacjpaa
open Go Go.Eng Go.RowKit
/-! ### rows of batches that are read, in blocks of their type -/
structure DR (B : Nat) (w : World) (x : Maker) : Prop where
  sl : Sl w x.la x.last
  bk : ∀ k, inBlock x.la k → B ≤ k ∧ ∃ cs fr, w.heap[k]? = some (.cells cs 53 fr)
section
variable {B : Nat} {w w' : World} {x : Maker}
theorem DR.lt (h : DR B w x) {k : Nat} (hk : inBlock x.la k) : B ≤ k ∧ k < w.heap.size := by
  obtain ⟨h1, cs, fr, h2⟩ := h.bk k hk
  exact ⟨h1, (Array.getElem?_eq_some_iff.1 h2).1⟩
theorem DR.ext (h : DR B w x) (k : Ext w w') : DR B w' x := ⟨h.sl.ext k, fun j hj => by obtain ⟨h1, cs, fr, h2⟩ := h.bk j hj; exact ⟨h1, cs, fr, k.heap h2⟩⟩
theorem DR.upd {X : Nat → Prop} (h : DR B w x) (k : Upd X w w') (hx : ∀ j, inBlock x.la j → ¬ X j) : DR B w' x :=
  ⟨h.sl.upd k (fun p hp => hx _ ⟨p, hp, rfl⟩), fun j hj => by obtain ⟨h1, cs, fr, h2⟩ := h.bk j hj; exact ⟨h1, cs, fr, k.heap h2 (hx j hj)⟩⟩
theorem DR.mono {B' : Nat} (h : DR B w x) (k : B' ≤ B) : DR B' w x := ⟨h.sl, fun j hj => by obtain ⟨h1, h2⟩ := h.bk j hj; exact ⟨Nat.le_trans k h1, h2⟩⟩
theorem DR.nbox {B' b : Nat} {T : TypeId} {cs : List Value} (h : DR B w x) (hb : Box B' w b T cs) (hT : 53 ≠ T) : ¬ inBlock x.la b := by
  intro hk
  obtain ⟨_, cs', fr, h2⟩ := h.bk b hk
  rw [hb.at_] at h2
  injection h2 with h2
  injection h2 with _ h3
  exact hT h3.symm
theorem DR.nown {α : Type} [Lies α] {B' c : Nat} {T : TypeId} {a : Option Addr} {l : List α} (h : DR B w x) (ho : Own B' w T a c l) (hT : 53 ≠ T) : ∀ k, inBlock x.la k → ¬ inBlock a k := by
  intro k hk ⟨p, hp, hpk⟩
  obtain ⟨_, cs', fr, h2⟩ := h.bk k hk
  rcases ho.cases with ⟨h3, _⟩ | ⟨g, cur, h3, _, h4, _⟩
  · rw [hp] at h3; cases h3
  · rw [hp] at h3
    injection h3 with h3
    subst h3
    simp only at hpk
    subst hpk
    rw [h4] at h2
    injection h2 with h2
    injection h2 with _ h5
    exact hT h5.symm
theorem DR.of {B : Nat} {w : World} {x : Maker} {c : Nat} (h : Own B w 53 x.la c x.last) : DR B w x := by
  refine ⟨h.sl, fun k ⟨p, hp, hpk⟩ => ?_⟩
  rcases h.cases with ⟨h3, _⟩ | ⟨g, cur, h3, h4, h5, _⟩
  · rw [hp] at h3; cases h3
  · rw [hp] at h3
    injection h3 with h3
    subst h3
    simp only at hpk
    subst hpk
    exact ⟨h4, cur, _, h5⟩
end
/-! ### the table -/
structure Tq (B : Nat) (w : World) (i : Nat) (a : Option Addr) (c : Nat) (b : Option Addr) (d : Nat) (E : List Int) (L : List Maker) : Prop where
  box : Box B w i 65 [.slice a E.length c, .slice b L.length d]
  eps : Own B w 3 a c E
  row : Own B w 33 b d L
  dr : ∀ x ∈ L, DR B w x
def terrR (i : Nat) (a b : Option Addr) (L : List Maker) (k : Nat) : Prop := k = i ∨ inBlock a k ∨ inBlock b k ∨ ∃ x ∈ L, inBlock x.la k
structure Tr (B : Nat) (w : World) (i : Nat) (Y : Nat → Prop) (D : Ds) : Prop where
  at_ : ∃ a c b d L, Tq B w i a c b d D.E L ∧ L.map Maker.mk' = D.S.map (mkP D.E) ∧ Y = terrR i a b L
section
variable {B i c d : Nat} {a b : Option Addr} {w w' : World} {E : List Int} {L : List Maker} {Y : Nat → Prop} {D : Ds}
theorem Tq.ext (h : Tq B w i a c b d E L) (k : Ext w w') : Tq B w' i a c b d E L := ⟨h.box.ext k, h.eps.ext k, h.row.ext k, fun x hx => (h.dr x hx).ext k⟩
theorem Tq.upd {X : Nat → Prop} (h : Tq B w i a c b d E L) (k : Upd X w w') (hx : ∀ j, terrR i a b L j → ¬ X j) : Tq B w' i a c b d E L :=
  ⟨h.box.upd k (hx i (.inl rfl)), h.eps.upd k (fun j hj => hx j (.inr (.inl hj))), h.row.upd k (fun j hj => hx j (.inr (.inr (.inl hj)))), fun x hm => (h.dr x hm).upd k (fun j hj => hx j (.inr (.inr (.inr ⟨x, hm, hj⟩))))⟩
theorem Tq.mono {B' : Nat} (h : Tq B w i a c b d E L) (k : B' ≤ B) : Tq B' w i a c b d E L := ⟨Box.mono h.box k, h.eps.mono k, h.row.mono k, fun x hx => (h.dr x hx).mono k⟩
theorem Tq.old (h : Tq B w i a c b d E L) {j : Nat} (hj : terrR i a b L j) : B ≤ j ∧ j < w.heap.size := by
  rcases hj with rfl | hj | hj | ⟨x, hx, hj⟩
  · exact ⟨h.box.old, h.box.lt⟩
  · exact h.eps.blk hj
  · exact h.row.blk hj
  · exact (h.dr x hx).lt hj
theorem Tq.nbox (h : Tq B w i a c b d E L) {B' j : Nat} {T : TypeId} {cs : List Value} (hb : Box B' w j T cs) (h1 : T ≠ 65) (h2 : T ≠ 3) (h3 : T ≠ 33) (h4 : T ≠ 53) : ¬ terrR i a b L j := by
  rintro (e | e | e | ⟨x, hx, e⟩)
  · exact box_nt hb h.box h1 e
  · exact h.eps.box_apart hb h2.symm e
  · exact h.row.box_apart hb h3.symm e
  · exact (h.dr x hx).nbox hb h4.symm e
theorem Tr.ext (h : Tr B w i Y D) (k : Ext w w') : Tr B w' i Y D := let ⟨a, c, b, d, L, h1, h2, h3⟩ := h.at_; ⟨a, c, b, d, L, h1.ext k, h2, h3⟩
theorem Tr.upd {X : Nat → Prop} (h : Tr B w i Y D) (k : Upd X w w') (hx : ∀ j, Y j → ¬ X j) : Tr B w' i Y D := by
  obtain ⟨a, c, b, d, L, h1, h2, rfl⟩ := h.at_
  exact ⟨a, c, b, d, L, h1.upd k hx, h2, rfl⟩
theorem Tr.mono {B' : Nat} (h : Tr B w i Y D) (k : B' ≤ B) : Tr B' w i Y D := let ⟨a, c, b, d, L, h1, h2, h3⟩ := h.at_; ⟨a, c, b, d, L, h1.mono k, h2, h3⟩
theorem Tr.old (h : Tr B w i Y D) {j : Nat} (hj : Y j) : B ≤ j ∧ j < w.heap.size := by
  obtain ⟨a, c, b, d, L, h1, h2, rfl⟩ := h.at_
  exact h1.old hj
theorem Tr.nbox (h : Tr B w i Y D) {B' j : Nat} {T : TypeId} {cs : List Value} (hb : Box B' w j T cs) (h1 : T ≠ 65) (h2 : T ≠ 3) (h3 : T ≠ 33) (h4 : T ≠ 53) : ¬ Y j := by
  obtain ⟨a, c, b, d, L, h0, _, rfl⟩ := h.at_
  exact h0.nbox hb h1 h2 h3 h4
end
theorem didAt_of {l : List Did} {j : Nat} (hj : j < l.length) (h1 : numB l[j].seq) (h2 : 1 ≤ l[j].n) (h3 : numB l[j].n) (h4 : numB l[j].off) (h5 : 0 < j → l[j].seq = (l[j - 1]'(by omega)).seq + (l[j - 1]'(by omega)).n) : didAt l j hj := ⟨h1, h2, h3, h4, h5⟩
theorem rIs (w0 : World) (B i : Nat) (a b2 : Option Addr) (c d : Nat) (E : List Int) (L : List Maker) (hb : Box B w0 i 65 [.slice a E.length c, .slice b2 L.length d]) (id : Int) :
    Ct Try.prog 36 #[.pointer (some ⟨i, 0, none⟩), .int .i64 id] w0 fun v w' => v = .bool (decide (isD E id)) ∧ Ext w0 w' := by
  refine Ct.intro1 Try.func36 Try.ntmps36 rfl rfl (by decide) rfl ?_
  have H : Ext w0 w0 := Ext.refl w0
  have hbt := hb
  refine WP.regionS ?_
  refine RL.r (asgB rfl) rfl ?_
  refine RL.nil ?_
  refine WP.seq (WP.quiet ?_)
  refine QL.r (mvI rfl) rfl ?_
  refine QL.r (geq rfl rfl) rfl ?_
  refine QL.r (mvB rfl) rfl ?_
  refine QL.gg (gwT rfl rfl) (fun hg => (mvI rfl).does _) rfl ?_
  refine QL.gg (gwT rfl rfl) (fun hg => (mvP rfl).does _) rfl ?_
  refine QL.gg (gwT rfl rfl) (fun hg => (nilck (gs hg rfl)).does _) rfl ?_
  refine QL.gg (gwT rfl rfl) (fun hg => (fa_box (gs hg rfl)).does _) rfl ?_
  refine QL.gg (gwT rfl rfl) (fun hg => ld_box (gs hg rfl) hbt rfl) rfl ?_
  refine QL.gg (gwT rfl rfl) (fun hg => (len_sl (gs hg rfl)).does _) rfl ?_
  refine QL.gg (gwT rfl rfl) (fun hg => (leq (gs hg rfl) (gs hg rfl)).does _) rfl ?_
  refine QL.r (pickAnd rfl (fun hn => gs hn rfl)) rfl ?_
  refine QL.r (asgB rfl) rfl ?_
  refine QL.nil ?_; intro w1 hx; replace H := H.ext hx; replace hbt := hbt.ext hx
  refine WP.ret ?_
  refine fin1_ret rfl ⟨rfl, H⟩
set_option maxRecDepth 20000 in
theorem rRow (w0 : World) (a : Option Addr) (c : Nat) (l : List Did) (hl : Sl w0 a l) :
    Ct Try.prog 37 #[.slice a l.length c] w0 fun v w' => v = .bool (decide (rowB l)) ∧ Ext w0 w' := by
  refine Ct.intro1 Try.func37 Try.ntmps37 rfl rfl (by decide) rfl ?_
  have H : Ext w0 w0 := Ext.refl w0
  refine WP.regionS ?_
  refine RL.r (asgB rfl) rfl ?_
  refine RL.nil ?_
  refine WP.seq ?_
  refine WP.seq (WP.quiet ?_)
  refine QL.r (mvL rfl) rfl ?_
  refine QL.r (len_sl rfl) rfl ?_
  refine QL.r (lss rfl rfl) rfl ?_
  refine QL.r (mvB rfl) rfl ?_
  refine QL.gg (gwF rfl rfl) (fun hg => (mvL rfl).does _) rfl ?_
  refine QL.gg (gwF rfl rfl) (fun hg => (len_sl (gs hg rfl)).does _) rfl ?_
  refine QL.gg (gwF rfl rfl) (fun hg => (gtr (gs hg rfl) rfl).does _) rfl ?_
  refine QL.r (pickOr rfl (fun hn => gs hn rfl)) rfl ?_
  refine QL.nil ?_; intro w1 hx; replace H := H.ext hx
  refine WP.cond rfl (fun hc => ?_) (fun hc => ?_)
  · refine WP.regionS ?_
    refine RL.r (asgB rfl) rfl ?_
    refine RL.nil ?_
    refine WP.ret ?_
    refine fin1_ret rfl ⟨congrArg Value.bool (bF fun h => by have h1 := h.1; have h2 := h.2.1; omega), H⟩
  · refine WP.skip ?_
    refine WP.seq ?_
    refine WP.regionS ?_
    refine RL.r (asgI rfl) rfl ?_
    refine RL.nil ?_
    refine WP.block ?_
    refine WP.loop (fun k e' w' => ∃ j : Nat,  j + k = l.length ∧ Head [2, 3, 12, 13, 14, 15, 16, 17, 18, 19, 20, 21, 22, 23, 24, 25, 26, 27, 28, 29, 30, 31, 32, 33, 34, 35, 36, 37, 38, 39, 40, 41, 42, 43, 44, 45, 46, 47, 48, 49, 50, 51, 52, 53, 54, 55, 56, 57, 58, 59, 60, 61, 62, 63, 64, 65, 66, 67, 68, 69, 70, 71, 72, 73] _ [(3, .int .i64 (j : Int))] e' ∧ Ext w0 w' ∧ ∀ (i : Nat) (h : i < l.length), i < j → didAt l i h) (l.length)
      ⟨0, by omega, Head.intro (AgreeOff.refl _ _) ⟨rfl, trivial⟩, H, fun i h hi => by omega⟩ ?_
    clear H
    rintro k e w2 ⟨j, hjk, ⟨jk, rfl⟩, H, hok⟩
    refine WP.seq ?_
    refine WP.regionS ?_
    refine RL.r (mvI rfl) rfl ?_
    refine RL.r (mvL rfl) rfl ?_
    refine RL.r (len_sl rfl) rfl ?_
    refine RL.r (lss rfl rfl) rfl ?_
    refine RL.nil ?_
    refine WP.cond rfl (fun hc => ?_) (fun hc => ?_)
    · refine WP.skip ?_
      refine WP.seq ?_
      refine WP.block ?_
      refine WP.seq ?_
      refine WP.seq (WP.quiet ?_)
      refine QL.r (mvL rfl) rfl ?_
      refine QL.r (mvI rfl) rfl ?_
      have hj : j < l.length := by omega
      have hj1 : j - 1 < l.length := by omega
      obtain ⟨p, rfl⟩ := hl.isAddr (by decide) hj
      have hpr : 0 < j → (0 ≤ l[j - 1].seq ∧ l[j - 1].seq ≤ 1099511627776) ∧ 0 ≤ l[j - 1].n ∧ l[j - 1].n ≤ 1099511627776 := fun h0 => by
        obtain ⟨q1, _, q3, _⟩ := hok (j - 1) hj1 (by omega)
        exact ⟨q1, q3⟩
      refine QL.r (ix rfl rfl rfl hj) rfl ?_
      refine QL.r (fa_el hl.1 rfl) rfl ?_
      refine QL.m (ld_el rfl hl H rfl hj rfl) rfl ?_
      -- call stagecoach/stagecoachref03.Num (tmp 22)
      refine QL.call (fun w' hw' => rNum w' _) rfl rfl ?_
      first | refine QL.r (notD rfl) rfl ?_ | refine QL.r (not_ rfl) rfl ?_
      refine QL.r (mvB rfl) rfl ?_
      refine QL.gg (gwF rfl rfl) (fun hg => (mvL rfl).does _) rfl ?_
      refine QL.gg (gwF rfl rfl) (fun hg => (mvI rfl).does _) rfl ?_
      refine QL.gg (gwF rfl rfl) (fun hg => (ix (gs hg rfl) (gs hg rfl) rfl hj).does _) rfl ?_
      refine QL.gg (gwF rfl rfl) (fun hg => (fa_el hl.1 (gs hg rfl)).does _) rfl ?_
      refine QL.gg (gwF rfl rfl) (fun hg => ld_el (gs hg rfl) hl H rfl hj rfl) rfl ?_
      refine QL.gg (gwF rfl rfl) (fun hg => (lss (gs hg rfl) rfl).does _) rfl ?_
      refine QL.r (pickOr rfl (fun hn => gs hn rfl)) rfl ?_
      refine QL.r (mvB rfl) rfl ?_
      refine QL.gg (gwF rfl rfl) (fun hg => (mvL rfl).does _) rfl ?_
      refine QL.gg (gwF rfl rfl) (fun hg => (mvI rfl).does _) rfl ?_
      refine QL.gg (gwF rfl rfl) (fun hg => (ix (gs hg rfl) (gs hg rfl) rfl hj).does _) rfl ?_
      refine QL.gg (gwF rfl rfl) (fun hg => (fa_el hl.1 (gs hg rfl)).does _) rfl ?_
      refine QL.gg (gwF rfl rfl) (fun hg => ld_el (gs hg rfl) hl H rfl hj rfl) rfl ?_
      -- call stagecoach/stagecoachref03.Num (tmp 38)
      refine QL.gcall (gwF rfl rfl) (fun hg w' hw' => rNum w' _) (fun hg => EvL.cons (gs hg rfl) EvL.nil) rfl ?_
      first | refine QL.gg (gwF rfl rfl) (fun hg => (notD (gs hg rfl)).does _) rfl ?_ | refine QL.gg (gwF rfl rfl) (fun hg => (not_ (gs hg rfl)).does _) rfl ?_
      refine QL.r (pickOr rfl (fun hn => gs hn rfl)) rfl ?_
      refine QL.r (mvB rfl) rfl ?_
      refine QL.gg (gwF rfl rfl) (fun hg => (mvL rfl).does _) rfl ?_
      refine QL.gg (gwF rfl rfl) (fun hg => (mvI rfl).does _) rfl ?_
      refine QL.gg (gwF rfl rfl) (fun hg => (ix (gs hg rfl) (gs hg rfl) rfl hj).does _) rfl ?_
      refine QL.gg (gwF rfl rfl) (fun hg => (fa_el hl.1 (gs hg rfl)).does _) rfl ?_
      refine QL.gg (gwF rfl rfl) (fun hg => ld_el (gs hg rfl) hl H rfl hj rfl) rfl ?_
      -- call stagecoach/stagecoachref03.Num (tmp 47)
      refine QL.gcall (gwF rfl rfl) (fun hg w' hw' => rNum w' _) (fun hg => EvL.cons (gs hg rfl) EvL.nil) rfl ?_
      first | refine QL.gg (gwF rfl rfl) (fun hg => (notD (gs hg rfl)).does _) rfl ?_ | refine QL.gg (gwF rfl rfl) (fun hg => (not_ (gs hg rfl)).does _) rfl ?_
      refine QL.r (pickOr rfl (fun hn => gs hn rfl)) rfl ?_
      refine QL.nil ?_; intro w6 hx; replace H := H.ext hx
      refine WP.cond rfl (fun hc => ?_) (fun hc => ?_)
      · refine WP.regionS ?_
        refine RL.r (asgB rfl) rfl ?_
        refine RL.nil ?_
        refine WP.ret ?_
        refine fin1_ret rfl ⟨congrArg Value.bool (bF fun h => ?_), H⟩
        obtain ⟨q1, q2, q3, q4, _⟩ := h.2.2 j hj
        rcases hc with ((hc | hc) | hc) | hc
        · exact hc q1
        · omega
        · exact hc q3
        · exact hc q4
      · refine WP.skip ?_
        refine WP.seq ?_
        refine WP.draw (by kernel_rfl) ?_
        refine QL.r (mvI rfl) rfl ?_
        refine QL.r (gtr rfl rfl) rfl ?_
        refine QL.r (mvB rfl) rfl ?_
        refine QL.gg (gwT rfl rfl) (fun hg => (mvL rfl).does _) rfl ?_
        refine QL.gg (gwT rfl rfl) (fun hg => (mvI rfl).does _) rfl ?_
        refine QL.gg (gwT rfl rfl) (fun hg => (ix (gs hg rfl) (gs hg rfl) rfl hj).does _) rfl ?_
        refine QL.gg (gwT rfl rfl) (fun hg => (fa_el hl.1 (gs hg rfl)).does _) rfl ?_
        refine QL.gg (gwT rfl rfl) (fun hg => ld_el (gs hg rfl) hl H rfl hj rfl) rfl ?_
        refine QL.gg (gwT rfl rfl) (fun hg => (mvL rfl).does _) rfl ?_
        refine QL.gg (gwT rfl rfl) (fun hg => (mvI rfl).does _) rfl ?_
        refine QL.gg (gwT rfl rfl) (fun hg => (sub (gs hg rfl) rfl (by omega)).does _) rfl ?_
        refine QL.gg (gwT rfl rfl) (fun hg => (ix (gs hg rfl) (gs hg rfl) (show ((j : Int) - 1) = ((j - 1 : Nat) : Int) by omega) hj1).does _) rfl ?_
        refine QL.gg (gwT rfl rfl) (fun hg => (fa_el hl.1 (gs hg rfl)).does _) rfl ?_
        refine QL.gg (gwT rfl rfl) (fun hg => ld_el (gs hg rfl) hl H rfl hj1 rfl) rfl ?_
        refine QL.gg (gwT rfl rfl) (fun hg => (mvL rfl).does _) rfl ?_
        refine QL.gg (gwT rfl rfl) (fun hg => (mvI rfl).does _) rfl ?_
        refine QL.gg (gwT rfl rfl) (fun hg => (sub (gs hg rfl) rfl (by omega)).does _) rfl ?_
        refine QL.gg (gwT rfl rfl) (fun hg => (ix (gs hg rfl) (gs hg rfl) (show ((j : Int) - 1) = ((j - 1 : Nat) : Int) by omega) hj1).does _) rfl ?_
        refine QL.gg (gwT rfl rfl) (fun hg => (fa_el hl.1 (gs hg rfl)).does _) rfl ?_
        refine QL.gg (gwT rfl rfl) (fun hg => ld_el (gs hg rfl) hl H rfl hj1 rfl) rfl ?_
        refine QL.gg (gwT rfl rfl) (fun hg => (add (gs hg rfl) (gs hg rfl) (by omega)).does _) rfl ?_
        refine QL.gg (gwT rfl rfl) (fun hg => (neq (gs hg rfl) (gs hg rfl)).does _) rfl ?_
        refine QL.r (pickAnd rfl (fun hn => gs hn rfl)) rfl ?_
        refine QL.nil ?_; intro w7 hx; replace H := H.ext hx
        refine WP.cond rfl (fun hc => ?_) (fun hc => ?_)
        · refine WP.regionS ?_
          refine RL.r (asgB rfl) rfl ?_
          refine RL.nil ?_
          refine WP.ret ?_
          refine fin1_ret rfl ⟨congrArg Value.bool (bF fun h => ?_), H⟩
          exact hc.2 ((h.2.2 j hj).2.2.2.2 (by omega))
        · refine WP.skip ?_
          refine WP.region ?_
          refine RL.r (mvI rfl) rfl ?_
          refine RL.r (add rfl rfl (by omega)) rfl ?_
          refine RL.r (asgI rfl) rfl ?_
          refine RL.nil ?_
          have hgood : didAt l j hj := by
            have hc1 := (by assumption : ¬ (((¬ numB l[j].seq ∨ l[j].n < 1) ∨ ¬ numB l[j].n) ∨ ¬ numB l[j].off))
            refine didAt_of hj (Classical.byContradiction fun h => hc1 (.inl (.inl (.inl h)))) (Classical.byContradiction fun h => hc1 (.inl (.inl (.inr (by omega))))) (Classical.byContradiction fun h => hc1 (.inl (.inr h))) (Classical.byContradiction fun h => hc1 (.inr h)) (fun h0 => Classical.byContradiction fun h => hc ⟨by omega, h⟩)
          refine ⟨k - 1, by omega, j + 1, by omega, Head.intro (by repeat (first | with_reducible exact AgreeOff.mix _ _ _ | refine AgreeOff.look rfl ?_ | refine AgreeOff.mixs rfl ?_)) ⟨rfl, trivial⟩, H, fun i h hi => ?_⟩
          by_cases hij : i < j
          · exact hok i h hij
          · obtain rfl : i = j := by omega
            exact hgood
    · refine WP.exit ?_
      refine WP.regionS ?_
      refine RL.r (asgB rfl) rfl ?_
      refine RL.nil ?_
      refine WP.ret ?_
      refine fin1_ret rfl ⟨congrArg Value.bool (bT ⟨by omega, by omega, fun i h => hok i h (by omega)⟩), H⟩
theorem last_at {E : List Int} {S : List Pl} {L : List Maker} (hL : L.map Maker.mk' = S.map (mkP E)) (hs : S.Pairwise bfr) {j : Nat} (hj : j < L.length) {k : DKey} (hk : key L[j] = k) : lastD S k = L[j].last := by
  have h1 := mk_pl hL
  subst h1
  subst hk
  have hn : (L.map key).Nodup := by
    have h2 := srt_nodup hs
    rw [List.map_map] at h2
    exact h2
  exact lastD_at hn (List.getElem_mem hj)
theorem last_no {E : List Int} {S : List Pl} {L : List Maker} (hL : L.map Maker.mk' = S.map (mkP E)) {k : DKey} (hk : ∀ (n : Nat) (h : n < L.length), key L[n] ≠ k) : lastD S k = [] := by
  have h1 := mk_pl hL
  subst h1
  refine lastD_none ?_
  rw [eGet_pl]
  have : eGet L k = none := by
    rw [eGet_none]
    intro x hx
    obtain ⟨n, hn, rfl⟩ := List.getElem_of_mem hx
    exact hk n hn
  rw [this]
  rfl
theorem slE2 {a a' : Option Addr} {n n' c c' : Nat} (h1 : a = a') (h2 : n = n') (h3 : c = c') : Value.slice a n c = Value.slice a' n' c' := by rw [h1, h2, h3]
set_option maxRecDepth 20000 in
theorem rLast (w0 : World) (B i : Nat) (Y : Nat → Prop) (D : Ds) (hR : Tr B w0 i Y D) (K : Int) (M : Nat) (hok : okD K M D) (hM : M ≤ 100000) (id : Int) (p : Part) :
    Ct Try.prog 40 #[.pointer (some ⟨i, 0, none⟩), .int .i64 id, .agg (Lies.enc p).toArray] w0 fun v w' => (∃ la lc, v = .slice la (lastD D.S ⟨id, p⟩).length lc ∧ Sl w' la (lastD D.S ⟨id, p⟩)) ∧ Ext w0 w' := by
  refine Ct.intro1 Try.func40 Try.ntmps40 rfl rfl (by decide) rfl ?_
  have H : Ext w0 w0 := Ext.refl w0
  obtain ⟨a, c, b2, d, L, hQ, hLm, hY⟩ := hR.at_
  have hbt := hQ.box
  have hE := hQ.eps
  have hO := hQ.row
  have hDr := hQ.dr
  have hlen : L.length = D.S.length := by have h9 := congrArg List.length hLm; simpa using h9
  have hcnt := hok.cnt
  refine WP.regionS ?_
  refine RL.boxS w0.heap.size H.size rfl rfl ?_
  intro w1 i5 hi5 hx hb5
  have net_5 := hbt.ne hi5
  replace H := H.ext hx; replace hbt := hbt.ext hx; replace hO := hO.ext hx; clear hx
  refine RL.r (asgL rfl) rfl ?_
  refine RL.nil ?_
  refine WP.seq ?_
  refine WP.regionS ?_
  refine RL.r (asgI rfl) rfl ?_
  refine RL.nil ?_
  refine WP.block ?_
  refine WP.loop (fun k e' w' => ∃ j : Nat,  j + k = L.length ∧ Head [6, 7, 8, 9, 10, 11, 12, 13, 14, 15, 16, 17, 18, 19, 20, 21, 22, 23, 24, 25, 26, 27, 28, 29, 30, 31, 32, 33, 34, 35, 36, 37, 38, 39, 40, 41, 42, 43, 44, 45, 46] _ [(7, .int .i64 (j : Int))] e' ∧ Ext w0 w' ∧ Box B w' i 65 [.slice a D.E.length c, .slice b2 L.length d] ∧ Box w0.heap.size w' i5 25 (Lies.enc p) ∧ Own B w' 33 b2 d L ∧ ∀ (n : Nat) (h : n < L.length), n < j → key L[n] ≠ ⟨id, p⟩) (L.length)
    ⟨0, by omega, Head.intro (AgreeOff.refl _ _) ⟨rfl, trivial⟩, H, hbt, hb5, hO, fun n h hn => by omega⟩ ?_
  clear H hbt hb5 hO
  rintro k e w2 ⟨j, hjk, ⟨jk, rfl⟩, H, hbt, hb5, hO, hok2⟩
  refine WP.seq ?_
  refine WP.regionS ?_
  refine RL.r (mvI rfl) rfl ?_
  refine RL.r (mvP rfl) rfl ?_
  refine RL.r (nilck rfl) rfl ?_
  refine RL.r (fa_box rfl) rfl ?_
  refine RL.m (ld_box rfl hbt rfl) rfl ?_
  refine RL.r (len_sl rfl) rfl ?_
  refine RL.r (lss rfl rfl) rfl ?_
  refine RL.nil ?_
  refine WP.cond rfl (fun hc => ?_) (fun hc => ?_)
  · refine WP.skip ?_
    refine WP.seq ?_
    refine WP.block ?_
    refine WP.seq ?_
    refine WP.draw (by kernel_rfl) ?_
    refine QL.r (mvP rfl) rfl ?_
    refine QL.r (nilck rfl) rfl ?_
    refine QL.r (fa_box rfl) rfl ?_
    refine QL.m (ld_box rfl hbt rfl) rfl ?_
    refine QL.r (mvI rfl) rfl ?_
    have hj : j < L.length := by omega
    obtain ⟨q, hq⟩ := hO.sl.isAddr (by decide) hj
    subst hq
    refine QL.r (ix_o rfl rfl rfl hj (Option.some_ne_none _)) rfl ?_
    refine QL.r (fa_el hO.sl.1 rfl) rfl ?_
    refine QL.m (ld_el rfl hO.sl (Ext.refl _) rfl hj rfl) rfl ?_
    refine QL.r (mvI rfl) rfl ?_
    refine QL.r (eql rfl rfl) rfl ?_
    refine QL.r (mvB rfl) rfl ?_
    refine QL.gg (gwT rfl rfl) (fun hg => (mvP rfl).does _) rfl ?_
    refine QL.gg (gwT rfl rfl) (fun hg => (nilck (gs hg rfl)).does _) rfl ?_
    refine QL.gg (gwT rfl rfl) (fun hg => (fa_box (gs hg rfl)).does _) rfl ?_
    refine QL.gg (gwT rfl rfl) (fun hg => ld_box (gs hg rfl) hbt rfl) rfl ?_
    refine QL.gg (gwT rfl rfl) (fun hg => (mvI rfl).does _) rfl ?_
    refine QL.gg (gwT rfl rfl) (fun hg => (ix_o (gs hg rfl) (gs hg rfl) rfl hj (Option.some_ne_none _)).does _) rfl ?_
    refine QL.gg (gwT rfl rfl) (fun hg => (fa_el hO.sl.1 (gs hg rfl)).does _) rfl ?_
    refine QL.gg (gwT rfl rfl) (fun hg => ldS_ef (gs hg rfl) hO.sl (Ext.refl _) hj rfl (Nat.le_of_ble_eq_true rfl)) rfl ?_
    refine QL.gg (gwT rfl rfl) (fun hg => ldS_box rfl hb5 (Nat.le_of_ble_eq_true rfl) rfl) rfl ?_
    refine QL.gg (gwT rfl rfl) (fun hg => (aeql (α := Part) (p := L[j].part) (q := p) (gs hg rfl) (gs hg rfl)).does _) rfl ?_
    refine QL.r (pickAnd rfl (fun hn => gs hn rfl)) rfl ?_
    refine QL.nil ?_; intro w3 hx; replace H := H.ext hx; replace hbt := hbt.ext hx; replace hb5 := hb5.ext hx; replace hO := hO.ext hx
    refine WP.cond rfl (fun hc => ?_) (fun hc => ?_)
    · refine WP.regionS ?_
      refine RL.r (mvP rfl) rfl ?_
      refine RL.r (nilck rfl) rfl ?_
      refine RL.r (fa_box rfl) rfl ?_
      refine RL.m (ld_box rfl hbt rfl) rfl ?_
      refine RL.r (mvI rfl) rfl ?_
      refine RL.r (ix_o rfl rfl rfl hj (Option.some_ne_none _)) rfl ?_
      refine RL.r (fa_el hO.sl.1 rfl) rfl ?_
      refine RL.m (ld_el rfl hO.sl (Ext.refl _) rfl hj rfl) rfl ?_
      refine RL.r (asgL rfl) rfl ?_
      refine RL.nil ?_
      refine WP.ret ?_
      have hla := last_at hLm hok.srt hj (k := ⟨id, p⟩) (by obtain ⟨h1, h2⟩ := hc; show (⟨L[j].id, L[j].part⟩ : DKey) = ⟨id, p⟩; rw [h1, h2])
      refine fin1_ret rfl ⟨⟨L[j].la, L[j].lc, slE (by rw [hla]), by rw [hla]; exact (hDr _ (List.getElem_mem hj)).sl.ext H⟩, H⟩
    · refine WP.skip ?_
      refine WP.region ?_
      refine RL.r (mvI rfl) rfl ?_
      refine RL.r (add rfl rfl (by omega)) rfl ?_
      refine RL.r (asgI rfl) rfl ?_
      refine RL.nil ?_
      refine ⟨k - 1, by omega, j + 1, by omega, Head.intro (by repeat (first | with_reducible exact AgreeOff.mix _ _ _ | refine AgreeOff.look rfl ?_ | refine AgreeOff.mixs rfl ?_)) ⟨rfl, trivial⟩, H, hbt, hb5, hO, fun n h hn => ?_⟩
      by_cases hij : n < j
      · exact hok2 n h hij
      · obtain rfl : n = j := by omega
        intro e
        refine hc ⟨congrArg DKey.id e, congrArg DKey.part e⟩
  · refine WP.exit ?_
    refine WP.regionS ?_
    refine RL.r (asgL rfl) rfl ?_
    refine RL.nil ?_
    refine WP.ret ?_
    have hla := last_no hLm (k := ⟨id, p⟩) (fun n h => hok2 n h (by omega))
    refine fin1_ret rfl ⟨⟨none, 0, by rw [hla]; rfl, by rw [hla]; rfl⟩, H⟩
end Go.Proofs.Ytbggmjnhfacjpaa
