/-
  Catalogs: what they hold, as lists in order; the walks of New, Make, Grow, Drop, Has, N.
-/
import Derived.Test.YtdcckaamepilcaaNames
import Derived.Test.YtdcckaamepilcaaSlt
import Derived.Test.YtdcckaamepilcaaPre
import Derived.Test.YtdcckaamepilcaaEnt
import Derived.Test.YtdcckaamepilcaaSlc
import Derived.Test.YtdcckaamepilcaaVals
import Derived.Test.YtdcckaamepilcaaGrid
import Derived.Test.YtdcckaamepilcaaTab
import Derived.Test.YtdcckaamepilcaaRng
set_option linter.unusedVariables false
namespace Go.Proofs.Ytdcckaamepilcaa
open Go Go.Eng Go.RowKit
theorem tupE {p : Option Addr} {x y : Int} (h : x = y) : Value.tuple #[.pointer p, .int .i64 x] = Value.tuple #[.pointer p, .int .i64 y] := by rw [h]
def topicOk (t : Topic) : Prop := nameB t.name ∧ 1 ≤ t.n ∧ t.n ≤ 8
noncomputable instance (t : Topic) : Decidable (topicOk t) := inferInstanceAs (Decidable (_ ∧ _))
def topicAt (l : List Topic) (i : Nat) (h : i < l.length) : Prop := topicOk l[i] ∧ (0 < i → slt l[i - 1].name l[i].name)
noncomputable instance (l : List Topic) (i : Nat) (h : i < l.length) : Decidable (topicAt l i h) := inferInstanceAs (Decidable (_ ∧ _))
def topicsOk (l : List Topic) : Prop := ∀ (i : Nat) (h : i < l.length), topicAt l i h
noncomputable instance (l : List Topic) : Decidable (topicsOk l) := Nat.decidableBallLT _ _
noncomputable def topicsE (l : List Topic) : Int := if 8 < l.length then 2 else if topicsOk l then 0 else 1
theorem intE {x y : Int} (h : x = y) : Value.int .i64 x = .int .i64 y := by rw [h]
/-- topics that may be a catalog's -/
structure okC (S : List Topic) : Prop where
  srt : S.Pairwise bfr
  may : ∀ x ∈ S, topicOk x
  len : S.length ≤ 8
theorem okC0 : okC [] := ⟨List.Pairwise.nil, (fun x hx => by cases hx), by simp⟩
noncomputable def makeE (S : List Topic) (t : Topic) : Int := if ¬ topicOk t then 1 else if eGet S t.name ≠ none then 90 else if 8 ≤ S.length then 2 else 0
noncomputable def makeC (S : List Topic) (t : Topic) : List Topic := if makeE S t = 0 then ePut S t else S
def nC (S : List Topic) (name : ByteArray) : Int := ((eGet S name).map Topic.n).getD 0
def growE (S : List Topic) (t : Topic) : Int := if eGet S t.name = none then 91 else if t.n < nC S t.name ∨ 8 < t.n then 1 else 0
def growC (S : List Topic) (t : Topic) : List Topic := if growE S t = 0 then ePut S t else S
def dropE (S : List Topic) (name : ByteArray) : Int := if eGet S name = none then 91 else 0
def dropC (S : List Topic) (name : ByteArray) : List Topic := eDel S name
theorem okC_put {S : List Topic} (h : okC S) {t : Topic} (ht : topicOk t) (hl : eGet S t.name ≠ none ∨ S.length < 8) : okC (ePut S t) := by
  refine ⟨ePut_sorted h.srt t, fun x hx => ?_, ?_⟩
  · rcases ePut_mem.1 hx with rfl | ⟨h1, _⟩
    · exact ht
    · exact h.may x h1
  · have hl2 := ePut_len (srt_nodup h.srt) t
    have hle := h.len
    rw [hl2]
    split
    · exact hle
    · rename_i h3
      rcases hl with hl | hl
      · exact absurd (Option.isSome_iff_ne_none.2 (show eGet S (key t) ≠ none from hl)) h3
      · omega
theorem okC_make {S : List Topic} (h : okC S) (t : Topic) : okC (makeC S t) := by
  unfold makeC
  split
  · rename_i he
    unfold makeE at he
    split at he
    · cases he
    · rename_i hm
      split at he
      · cases he
      · split at he
        · cases he
        · exact okC_put h (Classical.not_not.1 hm) (.inr (by omega))
  · exact h
theorem nC_some {S : List Topic} {name : ByteArray} {x : Topic} (h : eGet S name = some x) : nC S name = x.n := by unfold nC; rw [h]; rfl
theorem grow_ok {S : List Topic} (h : okC S) {t : Topic} (he : growE S t = 0) : topicOk t ∧ eGet S t.name ≠ none := by
  unfold growE at he
  split at he
  · cases he
  · rename_i hn
    split at he
    · cases he
    · rename_i h2
      obtain ⟨x, hx⟩ := Option.ne_none_iff_exists'.1 hn
      obtain ⟨h3, h4⟩ := eGet_some hx
      have h5 := h.may x h3
      rw [nC_some hx] at h2
      refine ⟨⟨?_, ?_, ?_⟩, hn⟩
      · have : x.name = t.name := h4
        rw [← this]; exact h5.1
      · have := h5.2.1; omega
      · omega
theorem okC_grow {S : List Topic} (h : okC S) (t : Topic) : okC (growC S t) := by
  unfold growC
  split
  · rename_i he
    obtain ⟨h1, h2⟩ := grow_ok h he
    exact okC_put h h1 (.inl h2)
  · exact h
theorem okC_drop {S : List Topic} (h : okC S) (name : ByteArray) : okC (dropC S name) :=
  ⟨eDel_sorted h.srt _, fun x hx => h.may x (eDel_mem.1 hx).1, Nat.le_trans (eDel_le _ _) h.len⟩
theorem tget {lb : List (ByteArray × Value × Nat)} {S : List Topic} (h : Rep lb S) (hn : (lb.map (·.1)).Nodup) (k : ByteArray) : getB lb k = ((eGet S k).map Topic.n).map (Value.int .i64) := by
  rw [rep_get h hn, Option.map_map]
  rfl
theorem map_none {S : List Topic} {k : ByteArray} : (eGet S k).map Topic.n = none ↔ eGet S k = none := by cases eGet S k <;> simp
theorem box_nt {B B' b b' : Nat} {w : World} {T T' : TypeId} {cs cs' : List Value} (h : Box B w b T cs) (h' : Box B' w b' T' cs') (hT : T ≠ T') : b ≠ b' := by
  rintro rfl
  have h1 := h.at_
  rw [h'.at_] at h1
  injection h1 with h1
  injection h1 with _ h2
  exact hT h2.symm
/-! ### the catalog -/
structure Tc (B : Nat) (w : World) (i m : Nat) (S : List Topic) : Prop where
  box : Box B w i 60 [.map (some m)]
  map : ∃ (lb : List (ByteArray × Value × Nat)) (c : Nat), MpB Try.prog 9 B w m lb c ∧ Rep lb S
  ok : okC S
theorem Tc.ext {B i m : Nat} {w w' : World} {S : List Topic} (h : Tc B w i m S) (k : Ext w w') : Tc B w' i m S :=
  let ⟨lb, c, h1, h2⟩ := h.map
  ⟨h.box.ext k, ⟨lb, c, h1.ext k, h2⟩, h.ok⟩
theorem Tc.upd {X : Nat → Prop} {B i m : Nat} {w w' : World} {S : List Topic} (h : Tc B w i m S) (k : Upd X w w') (h1 : ¬ X i) (h2 : ¬ X m) : Tc B w' i m S :=
  let ⟨lb, c, h3, h4⟩ := h.map
  ⟨h.box.upd k h1, ⟨lb, c, h3.upd k h2, h4⟩, h.ok⟩
theorem Tc.old {B i m : Nat} {w : World} {S : List Topic} (h : Tc B w i m S) : B ≤ m := let ⟨_, _, h3, _⟩ := h.map; h3.old
theorem Tc.lt {B i m : Nat} {w : World} {S : List Topic} (h : Tc B w i m S) : m < w.heap.size := let ⟨_, _, h3, _⟩ := h.map; h3.blk
theorem Tc.mono {B B' i m : Nat} {w : World} {S : List Topic} (h : Tc B w i m S) (k : B' ≤ B) : Tc B' w i m S :=
  let ⟨lb, c, h1, h2⟩ := h.map
  ⟨⟨Nat.le_trans k h.box.old, h.box.at_⟩, ⟨lb, c, h1.mono k, h2⟩, h.ok⟩
theorem Tc.neb {B i m : Nat} {w : World} {S : List Topic} (h : Tc B w i m S) {B' b : Nat} {T : TypeId} {cs : List Value} (hb : Box B' w b T cs) : b ≠ m := let ⟨_, _, h3, _⟩ := h.map; fun e => h3.neb hb e.symm
theorem Tc.nea {α : Type} [Lies α] {B i m : Nat} {w : World} {S : List Topic} (h : Tc B w i m S) {B' c' : Nat} {T : TypeId} {a : Option Addr} {l : List α} (ho : Eng.Own B' w T a c' l) : ¬ inBlock a m := let ⟨_, _, h3, _⟩ := h.map; h3.nea ho
theorem Tc.bx {B B' i m b : Nat} {w w' : World} {S : List Topic} {T : TypeId} {cs : List Value} (h : Tc B w i m S) (hb : Box B' w b T cs) (hT : 60 ≠ T) (k : Upd (· = b) w w') : Tc B w' i m S :=
  h.upd k (box_nt h.box hb hT) (fun e => h.neb hb e.symm)
theorem Tc.ow {α : Type} [Lies α] {B B' i m c : Nat} {w w' : World} {S : List Topic} {T : TypeId} {a : Option Addr} {l : List α} (h : Tc B w i m S) (ho : Eng.Own B' w T a c l) (hT : T ≠ 60) (k : Upd (inBlock a) w w') : Tc B w' i m S :=
  h.upd k (ho.box_apart h.box hT) (h.nea ho)
theorem tc_new {B i m : Nat} {w : World} (hb : Box B w i 60 [.map (some m)]) (hm : MpB Try.prog 9 B w m ([] : List (ByteArray × Value × Nat)) 0) : Tc B w i m [] :=
  ⟨hb, ⟨[], _, hm, List.Perm.refl _⟩, okC0⟩
theorem pNew (w0 : World) :
    Ct Try.prog 14 #[] w0 fun v w' => (∃ i m, v = .pointer (some ⟨i, 0, none⟩) ∧ Tc w0.heap.size w' i m []) ∧ Ext w0 w' := by
  refine Ct.intro1 Try.func14 Try.ntmps14 rfl rfl (by decide) rfl ?_
  have H : Ext w0 w0 := Ext.refl w0
  refine WP.regionS ?_
  refine RL.r (asgP rfl) rfl ?_
  refine RL.nil ?_
  refine WP.regionS ?_
  refine RL.makeM w0.heap.size H.size rfl 9 ByteArray ?_
  intro w1 i1 hi1 hx hm
  replace H := H.ext hx; clear hx
  refine RL.r (bld rfl rfl) rfl ?_
  refine RL.boxS w0.heap.size H.size rfl rfl ?_
  intro w2 i3 hi3 hx hb3
  replace H := H.ext hx; replace hm := hm.ext hx; clear hx
  refine RL.r (asgP rfl) rfl ?_
  refine RL.nil ?_
  refine WP.ret ?_
  refine fin1_ret rfl ⟨⟨_, _, rfl, tc_new (by assumption) hm⟩, H⟩
theorem pMake (w0 : World) (B i m : Nat) (S : List Topic) (hT : Tc B w0 i m S) (name : ByteArray) (n : Int) :
    Ct Try.prog 15 #[.pointer (some ⟨i, 0, none⟩), .string name, .int .i64 n] w0 fun v w' => (v = .int .i64 (makeE S ⟨name, n⟩) ∧ Tc B w' i m (makeC S ⟨name, n⟩)) ∧ Upd (· = m) w0 w' := by
  refine Ct.intro1 Try.func15 Try.ntmps15 rfl rfl (by decide) rfl ?_
  have H : Upd (· = m) w0 w0 := Upd.refl _ w0
  obtain ⟨lb, c, hm, hr⟩ := hT.map
  have hbt := hT.box
  have hok := hT.ok
  have hln := rep_len hr
  have hle8 := hok.len
  refine WP.regionS ?_
  refine RL.r (asgI rfl) rfl ?_
  refine RL.nil ?_
  refine WP.regionS ?_
  refine RL.r (mvP rfl) rfl ?_
  refine RL.r (nilck rfl) rfl ?_
  refine RL.r (fa_box rfl) rfl ?_
  refine RL.m (ld_box rfl hbt rfl) rfl ?_
  refine RL.r (mvS rfl) rfl ?_
  refine RL.m (lkOI (k := name) rfl hm rfl ((tget hr hm.nod _))) rfl ?_
  refine RL.r (mvU rfl) rfl ?_
  refine RL.r (ex0 rfl) rfl ?_
  refine RL.r (ex1 rfl) rfl ?_
  refine RL.r (asgI rfl) rfl ?_
  refine RL.r (asgB rfl) rfl ?_
  refine RL.nil ?_
  refine WP.seq ?_
  refine WP.block ?_
  refine WP.regionS ?_
  refine RL.r (mvS rfl) rfl ?_
  refine RL.r (mvI rfl) rfl ?_
  -- call stagecoach/topics.may (tmp 19) (tmp 20)
  refine RL.call (pMay _ name n) rfl rfl ?_
  rintro _ w1 ⟨rfl, hx⟩
  replace H := H.ext hx; replace hbt := hbt.ext hx; replace hm := hm.ext hx
  first | refine RL.r (notD rfl) rfl ?_ | refine RL.r (not_ rfl) rfl ?_
  refine RL.r (asgB rfl) rfl ?_
  refine RL.nil ?_
  refine WP.cond rfl (fun hc => ?_) (fun hc => ?_)
  · refine WP.regionS ?_
    refine RL.r (asgI rfl) rfl ?_
    refine RL.nil ?_
    refine WP.ret ?_
    have hE : makeE S ⟨name, n⟩ = 1 := by unfold makeE; rw [if_pos (show ¬ topicOk ⟨name, n⟩ from hc)]
    refine fin1_ret rfl ⟨⟨intE hE.symm, by unfold makeC; rw [if_neg (by rw [hE]; decide)]; exact ⟨hbt, ⟨lb, c, hm, hr⟩, hok⟩⟩, H⟩
  · refine WP.regionS ?_
    refine RL.r (mvB rfl) rfl ?_
    refine RL.r (asgB rfl) rfl ?_
    refine RL.nil ?_
    refine WP.cond rfl (fun hc => ?_) (fun hc => ?_)
    · refine WP.regionS ?_
      refine RL.r (asgI rfl) rfl ?_
      refine RL.nil ?_
      refine WP.ret ?_
      have hE : makeE S ⟨name, n⟩ = 90 := by unfold makeE; rw [if_neg (by assumption), if_pos (fun h => hc (map_none.2 h))]
      refine fin1_ret rfl ⟨⟨intE hE.symm, by unfold makeC; rw [if_neg (by rw [hE]; decide)]; exact ⟨hbt, ⟨lb, c, hm, hr⟩, hok⟩⟩, H⟩
    · refine WP.regionS ?_
      refine RL.r (mvP rfl) rfl ?_
      refine RL.r (nilck rfl) rfl ?_
      refine RL.r (fa_box rfl) rfl ?_
      refine RL.m (ld_box rfl hbt rfl) rfl ?_
      refine RL.m (lenMB rfl hm) rfl ?_
      refine RL.r (geq rfl rfl) rfl ?_
      refine RL.r (asgB rfl) rfl ?_
      refine RL.nil ?_
      refine WP.cond rfl (fun hc => ?_) (fun hc => ?_)
      · refine WP.regionS ?_
        refine RL.r (asgI rfl) rfl ?_
        refine RL.nil ?_
        refine WP.ret ?_
        have hE : makeE S ⟨name, n⟩ = 2 := by unfold makeE; rw [if_neg (by assumption), if_neg (fun h => (show ¬ ((eGet S name).map Topic.n ≠ none) from by assumption) (fun h2 => h (map_none.1 h2))), if_pos (by omega)]
        refine fin1_ret rfl ⟨⟨intE hE.symm, by unfold makeC; rw [if_neg (by rw [hE]; decide)]; exact ⟨hbt, ⟨lb, c, hm, hr⟩, hok⟩⟩, H⟩
      · refine WP.skip ?_
        refine WP.regionS ?_
        refine RL.r (mvP rfl) rfl ?_
        refine RL.r (nilck rfl) rfl ?_
        refine RL.r (fa_box rfl) rfl ?_
        refine RL.m (ld_box rfl hbt rfl) rfl ?_
        refine RL.r (mvS rfl) rfl ?_
        refine RL.r (mvI rfl) rfl ?_
        refine RL.updM (k := name) (v := .int .i64 n) rfl hm rfl rfl ?_
        intro w2 hu hm'
        replace hbt := hbt.upd hu (fun e => hm.neb hbt e.symm)
        replace H := Upd.same H hu
        refine RL.nil ?_
        refine WP.regionS ?_
        refine RL.r (asgI rfl) rfl ?_
        refine RL.nil ?_
        refine WP.ret ?_
        have hno : eGet S name = none := Classical.byContradiction fun h => (show ¬ ((eGet S name).map Topic.n ≠ none) from by assumption) (fun h2 => h (map_none.1 h2))
        have hE : makeE S ⟨name, n⟩ = 0 := by unfold makeE; rw [if_neg (by assumption), if_neg (not_not_intro hno), if_neg (by omega)]
        have hC : makeC S ⟨name, n⟩ = ePut S ⟨name, n⟩ := by unfold makeC; rw [if_pos hE]
        refine fin1_ret rfl ⟨⟨intE hE.symm, by rw [hC]; exact ⟨hbt, ⟨_, _, hm', rep_put (m := (⟨name, n⟩ : Topic)) hr hm.nod _⟩, hC ▸ okC_make hok ⟨name, n⟩⟩⟩, H⟩
theorem pN (w0 : World) (B i m : Nat) (S : List Topic) (hT : Tc B w0 i m S) (name : ByteArray) :
    Ct Try.prog 17 #[.pointer (some ⟨i, 0, none⟩), .string name] w0 fun v w' => v = .int .i64 (nC S name) ∧ Ext w0 w' := by
  refine Ct.intro1 Try.func17 Try.ntmps17 rfl rfl (by decide) rfl ?_
  have H : Ext w0 w0 := Ext.refl w0
  obtain ⟨lb, c, hm, hr⟩ := hT.map
  have hbt := hT.box
  have hok := hT.ok
  have hln := rep_len hr
  have hle8 := hok.len
  refine WP.regionS ?_
  refine RL.r (asgI rfl) rfl ?_
  refine RL.nil ?_
  refine WP.regionS ?_
  refine RL.r (mvP rfl) rfl ?_
  refine RL.r (nilck rfl) rfl ?_
  refine RL.r (fa_box rfl) rfl ?_
  refine RL.m (ld_box rfl hbt rfl) rfl ?_
  refine RL.r (mvS rfl) rfl ?_
  refine RL.m (lkMI (k := name) rfl hm rfl ((tget hr hm.nod _))) rfl ?_
  refine RL.r (asgI rfl) rfl ?_
  refine RL.nil ?_
  refine WP.ret ?_
  refine fin1_ret rfl ⟨rfl, H⟩
theorem pGrow (w0 : World) (B i m : Nat) (S : List Topic) (hT : Tc B w0 i m S) (name : ByteArray) (n : Int) :
    Ct Try.prog 21 #[.pointer (some ⟨i, 0, none⟩), .string name, .int .i64 n] w0 fun v w' => (v = .int .i64 (growE S ⟨name, n⟩) ∧ Tc B w' i m (growC S ⟨name, n⟩)) ∧ Upd (· = m) w0 w' := by
  refine Ct.intro1 Try.func21 Try.ntmps21 rfl rfl (by decide) rfl ?_
  have H : Upd (· = m) w0 w0 := Upd.refl _ w0
  obtain ⟨lb, c, hm, hr⟩ := hT.map
  have hbt := hT.box
  have hok := hT.ok
  have hln := rep_len hr
  have hle8 := hok.len
  refine WP.regionS ?_
  refine RL.r (asgI rfl) rfl ?_
  refine RL.nil ?_
  refine WP.regionS ?_
  refine RL.r (mvP rfl) rfl ?_
  refine RL.r (nilck rfl) rfl ?_
  refine RL.r (fa_box rfl) rfl ?_
  refine RL.m (ld_box rfl hbt rfl) rfl ?_
  refine RL.r (mvS rfl) rfl ?_
  refine RL.m (lkOI (k := name) rfl hm rfl ((tget hr hm.nod _))) rfl ?_
  refine RL.r (mvU rfl) rfl ?_
  refine RL.r (ex0 rfl) rfl ?_
  refine RL.r (ex1 rfl) rfl ?_
  refine RL.r (asgI rfl) rfl ?_
  refine RL.r (asgB rfl) rfl ?_
  refine RL.nil ?_
  refine WP.seq ?_
  refine WP.block ?_
  refine WP.regionS ?_
  refine RL.r (mvB rfl) rfl ?_
  first | refine RL.r (notD rfl) rfl ?_ | refine RL.r (not_ rfl) rfl ?_
  refine RL.r (asgB rfl) rfl ?_
  refine RL.nil ?_
  refine WP.cond rfl (fun hc => ?_) (fun hc => ?_)
  · refine WP.regionS ?_
    refine RL.r (asgI rfl) rfl ?_
    refine RL.nil ?_
    refine WP.ret ?_
    have hE : growE S ⟨name, n⟩ = 91 := by unfold growE; rw [if_pos (map_none.1 (Classical.not_not.1 hc))]
    refine fin1_ret rfl ⟨⟨intE hE.symm, by unfold growC; rw [if_neg (by rw [hE]; decide)]; exact ⟨hbt, ⟨lb, c, hm, hr⟩, hok⟩⟩, H⟩
  · refine WP.seq (WP.quiet ?_)
    refine QL.r (mvI rfl) rfl ?_
    refine QL.r (mvI rfl) rfl ?_
    refine QL.r (lss rfl rfl) rfl ?_
    refine QL.r (mvB rfl) rfl ?_
    refine QL.gg (gwF rfl rfl) (fun hg => (mvI rfl).does _) rfl ?_
    refine QL.gg (gwF rfl rfl) (fun hg => (gtr (gs hg rfl) rfl).does _) rfl ?_
    refine QL.r (pickOr rfl (fun hn => gs hn rfl)) rfl ?_
    refine QL.r (asgB rfl) rfl ?_
    refine QL.nil ?_; intro w1 hx; replace H := H.ext hx; replace hbt := hbt.ext hx; replace hm := hm.ext hx
    refine WP.cond rfl (fun hc => ?_) (fun hc => ?_)
    · refine WP.regionS ?_
      refine RL.r (asgI rfl) rfl ?_
      refine RL.nil ?_
      refine WP.ret ?_
      have hne : ¬ eGet S name = none := fun h => absurd (show ¬ ((eGet S name).map Topic.n ≠ none) from fun h2 => h2 (map_none.2 h)) (by assumption)
      have hE : growE S ⟨name, n⟩ = 1 := by unfold growE; rw [if_neg hne, if_pos (show n < nC S name ∨ 8 < n from hc)]
      refine fin1_ret rfl ⟨⟨intE hE.symm, by unfold growC; rw [if_neg (by rw [hE]; decide)]; exact ⟨hbt, ⟨lb, c, hm, hr⟩, hok⟩⟩, H⟩
    · refine WP.skip ?_
      refine WP.regionS ?_
      refine RL.r (mvP rfl) rfl ?_
      refine RL.r (nilck rfl) rfl ?_
      refine RL.r (fa_box rfl) rfl ?_
      refine RL.m (ld_box rfl hbt rfl) rfl ?_
      refine RL.r (mvS rfl) rfl ?_
      refine RL.r (mvI rfl) rfl ?_
      refine RL.updM (k := name) (v := .int .i64 n) rfl hm rfl rfl ?_
      intro w2 hu hm'
      replace hbt := hbt.upd hu (fun e => hm.neb hbt e.symm)
      replace H := Upd.same H hu
      refine RL.nil ?_
      refine WP.regionS ?_
      refine RL.r (asgI rfl) rfl ?_
      refine RL.nil ?_
      refine WP.ret ?_
      have hne : ¬ eGet S name = none := fun h => absurd (show ¬ ((eGet S name).map Topic.n ≠ none) from fun h2 => h2 (map_none.2 h)) (by assumption)
      have hE : growE S ⟨name, n⟩ = 0 := by unfold growE; rw [if_neg hne, if_neg (show ¬ (n < nC S name ∨ 8 < n) from by assumption)]
      have hC : growC S ⟨name, n⟩ = ePut S ⟨name, n⟩ := by unfold growC; rw [if_pos hE]
      refine fin1_ret rfl ⟨⟨intE hE.symm, by rw [hC]; exact ⟨hbt, ⟨_, _, hm', rep_put (m := (⟨name, n⟩ : Topic)) hr hm.nod _⟩, hC ▸ okC_grow hok ⟨name, n⟩⟩⟩, H⟩
theorem pDrop (w0 : World) (B i m : Nat) (S : List Topic) (hT : Tc B w0 i m S) (name : ByteArray) :
    Ct Try.prog 20 #[.pointer (some ⟨i, 0, none⟩), .string name] w0 fun v w' => (v = .int .i64 (dropE S name) ∧ Tc B w' i m (dropC S name)) ∧ Upd (· = m) w0 w' := by
  refine Ct.intro1 Try.func20 Try.ntmps20 rfl rfl (by decide) rfl ?_
  have H : Upd (· = m) w0 w0 := Upd.refl _ w0
  obtain ⟨lb, c, hm, hr⟩ := hT.map
  have hbt := hT.box
  have hok := hT.ok
  have hln := rep_len hr
  have hle8 := hok.len
  refine WP.regionS ?_
  refine RL.r (asgI rfl) rfl ?_
  refine RL.nil ?_
  refine WP.seq ?_
  refine WP.regionS ?_
  refine RL.r (mvP rfl) rfl ?_
  refine RL.r (nilck rfl) rfl ?_
  refine RL.r (fa_box rfl) rfl ?_
  refine RL.m (ld_box rfl hbt rfl) rfl ?_
  refine RL.r (mvS rfl) rfl ?_
  refine RL.m (lkOI (k := name) rfl hm rfl ((tget hr hm.nod _))) rfl ?_
  refine RL.r (mvU rfl) rfl ?_
  refine RL.r (ex0 rfl) rfl ?_
  refine RL.r (ex1 rfl) rfl ?_
  refine RL.r (asgI rfl) rfl ?_
  refine RL.r (asgB rfl) rfl ?_
  refine RL.nil ?_
  refine WP.regionS ?_
  refine RL.r (mvB rfl) rfl ?_
  first | refine RL.r (notD rfl) rfl ?_ | refine RL.r (not_ rfl) rfl ?_
  refine RL.nil ?_
  refine WP.cond rfl (fun hc => ?_) (fun hc => ?_)
  · refine WP.regionS ?_
    refine RL.r (asgI rfl) rfl ?_
    refine RL.nil ?_
    refine WP.ret ?_
    have h0 : eGet S name = none := map_none.1 (Classical.not_not.1 hc)
    have hE : dropE S name = 91 := by unfold dropE; rw [if_pos h0]
    refine fin1_ret rfl ⟨⟨intE hE.symm, by unfold dropC; rw [eDel_none h0]; exact ⟨hbt, ⟨lb, c, hm, hr⟩, hok⟩⟩, H⟩
  · refine WP.skip ?_
    refine WP.regionS ?_
    refine RL.r (mvP rfl) rfl ?_
    refine RL.r (nilck rfl) rfl ?_
    refine RL.r (fa_box rfl) rfl ?_
    refine RL.m (ld_box rfl hbt rfl) rfl ?_
    refine RL.r (mvS rfl) rfl ?_
    refine RL.delM0 (k := name) rfl hm rfl ?_
    intro w1 hu hm'
    replace hbt := hbt.upd hu (fun e => hm.neb hbt e.symm)
    replace H := Upd.same H hu
    refine RL.nil ?_
    refine WP.regionS ?_
    refine RL.r (asgI rfl) rfl ?_
    refine RL.nil ?_
    refine WP.ret ?_
    have hne : ¬ eGet S name = none := fun h => absurd (show ¬ ((eGet S name).map Topic.n ≠ none) from fun h2 => h2 (map_none.2 h)) (by assumption)
    have hE : dropE S name = 0 := by unfold dropE; rw [if_neg hne]
    refine fin1_ret rfl ⟨⟨intE hE.symm, hbt, ⟨_, _, hm', rep_del hr name⟩, okC_drop hok name⟩, H⟩
theorem pHas (w0 : World) (B i m : Nat) (S : List Topic) (hT : Tc B w0 i m S) (p : Part) :
    Ct Try.prog 18 #[.pointer (some ⟨i, 0, none⟩), .agg (Lies.enc p).toArray] w0 fun v w' => v = .bool (decide (0 ≤ p.n ∧ p.n < nC S p.topic)) ∧ Ext w0 w' := by
  refine Ct.intro1 Try.func18 Try.ntmps18 rfl rfl (by decide) rfl ?_
  have H : Ext w0 w0 := Ext.refl w0
  obtain ⟨lb, c, hm, hr⟩ := hT.map
  have hbt := hT.box
  have hok := hT.ok
  have hln := rep_len hr
  have hle8 := hok.len
  refine WP.regionS ?_
  refine RL.boxS w0.heap.size H.size rfl rfl ?_
  intro w1 i3 hi3 hx hb3
  have net_3 := hbt.ne hi3
  replace H := H.ext hx; replace hbt := hbt.ext hx; replace hm := hm.ext hx; clear hx
  refine RL.r (asgB rfl) rfl ?_
  refine RL.nil ?_
  refine WP.seq ?_
  refine WP.draw (by kernel_rfl) ?_
  refine QL.r (fa_box rfl) rfl ?_
  refine QL.m (ld_box rfl hb3 rfl) rfl ?_
  refine QL.r (geq rfl rfl) rfl ?_
  refine QL.r (mvB rfl) rfl ?_
  refine QL.gg (gwT rfl rfl) (fun hg => (fa_box rfl).does _) rfl ?_
  refine QL.gg (gwT rfl rfl) (fun hg => ld_box (gs hg rfl) hb3 rfl) rfl ?_
  refine QL.gg (gwT rfl rfl) (fun hg => (mvP rfl).does _) rfl ?_
  refine QL.gg (gwT rfl rfl) (fun hg => (nilck (gs hg rfl)).does _) rfl ?_
  refine QL.gg (gwT rfl rfl) (fun hg => (fa_box (gs hg rfl)).does _) rfl ?_
  refine QL.gg (gwT rfl rfl) (fun hg => ld_box (gs hg rfl) hbt rfl) rfl ?_
  refine QL.gg (gwT rfl rfl) (fun hg => (fa_box rfl).does _) rfl ?_
  refine QL.gg (gwT rfl rfl) (fun hg => ld_box (gs hg rfl) hb3 rfl) rfl ?_
  refine QL.gg (gwT rfl rfl) (fun hg => lkMI (k := p.topic) (gs hg rfl) hm (gs hg rfl) ((tget hr hm.nod _))) rfl ?_
  refine QL.gg (gwT rfl rfl) (fun hg => (lss (gs hg rfl) (gs hg rfl)).does _) rfl ?_
  refine QL.r (pickAnd rfl (fun hn => gs hn rfl)) rfl ?_
  refine QL.r (asgB rfl) rfl ?_
  refine QL.nil ?_; intro w2 hx; replace H := H.ext hx; replace hbt := hbt.ext hx; replace hb3 := hb3.ext hx; replace hm := hm.ext hx
  refine WP.ret ?_
  refine fin1_ret rfl ⟨rfl, H⟩
end Go.Proofs.Ytdcckaamepilcaa
