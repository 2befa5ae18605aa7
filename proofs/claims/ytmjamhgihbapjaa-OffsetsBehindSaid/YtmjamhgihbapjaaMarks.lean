/-
  Marks: when they may be, which stands ahead of which; the walks of what compares them.
-/
import Derived.Test.YtmjamhgihbapjaaNames
import Derived.Test.YtmjamhgihbapjaaTab
import Derived.Test.YtmjamhgihbapjaaPre
import Derived.Test.YtmjamhgihbapjaaGrid
import Derived.Test.YtmjamhgihbapjaaSlc
set_option linter.unusedVariables false
namespace Go.Proofs.Ytmjamhgihbapjaa
open Go Go.Eng Go.RowKit
@[reducible] instance keyT : KeyT Try.prog 62 MKey := KeyS.keyT (s := 24) ⟨⟨Try.underlying24, by kernel_rfl, Try.underlying9, Try.underlying3, rfl, rfl, by decide, by decide, by obtain ⟨i, h1, h2, _⟩ := (inf24).h; exact ⟨i, h1, h2⟩⟩, Try.underlying62, by kernel_rfl, Try.underlying9, rfl, rfl, rfl, by decide, by decide⟩
instance eqMark : EqS Try.prog 26 Mrk := MarkS.eqs (s := 24) ⟨⟨Try.underlying24, by kernel_rfl, Try.underlying9, Try.underlying3, rfl, rfl, by decide, by decide, by obtain ⟨i, h1, h2, _⟩ := (inf24).h; exact ⟨i, h1, h2⟩⟩, Try.underlying26, by kernel_rfl, Try.underlying9, rfl, Try.underlying3, rfl, rfl, rfl, by decide, by decide, by decide⟩ (by kernel_rfl)
instance eqPart : EqS Try.prog 24 Part := eqs_pair (s0 := Part.topic) (n0 := Part.n) Try.underlying24 (by kernel_rfl) (by kernel_rfl) Try.underlying9 Try.underlying3 rfl rfl (by decide) (by decide) (fun x => rfl) (fun x y h1 h2 => by cases x; cases y; simp_all)
theorem enc_key (k : MKey) : KeyT.enc Try.prog 62 k = .agg (Lies.enc k).toArray := rfl
/-! ### the order of texts -/
theorem blt_trans : ∀ (a b c : List UInt8), Op.bytesLess a b = true → Op.bytesLess b c = true → Op.bytesLess a c = true
  | _, _, [], _, h => by cases ‹List UInt8› <;> simp [Op.bytesLess] at h
  | _, [], _ :: _, h, _ => by cases ‹List UInt8› <;> simp [Op.bytesLess] at h
  | [], _ :: _, _ :: _, _, _ => rfl
  | x :: a, y :: b, z :: c, h1, h2 => by
    simp only [Op.bytesLess, Bool.or_eq_true, Bool.and_eq_true, decide_eq_true_eq, beq_iff_eq] at h1 h2 ⊢
    rcases h1 with h1 | ⟨rfl, h1⟩
    · rcases h2 with h2 | ⟨rfl, h2⟩
      · left; exact UInt8.lt_trans h1 h2
      · left; exact h1
    · rcases h2 with h2 | ⟨rfl, h2⟩
      · left; exact h2
      · right; exact ⟨rfl, blt_trans a b c h1 h2⟩
theorem slt_trans {a b c : ByteArray} (h : slt a b) (k : slt b c) : slt a c := blt_trans _ _ _ h k
theorem slt_irrefl (a : ByteArray) : ¬ slt a a := by
  intro h
  have key : ∀ l : List UInt8, Op.bytesLess l l = false := by
    intro l
    induction l with
    | nil => rfl
    | cons x l ih => simp [Op.bytesLess, ih]
  unfold slt at h
  rw [key] at h
  cases h
theorem slt_tri {a b : ByteArray} (h : a ≠ b) : slt a b ∨ slt b a := by
  unfold slt
  rw [bytesLess_total a.toList b.toList]
  cases h1 : Op.bytesLess b.toList a.toList
  · left
    have h2 : (b.toList == a.toList) = false := by rw [toList_beq]; simp; exact Ne.symm h
    rw [h2]; rfl
  · exact .inr rfl
theorem slt_asymm {a b : ByteArray} (h : slt a b) : ¬ slt b a := fun k => slt_irrefl _ (slt_trans h k)
/-! ### marks -/
def numB (n : Int) : Prop := 0 ≤ n ∧ n ≤ 1099511627776
instance (n : Int) : Decidable (numB n) := inferInstanceAs (Decidable (_ ∧ _))
def mayM (m : Mrk) : Prop := nameB m.group ∧ nameB m.topic ∧ numB m.n ∧ numB m.off
noncomputable instance (m : Mrk) : Decidable (mayM m) := inferInstanceAs (Decidable (_ ∧ _))
/-- a stands ahead of b -/
def bef (a b : Mrk) : Prop := slt a.group b.group ∨ a.group = b.group ∧ (slt a.topic b.topic ∨ a.topic = b.topic ∧ a.n < b.n)
instance (a b : Mrk) : Decidable (bef a b) := inferInstanceAs (Decidable (_ ∨ _))
def cmpS (a b : ByteArray) : Int := if slt a b then -1 else if slt b a then 1 else 0
def cmpI (a b : Int) : Int := if a < b then -1 else if b < a then 1 else 0
def orI : List Int → Int
  | [] => 0
  | x :: l => if x ≠ 0 then x else orI l
def ordM (a b : Mrk) : Int := orI [cmpS a.group b.group, cmpS a.topic b.topic, cmpI a.n b.n]
theorem cmpS_cases (a b : ByteArray) : (slt a b ∧ cmpS a b = -1) ∨ (slt b a ∧ cmpS a b = 1) ∨ (a = b ∧ cmpS a b = 0) := by
  unfold cmpS
  by_cases h : a = b
  · subst h; simp [slt_irrefl]
  · rcases slt_tri h with h1 | h1
    · simp [h1]
    · simp [h1, slt_asymm h1]
theorem cmpI_cases (a b : Int) : (a < b ∧ cmpI a b = -1) ∨ (b < a ∧ cmpI a b = 1) ∨ (a = b ∧ cmpI a b = 0) := by
  unfold cmpI
  by_cases h : a < b
  · simp [h]
  · by_cases h2 : b < a
    · simp [h, h2]
    · have : a = b := by omega
      subst this
      simp
theorem ordM_bounds (a b : Mrk) : -1 ≤ ordM a b ∧ ordM a b ≤ 1 := by
  unfold ordM orI orI orI orI
  rcases cmpS_cases a.group b.group with h | h | h <;> rcases cmpS_cases a.topic b.topic with k | k | k <;> rcases cmpI_cases a.n b.n with q | q | q <;> simp [h.2, k.2, q.2]
theorem ordM_bef (a b : Mrk) : ordM a b < 0 ↔ bef a b := by
  unfold ordM orI orI orI orI bef
  rcases cmpS_cases a.group b.group with ⟨h1, h2⟩ | ⟨h1, h2⟩ | ⟨h1, h2⟩
  · simp [h1, h2]
  · have : a.group ≠ b.group := by intro e; rw [e] at h1; exact slt_irrefl _ h1
    simp [h2, slt_asymm h1, this]
  · rcases cmpS_cases a.topic b.topic with ⟨k1, k2⟩ | ⟨k1, k2⟩ | ⟨k1, k2⟩
    · simp only [h2, k2]; simp [h1, k1]
    · have : a.topic ≠ b.topic := by intro e; rw [e] at k1; exact slt_irrefl _ k1
      simp only [h2, k2]; simp [h1, slt_irrefl, slt_asymm k1, this]
    · rcases cmpI_cases a.n b.n with ⟨q1, q2⟩ | ⟨q1, q2⟩ | ⟨q1, q2⟩
      · simp only [h2, k2, q2]; simp [h1, k1, q1]
      · simp only [h2, k2, q2]; simp [h1, k1, slt_irrefl]; omega
      · simp only [h2, k2, q2]; simp [h1, k1, slt_irrefl]; omega
theorem bef_irrefl (a : Mrk) : ¬ bef a a := by
  rintro (h | ⟨_, h | ⟨_, h⟩⟩)
  · exact slt_irrefl _ h
  · exact slt_irrefl _ h
  · omega
theorem bef_trans {a b c : Mrk} (h : bef a b) (k : bef b c) : bef a c := by
  rcases h with h | ⟨h0, h | ⟨h1, h⟩⟩ <;> rcases k with k | ⟨k0, k | ⟨k1, k⟩⟩
  · exact .inl (slt_trans h k)
  · exact .inl (k0 ▸ h)
  · exact .inl (k0 ▸ h)
  · exact .inl (h0 ▸ k)
  · exact .inr ⟨h0.trans k0, .inl (slt_trans h k)⟩
  · exact .inr ⟨h0.trans k0, .inl (k1 ▸ h)⟩
  · exact .inl (h0 ▸ k)
  · exact .inr ⟨h0.trans k0, .inl (h1 ▸ k)⟩
  · exact .inr ⟨h0.trans k0, .inr ⟨h1.trans k1, by omega⟩⟩
theorem Mrk.key_eq {a b : Mrk} : a.key = b.key ↔ a.group = b.group ∧ a.topic = b.topic ∧ a.n = b.n := by
  simp [Mrk.key]
theorem bef_tri {a b : Mrk} (h : a.key ≠ b.key) : bef a b ∨ bef b a := by
  by_cases h1 : a.group = b.group
  · by_cases h2 : a.topic = b.topic
    · have h3 : a.n ≠ b.n := fun e => h (Mrk.key_eq.2 ⟨h1, h2, e⟩)
      rcases Int.lt_or_lt_of_ne h3 with h4 | h4
      · exact .inl (.inr ⟨h1, .inr ⟨h2, h4⟩⟩)
      · exact .inr (.inr ⟨h1.symm, .inr ⟨h2.symm, h4⟩⟩)
    · rcases slt_tri h2 with h4 | h4
      · exact .inl (.inr ⟨h1, .inl h4⟩)
      · exact .inr (.inr ⟨h1.symm, .inl h4⟩)
  · rcases slt_tri h1 with h4 | h4
    · exact .inl (.inl h4)
    · exact .inr (.inl h4)
theorem bef_asymm {a b : Mrk} (h : bef a b) : ¬ bef b a := fun k => bef_irrefl _ (bef_trans h k)
theorem bef_key {a b : Mrk} (h : bef a b) : a.key ≠ b.key := by
  intro e
  obtain ⟨h1, h2, h3⟩ := Mrk.key_eq.1 e
  rcases h with h | ⟨_, h | ⟨_, h⟩⟩
  · rw [h1] at h; exact slt_irrefl _ h
  · rw [h2] at h; exact slt_irrefl _ h
  · omega
theorem bef_congr {a a' b b' : Mrk} (h : a.key = a'.key) (k : b.key = b'.key) : bef a b ↔ bef a' b' := by
  obtain ⟨h1, h2, h3⟩ := Mrk.key_eq.1 h
  obtain ⟨k1, k2, k3⟩ := Mrk.key_eq.1 k
  unfold bef
  rw [h1, h2, h3, k1, k2, k3]
theorem orI_skip {l : List Int} {j : Nat} (hj : j < l.length) (h : ¬ l[j] ≠ 0) : orI (l.drop j) = orI (l.drop (j + 1)) := by
  rw [List.drop_eq_getElem_cons hj]
  conv => lhs; unfold orI
  rw [if_neg h]
theorem intE {x y : Int} (h : x = y) : Value.int .i64 x = Value.int .i64 y := by rw [h]
theorem pNaNS (w0 : World) (a : ByteArray) :
    Ct Try.prog 46 #[.string a] w0 fun v w' => v = .bool (decide (a ≠ a)) ∧ Ext w0 w' := by
  refine Ct.intro1 Try.func46 Try.ntmps46 rfl rfl (by decide) rfl ?_
  have H : Ext w0 w0 := Ext.refl w0
  refine WP.regionS ?_
  refine RL.r (asgB rfl) rfl ?_
  refine RL.nil ?_
  refine WP.regionS ?_
  refine RL.r (mvS rfl) rfl ?_
  refine RL.r (mvS rfl) rfl ?_
  refine RL.r (sneq rfl rfl) rfl ?_
  refine RL.r (asgB rfl) rfl ?_
  refine RL.nil ?_
  refine WP.ret ?_
  refine fin1_ret rfl ⟨rfl, H⟩
theorem pCmpS (w0 : World) (a b : ByteArray) :
    Ct Try.prog 37 #[.string a, .string b] w0 fun v w' => v = .int .i64 (cmpS a b) ∧ Ext w0 w' := by
  refine Ct.intro1 Try.func37 Try.ntmps37 rfl rfl (by decide) rfl ?_
  have H : Ext w0 w0 := Ext.refl w0
  refine WP.regionS ?_
  refine RL.r (asgI rfl) rfl ?_
  refine RL.nil ?_
  refine WP.regionS ?_
  refine RL.r (mvS rfl) rfl ?_
  -- call cmp.isNaN[string] (tmp 7)
  refine RL.call (pNaNS _ _) rfl rfl ?_
  rintro _ w1 ⟨rfl, hx⟩
  replace H := H.ext hx
  refine RL.r (asgB rfl) rfl ?_
  refine RL.nil ?_
  refine WP.regionS ?_
  refine RL.r (mvS rfl) rfl ?_
  -- call cmp.isNaN[string] (tmp 9)
  refine RL.call (pNaNS _ _) rfl rfl ?_
  rintro _ w2 ⟨rfl, hx⟩
  replace H := H.ext hx
  refine RL.r (asgB rfl) rfl ?_
  refine RL.nil ?_
  refine WP.seq ?_
  refine WP.regionS ?_
  refine RL.r (mvB rfl) rfl ?_
  refine RL.nil ?_
  refine WP.cond rfl (fun hc => ?_) (fun hc => ?_)
  · refine WP.seq ?_
    refine WP.regionS ?_
    refine RL.r (mvB rfl) rfl ?_
    refine RL.nil ?_
    refine WP.cond rfl (fun hc => ?_) (fun hc => ?_)
    · refine WP.regionS ?_
      refine RL.r (asgI rfl) rfl ?_
      refine RL.nil ?_
      refine WP.ret ?_
      refine fin1_ret rfl ⟨(hc rfl).elim, H⟩
    · refine WP.skip ?_
      refine WP.regionS ?_
      refine RL.r (asgI rfl) rfl ?_
      refine RL.nil ?_
      refine WP.ret ?_
      refine fin1_ret rfl ⟨absurd rfl ‹a ≠ a›, H⟩
  · refine WP.skip ?_
    refine WP.seq ?_
    refine WP.regionS ?_
    refine RL.r (mvB rfl) rfl ?_
    refine RL.nil ?_
    refine WP.cond rfl (fun hc => ?_) (fun hc => ?_)
    · refine WP.regionS ?_
      refine RL.r (asgI rfl) rfl ?_
      refine RL.nil ?_
      refine WP.ret ?_
      refine fin1_ret rfl ⟨(hc rfl).elim, H⟩
    · refine WP.skip ?_
      refine WP.seq ?_
      refine WP.regionS ?_
      refine RL.r (mvS rfl) rfl ?_
      refine RL.r (mvS rfl) rfl ?_
      refine RL.r (slss rfl rfl) rfl ?_
      refine RL.nil ?_
      refine WP.cond rfl (fun hc => ?_) (fun hc => ?_)
      · refine WP.regionS ?_
        refine RL.r (asgI rfl) rfl ?_
        refine RL.nil ?_
        refine WP.ret ?_
        refine fin1_ret rfl ⟨intE (by unfold cmpS; rw [if_pos hc]), H⟩
      · refine WP.skip ?_
        refine WP.seq ?_
        refine WP.regionS ?_
        refine RL.r (mvS rfl) rfl ?_
        refine RL.r (mvS rfl) rfl ?_
        refine RL.r (sgtr rfl rfl) rfl ?_
        refine RL.nil ?_
        refine WP.cond rfl (fun hc => ?_) (fun hc => ?_)
        · refine WP.regionS ?_
          refine RL.r (asgI rfl) rfl ?_
          refine RL.nil ?_
          refine WP.ret ?_
          refine fin1_ret rfl ⟨intE (by unfold cmpS; rw [if_neg (by assumption), if_pos hc]), H⟩
        · refine WP.skip ?_
          refine WP.regionS ?_
          refine RL.r (asgI rfl) rfl ?_
          refine RL.nil ?_
          refine WP.ret ?_
          refine fin1_ret rfl ⟨intE (by unfold cmpS; rw [if_neg (by assumption), if_neg (by assumption)]), H⟩
theorem pNaNI (w0 : World) (a : Int) :
    Ct Try.prog 47 #[.int .i64 a] w0 fun v w' => v = .bool (decide (a ≠ a)) ∧ Ext w0 w' := by
  refine Ct.intro1 Try.func47 Try.ntmps47 rfl rfl (by decide) rfl ?_
  have H : Ext w0 w0 := Ext.refl w0
  refine WP.regionS ?_
  refine RL.r (asgB rfl) rfl ?_
  refine RL.nil ?_
  refine WP.regionS ?_
  refine RL.r (mvI rfl) rfl ?_
  refine RL.r (mvI rfl) rfl ?_
  refine RL.r (neq rfl rfl) rfl ?_
  refine RL.r (asgB rfl) rfl ?_
  refine RL.nil ?_
  refine WP.ret ?_
  refine fin1_ret rfl ⟨rfl, H⟩
theorem pCmpI (w0 : World) (a b : Int) :
    Ct Try.prog 38 #[.int .i64 a, .int .i64 b] w0 fun v w' => v = .int .i64 (cmpI a b) ∧ Ext w0 w' := by
  refine Ct.intro1 Try.func38 Try.ntmps38 rfl rfl (by decide) rfl ?_
  have H : Ext w0 w0 := Ext.refl w0
  refine WP.regionS ?_
  refine RL.r (asgI rfl) rfl ?_
  refine RL.nil ?_
  refine WP.regionS ?_
  refine RL.r (mvI rfl) rfl ?_
  -- call cmp.isNaN[int] (tmp 7)
  refine RL.call (pNaNI _ _) rfl rfl ?_
  rintro _ w1 ⟨rfl, hx⟩
  replace H := H.ext hx
  refine RL.r (asgB rfl) rfl ?_
  refine RL.nil ?_
  refine WP.regionS ?_
  refine RL.r (mvI rfl) rfl ?_
  -- call cmp.isNaN[int] (tmp 9)
  refine RL.call (pNaNI _ _) rfl rfl ?_
  rintro _ w2 ⟨rfl, hx⟩
  replace H := H.ext hx
  refine RL.r (asgB rfl) rfl ?_
  refine RL.nil ?_
  refine WP.seq ?_
  refine WP.regionS ?_
  refine RL.r (mvB rfl) rfl ?_
  refine RL.nil ?_
  refine WP.cond rfl (fun hc => ?_) (fun hc => ?_)
  · refine WP.seq ?_
    refine WP.regionS ?_
    refine RL.r (mvB rfl) rfl ?_
    refine RL.nil ?_
    refine WP.cond rfl (fun hc => ?_) (fun hc => ?_)
    · refine WP.regionS ?_
      refine RL.r (asgI rfl) rfl ?_
      refine RL.nil ?_
      refine WP.ret ?_
      refine fin1_ret rfl ⟨(hc rfl).elim, H⟩
    · refine WP.skip ?_
      refine WP.regionS ?_
      refine RL.r (asgI rfl) rfl ?_
      refine RL.nil ?_
      refine WP.ret ?_
      refine fin1_ret rfl ⟨absurd rfl ‹a ≠ a›, H⟩
  · refine WP.skip ?_
    refine WP.seq ?_
    refine WP.regionS ?_
    refine RL.r (mvB rfl) rfl ?_
    refine RL.nil ?_
    refine WP.cond rfl (fun hc => ?_) (fun hc => ?_)
    · refine WP.regionS ?_
      refine RL.r (asgI rfl) rfl ?_
      refine RL.nil ?_
      refine WP.ret ?_
      refine fin1_ret rfl ⟨(hc rfl).elim, H⟩
    · refine WP.skip ?_
      refine WP.seq ?_
      refine WP.regionS ?_
      refine RL.r (mvI rfl) rfl ?_
      refine RL.r (mvI rfl) rfl ?_
      refine RL.r (lss rfl rfl) rfl ?_
      refine RL.nil ?_
      refine WP.cond rfl (fun hc => ?_) (fun hc => ?_)
      · refine WP.regionS ?_
        refine RL.r (asgI rfl) rfl ?_
        refine RL.nil ?_
        refine WP.ret ?_
        refine fin1_ret rfl ⟨intE (by unfold cmpI; rw [if_pos hc]), H⟩
      · refine WP.skip ?_
        refine WP.seq ?_
        refine WP.regionS ?_
        refine RL.r (mvI rfl) rfl ?_
        refine RL.r (mvI rfl) rfl ?_
        refine RL.r (gtr rfl rfl) rfl ?_
        refine RL.nil ?_
        refine WP.cond rfl (fun hc => ?_) (fun hc => ?_)
        · refine WP.regionS ?_
          refine RL.r (asgI rfl) rfl ?_
          refine RL.nil ?_
          refine WP.ret ?_
          refine fin1_ret rfl ⟨intE (by unfold cmpI; rw [if_neg (by assumption), if_pos hc]), H⟩
        · refine WP.skip ?_
          refine WP.regionS ?_
          refine RL.r (asgI rfl) rfl ?_
          refine RL.nil ?_
          refine WP.ret ?_
          refine fin1_ret rfl ⟨intE (by unfold cmpI; rw [if_neg (by assumption), if_neg (by assumption)]), H⟩
theorem pOr (w0 : World) (a : Option Addr) (c : Nat) (l : List Int) (hl : Sl w0 a l) (hn : l.length ≤ 1000) :
    Ct Try.prog 36 #[.slice a l.length c] w0 fun v w' => v = .int .i64 (orI l) ∧ Ext w0 w' := by
  refine Ct.intro1 Try.func36 Try.ntmps36 rfl rfl (by decide) rfl ?_
  have H : Ext w0 w0 := Ext.refl w0
  refine WP.regionS ?_
  refine RL.r (asgI rfl) rfl ?_
  refine RL.nil ?_
  refine WP.regionS ?_
  refine RL.r (asgI rfl) rfl ?_
  refine RL.nil ?_
  refine WP.seq ?_
  refine WP.regionS ?_
  refine RL.r (mvL rfl) rfl ?_
  refine RL.r (len_sl rfl) rfl ?_
  refine RL.r (mvI rfl) rfl ?_
  refine RL.nil ?_
  refine WP.block ?_
  refine WP.loop (fun k e' w' => ∃ j : Nat,  j + k = l.length ∧ Head [2, 5, 8, 9, 10, 11, 12, 13, 14, 15, 16] _ [(8, .int .i64 (j : Int))] e' ∧ Ext w0 w' ∧ orI l = orI (l.drop j)) (l.length)
    ⟨0, by omega, Head.intro (AgreeOff.refl _ _) ⟨rfl, trivial⟩, H, rfl⟩ ?_
  clear H
  rintro k e w1 ⟨j, hjk, ⟨jk, rfl⟩, H, hor⟩
  refine WP.regionS ?_
  refine RL.r (lss rfl rfl) rfl ?_
  refine RL.nil ?_
  refine WP.seq ?_
  refine WP.cond rfl (fun hc => ?_) (fun hc => ?_)
  · refine WP.skip ?_
    refine WP.seq ?_
    refine WP.block ?_
    refine WP.regionS ?_
    have hj : j < l.length := by omega
    obtain ⟨p, rfl⟩ := hl.isAddr (by decide) hj
    refine RL.r (ix rfl rfl rfl (by omega)) rfl ?_
    refine RL.m (ld_e0 rfl hl H rfl (by omega) rfl) rfl ?_
    refine RL.r (asgI rfl) rfl ?_
    refine RL.nil ?_
    refine WP.regionS ?_
    refine RL.r (mvI rfl) rfl ?_
    refine RL.r (mvI rfl) rfl ?_
    refine RL.r (neq rfl rfl) rfl ?_
    refine RL.nil ?_
    refine WP.cond rfl (fun hc => ?_) (fun hc => ?_)
    · refine WP.regionS ?_
      refine RL.r (mvI rfl) rfl ?_
      refine RL.r (asgI rfl) rfl ?_
      refine RL.nil ?_
      refine WP.ret ?_
      refine fin1_ret rfl ⟨intE (by rw [hor, List.drop_eq_getElem_cons (by omega)]; unfold orI; rw [if_pos hc]), H⟩
    · refine WP.skip ?_
      refine WP.region ?_
      refine RL.r (add rfl rfl (by omega)) rfl ?_
      refine RL.r (mvI rfl) rfl ?_
      refine RL.nil ?_
      refine ⟨k - 1, by omega, j + 1, by omega, Head.intro (by repeat (first | with_reducible exact AgreeOff.mix _ _ _ | refine AgreeOff.look rfl ?_ | refine AgreeOff.mixs rfl ?_)) ⟨rfl, trivial⟩, H, (hor.trans (orI_skip hj hc))⟩
  · refine WP.exit ?_
    refine WP.regionS ?_
    refine RL.r (mvI rfl) rfl ?_
    refine RL.r (asgI rfl) rfl ?_
    refine RL.nil ?_
    refine WP.ret ?_
    refine fin1_ret rfl ⟨intE (by rw [hor, List.drop_of_length_le (by omega)]; rfl), H⟩
theorem pNum (w0 : World) (n : Int) :
    Ct Try.prog 32 #[.int .i64 n] w0 fun v w' => v = .bool (decide (numB n)) ∧ Ext w0 w' := by
  refine Ct.intro1 Try.func32 Try.ntmps32 rfl rfl (by decide) rfl ?_
  have H : Ext w0 w0 := Ext.refl w0
  refine WP.regionS ?_
  refine RL.r (asgB rfl) rfl ?_
  refine RL.nil ?_
  refine WP.seq (WP.quiet ?_)
  refine QL.r (mvI rfl) rfl ?_
  refine QL.r (geq rfl rfl) rfl ?_
  refine QL.r (mvB rfl) rfl ?_
  refine QL.gg (gwT rfl rfl) (fun hg => (mvI rfl).does _) rfl ?_
  refine QL.gg (gwT rfl rfl) (fun hg => (leq (gs hg rfl) rfl).does _) rfl ?_
  refine QL.r (pickAnd rfl (fun hn => gs hn rfl)) rfl ?_
  refine QL.r (asgB rfl) rfl ?_
  refine QL.nil ?_; intro w1 hx; replace H := H.ext hx
  refine WP.ret ?_
  refine fin1_ret rfl ⟨rfl, H⟩
theorem rNum (w0 : World) (n : Int) :
    Ct Try.prog 34 #[.int .i64 n] w0 fun v w' => v = .bool (decide (numB n)) ∧ Ext w0 w' := by
  refine Ct.intro1 Try.func34 Try.ntmps34 rfl rfl (by decide) rfl ?_
  have H : Ext w0 w0 := Ext.refl w0
  refine WP.regionS ?_
  refine RL.r (asgB rfl) rfl ?_
  refine RL.nil ?_
  refine WP.seq (WP.quiet ?_)
  refine QL.r (mvI rfl) rfl ?_
  refine QL.r (geq rfl rfl) rfl ?_
  refine QL.r (mvB rfl) rfl ?_
  refine QL.gg (gwT rfl rfl) (fun hg => (mvI rfl).does _) rfl ?_
  refine QL.gg (gwT rfl rfl) (fun hg => (leq (gs hg rfl) rfl).does _) rfl ?_
  refine QL.r (pickAnd rfl (fun hn => gs hn rfl)) rfl ?_
  refine QL.r (asgB rfl) rfl ?_
  refine QL.nil ?_; intro w1 hx; replace H := H.ext hx
  refine WP.ret ?_
  refine fin1_ret rfl ⟨rfl, H⟩
theorem pMayM (w0 : World) (m : Mrk) :
    Ct Try.prog 27 #[.agg (Lies.enc m).toArray] w0 fun v w' => v = .bool (decide (mayM m)) ∧ Ext w0 w' := by
  refine Ct.intro1 Try.func27 Try.ntmps27 rfl rfl (by decide) rfl ?_
  have H : Ext w0 w0 := Ext.refl w0
  refine WP.regionS ?_
  refine RL.boxS w0.heap.size H.size rfl rfl ?_
  intro w1 i1 hi1 hx hb1
  replace H := H.ext hx; clear hx
  refine RL.r (asgB rfl) rfl ?_
  refine RL.nil ?_
  refine WP.seq (WP.quiet ?_)
  refine QL.r (fa_box rfl) rfl ?_
  refine QL.m (ld_box rfl hb1 rfl) rfl ?_
  -- call stagecoach/request.Name (tmp 4)
  refine QL.call (fun w' hw' => pName w' _) rfl rfl ?_
  refine QL.r (mvB rfl) rfl ?_
  refine QL.gg (gwT rfl rfl) (fun hg => (fa_box rfl).does _) rfl ?_
  refine QL.gg (gwT rfl rfl) (fun hg => (fa_box (gs hg rfl)).does _) rfl ?_
  refine QL.gg (gwT rfl rfl) (fun hg => ld_box (gs hg rfl) hb1 rfl) rfl ?_
  -- call stagecoach/request.Name (tmp 9)
  refine QL.gcall (gwT rfl rfl) (fun hg w' hw' => pName w' _) (fun hg => EvL.cons (gs hg rfl) (EvL.nil)) rfl ?_
  refine QL.r (pickAnd rfl (fun hn => gs hn rfl)) rfl ?_
  refine QL.r (mvB rfl) rfl ?_
  refine QL.gg (gwT rfl rfl) (fun hg => (fa_box rfl).does _) rfl ?_
  refine QL.gg (gwT rfl rfl) (fun hg => (fa_box (gs hg rfl)).does _) rfl ?_
  refine QL.gg (gwT rfl rfl) (fun hg => ld_box (gs hg rfl) hb1 rfl) rfl ?_
  -- call stagecoach/offsets.number (tmp 15)
  refine QL.gcall (gwT rfl rfl) (fun hg w' hw' => pNum w' _) (fun hg => EvL.cons (gs hg rfl) (EvL.nil)) rfl ?_
  refine QL.r (pickAnd rfl (fun hn => gs hn rfl)) rfl ?_
  refine QL.r (mvB rfl) rfl ?_
  refine QL.gg (gwT rfl rfl) (fun hg => (fa_box rfl).does _) rfl ?_
  refine QL.gg (gwT rfl rfl) (fun hg => ld_box (gs hg rfl) hb1 rfl) rfl ?_
  -- call stagecoach/offsets.number (tmp 20)
  refine QL.gcall (gwT rfl rfl) (fun hg w' hw' => pNum w' _) (fun hg => EvL.cons (gs hg rfl) (EvL.nil)) rfl ?_
  refine QL.r (pickAnd rfl (fun hn => gs hn rfl)) rfl ?_
  refine QL.r (asgB rfl) rfl ?_
  refine QL.nil ?_; intro w6 hx; replace H := H.ext hx; replace hb1 := hb1.ext hx
  refine WP.ret ?_
  refine fin1_ret rfl ⟨congrArg Value.bool (bD (by unfold mayM; simp only [and_assoc])), H⟩
theorem rMayM (w0 : World) (m : Mrk) :
    Ct Try.prog 29 #[.agg (Lies.enc m).toArray] w0 fun v w' => v = .bool (decide (mayM m)) ∧ Ext w0 w' := by
  refine Ct.intro1 Try.func29 Try.ntmps29 rfl rfl (by decide) rfl ?_
  have H : Ext w0 w0 := Ext.refl w0
  refine WP.regionS ?_
  refine RL.boxS w0.heap.size H.size rfl rfl ?_
  intro w1 i1 hi1 hx hb1
  replace H := H.ext hx; clear hx
  refine RL.r (asgB rfl) rfl ?_
  refine RL.nil ?_
  refine WP.seq (WP.quiet ?_)
  refine QL.r (fa_box rfl) rfl ?_
  refine QL.m (ld_box rfl hb1 rfl) rfl ?_
  -- call stagecoach/stagecoachref04.Name (tmp 4)
  refine QL.call (fun w' hw' => rName w' _) rfl rfl ?_
  refine QL.r (mvB rfl) rfl ?_
  refine QL.gg (gwT rfl rfl) (fun hg => (fa_box rfl).does _) rfl ?_
  refine QL.gg (gwT rfl rfl) (fun hg => (fa_box (gs hg rfl)).does _) rfl ?_
  refine QL.gg (gwT rfl rfl) (fun hg => ld_box (gs hg rfl) hb1 rfl) rfl ?_
  -- call stagecoach/stagecoachref04.Name (tmp 9)
  refine QL.gcall (gwT rfl rfl) (fun hg w' hw' => rName w' _) (fun hg => EvL.cons (gs hg rfl) (EvL.nil)) rfl ?_
  refine QL.r (pickAnd rfl (fun hn => gs hn rfl)) rfl ?_
  refine QL.r (mvB rfl) rfl ?_
  refine QL.gg (gwT rfl rfl) (fun hg => (fa_box rfl).does _) rfl ?_
  refine QL.gg (gwT rfl rfl) (fun hg => (fa_box (gs hg rfl)).does _) rfl ?_
  refine QL.gg (gwT rfl rfl) (fun hg => ld_box (gs hg rfl) hb1 rfl) rfl ?_
  -- call stagecoach/stagecoachref03.Num (tmp 15)
  refine QL.gcall (gwT rfl rfl) (fun hg w' hw' => rNum w' _) (fun hg => EvL.cons (gs hg rfl) (EvL.nil)) rfl ?_
  refine QL.r (pickAnd rfl (fun hn => gs hn rfl)) rfl ?_
  refine QL.r (mvB rfl) rfl ?_
  refine QL.gg (gwT rfl rfl) (fun hg => (fa_box rfl).does _) rfl ?_
  refine QL.gg (gwT rfl rfl) (fun hg => ld_box (gs hg rfl) hb1 rfl) rfl ?_
  -- call stagecoach/stagecoachref03.Num (tmp 20)
  refine QL.gcall (gwT rfl rfl) (fun hg w' hw' => rNum w' _) (fun hg => EvL.cons (gs hg rfl) (EvL.nil)) rfl ?_
  refine QL.r (pickAnd rfl (fun hn => gs hn rfl)) rfl ?_
  refine QL.r (asgB rfl) rfl ?_
  refine QL.nil ?_; intro w6 hx; replace H := H.ext hx; replace hb1 := hb1.ext hx
  refine WP.ret ?_
  refine fin1_ret rfl ⟨congrArg Value.bool (bD (by unfold mayM; simp only [and_assoc])), H⟩
theorem rBefore (w0 : World) (a b : Mrk) (h1 : a.group.size ≤ 1000) (h2 : a.topic.size ≤ 1000) :
    Ct Try.prog 30 #[.agg (Lies.enc a).toArray, .agg (Lies.enc b).toArray] w0 fun v w' => v = .bool (decide (bef a b)) ∧ Ext w0 w' := by
  refine Ct.intro1 Try.func30 Try.ntmps30 rfl rfl (by decide) rfl ?_
  have H : Ext w0 w0 := Ext.refl w0
  refine WP.regionS ?_
  refine RL.boxS w0.heap.size H.size rfl rfl ?_
  intro w1 i2 hi2 hx hb2
  replace H := H.ext hx; clear hx
  refine RL.boxS w0.heap.size H.size rfl rfl ?_
  intro w2 i3 hi3 hx hb3
  have ne2_3 := hb2.ne hi3
  replace H := H.ext hx; replace hb2 := hb2.ext hx; clear hx
  refine RL.r (asgB rfl) rfl ?_
  refine RL.nil ?_
  refine WP.seq ?_
  refine WP.regionS ?_
  refine RL.r (fa_box rfl) rfl ?_
  refine RL.m (ld_box rfl hb2 rfl) rfl ?_
  refine RL.r (fa_box rfl) rfl ?_
  refine RL.m (ld_box rfl hb3 rfl) rfl ?_
  refine RL.r (sneq rfl rfl) rfl ?_
  refine RL.nil ?_
  refine WP.cond rfl (fun hc => ?_) (fun hc => ?_)
  · refine WP.regionS ?_
    refine RL.r (fa_box rfl) rfl ?_
    refine RL.m (ld_box rfl hb2 rfl) rfl ?_
    refine RL.r (fa_box rfl) rfl ?_
    refine RL.m (ld_box rfl hb3 rfl) rfl ?_
    -- call stagecoach/stagecoachref04.Less (tmp 11) (tmp 13)
    refine RL.call (rLess _ _ _ (by omega)) rfl rfl ?_
    rintro _ w3 ⟨rfl, hx⟩
    replace H := H.ext hx; replace hb2 := hb2.ext hx; replace hb3 := hb3.ext hx
    refine RL.r (asgB rfl) rfl ?_
    refine RL.nil ?_
    refine WP.ret ?_
    refine fin1_ret rfl ⟨congrArg Value.bool (bD (by unfold bef; simp [hc])), H⟩
  · refine WP.skip ?_
    refine WP.seq ?_
    refine WP.regionS ?_
    refine RL.r (fa_box rfl) rfl ?_
    refine RL.r (fa_box rfl) rfl ?_
    refine RL.m (ld_box rfl hb2 rfl) rfl ?_
    refine RL.r (fa_box rfl) rfl ?_
    refine RL.r (fa_box rfl) rfl ?_
    refine RL.m (ld_box rfl hb3 rfl) rfl ?_
    refine RL.r (sneq rfl rfl) rfl ?_
    refine RL.nil ?_
    refine WP.cond rfl (fun hc => ?_) (fun hc => ?_)
    · refine WP.regionS ?_
      refine RL.r (fa_box rfl) rfl ?_
      refine RL.r (fa_box rfl) rfl ?_
      refine RL.m (ld_box rfl hb2 rfl) rfl ?_
      refine RL.r (fa_box rfl) rfl ?_
      refine RL.r (fa_box rfl) rfl ?_
      refine RL.m (ld_box rfl hb3 rfl) rfl ?_
      -- call stagecoach/stagecoachref04.Less (tmp 24) (tmp 27)
      refine RL.call (rLess _ _ _ (by omega)) rfl rfl ?_
      rintro _ w4 ⟨rfl, hx⟩
      replace H := H.ext hx; replace hb2 := hb2.ext hx; replace hb3 := hb3.ext hx
      refine RL.r (asgB rfl) rfl ?_
      refine RL.nil ?_
      refine WP.ret ?_
      refine fin1_ret rfl ⟨congrArg Value.bool (bD (by have e := Classical.not_not.1 ‹¬ a.group ≠ b.group›; unfold bef; simp [e, hc, slt_irrefl])), H⟩
    · refine WP.skip ?_
      refine WP.regionS ?_
      refine RL.r (fa_box rfl) rfl ?_
      refine RL.r (fa_box rfl) rfl ?_
      refine RL.m (ld_box rfl hb2 rfl) rfl ?_
      refine RL.r (fa_box rfl) rfl ?_
      refine RL.r (fa_box rfl) rfl ?_
      refine RL.m (ld_box rfl hb3 rfl) rfl ?_
      refine RL.r (lss rfl rfl) rfl ?_
      refine RL.r (asgB rfl) rfl ?_
      refine RL.nil ?_
      refine WP.ret ?_
      refine fin1_ret rfl ⟨congrArg Value.bool (bD (by have e := Classical.not_not.1 ‹¬ a.group ≠ b.group›; have e2 := Classical.not_not.1 ‹¬ a.topic ≠ b.topic›; unfold bef; simp [e, e2, slt_irrefl])), H⟩
theorem pOrder (w0 : World) (a b : Mrk) :
    Ct Try.prog 28 #[.agg (Lies.enc a).toArray, .agg (Lies.enc b).toArray] w0 fun v w' => v = .int .i64 (ordM a b) ∧ Ext w0 w' := by
  refine Ct.intro1 Try.func28 Try.ntmps28 rfl rfl (by decide) rfl ?_
  have H : Ext w0 w0 := Ext.refl w0
  refine WP.regionS ?_
  refine RL.boxS w0.heap.size H.size rfl rfl ?_
  intro w1 i2 hi2 hx hb2
  replace H := H.ext hx; clear hx
  refine RL.boxS w0.heap.size H.size rfl rfl ?_
  intro w2 i3 hi3 hx hb3
  have ne2_3 := hb2.ne hi3
  replace H := H.ext hx; replace hb2 := hb2.ext hx; clear hx
  refine RL.r (asgI rfl) rfl ?_
  refine RL.nil ?_
  refine WP.seq ?_
  refine WP.any ?_
  intro w3 hx; replace H := H.ext hx; replace hb2 := hb2.ext hx; replace hb3 := hb3.ext hx
  refine AL.quiet 19 [18, 17, 16, 15, 14, 13, 12, 11, 10, 9, 8, 7, 6, 5, 4, 3, 2, 1, 0] (by kernel_rfl) (by kernel_rfl) (by kernel_rfl) ?_
  refine QL.r (fa_box rfl) rfl ?_
  refine QL.m (ld_box rfl hb2 rfl) rfl ?_
  refine QL.r (fa_box rfl) rfl ?_
  refine QL.m (ld_box rfl hb3 rfl) rfl ?_
  -- call cmp.Compare[string] (tmp 6) (tmp 8)
  refine QL.call (fun w' hw' => pCmpS w' _ _) rfl rfl ?_
  refine QL.r (fa_box rfl) rfl ?_
  refine QL.r (fa_box rfl) rfl ?_
  refine QL.m (ld_box rfl hb2 rfl) rfl ?_
  refine QL.r (fa_box rfl) rfl ?_
  refine QL.r (fa_box rfl) rfl ?_
  refine QL.m (ld_box rfl hb3 rfl) rfl ?_
  -- call cmp.Compare[string] (tmp 12) (tmp 15)
  refine QL.call (fun w' hw' => pCmpS w' _ _) rfl rfl ?_
  refine QL.r (fa_box rfl) rfl ?_
  refine QL.r (fa_box rfl) rfl ?_
  refine QL.m (ld_box rfl hb2 rfl) rfl ?_
  refine QL.r (fa_box rfl) rfl ?_
  refine QL.r (fa_box rfl) rfl ?_
  refine QL.m (ld_box rfl hb3 rfl) rfl ?_
  -- call cmp.Compare[int] (tmp 19) (tmp 22)
  refine QL.call (fun w' hw' => pCmpI w' _ _) rfl rfl ?_
  refine QL.nil ?_; intro w7 hx; replace H := H.ext hx; replace hb2 := hb2.ext hx; replace hb3 := hb3.ext hx
  refine AL.o 19 (by kernel_rfl) rfl ?_
  refine RL.buildSlice w0.heap.size H.size rfl rfl rfl rfl rfl ?_
  intro w8 i24 hi24 hx hb24
  replace H := H.ext hx; replace hb2 := hb2.ext hx; replace hb3 := hb3.ext hx; clear hx
  refine RL.nil ?_
  refine AL.o 20 (by kernel_rfl) rfl ?_
  -- call cmp.Or[int] (tmp 24)
  refine RL.call (pOr _ _ _ [cmpS a.group b.group, cmpS a.topic b.topic, cmpI a.n b.n] (Box.sl hb24) (by simp)) rfl rfl ?_
  rintro _ w9 ⟨rfl, hx⟩
  replace H := H.ext hx; replace hb2 := hb2.ext hx; replace hb3 := hb3.ext hx; replace hb24 := hb24.ext hx
  refine RL.nil ?_
  refine AL.p 21 (by kernel_rfl) rfl (asgI rfl) rfl ?_
  refine AL.nil (by kernel_rfl) ?_
  refine WP.ret ?_
  refine fin1_ret rfl ⟨rfl, H⟩
end Go.Proofs.Ytmjamhgihbapjaa
