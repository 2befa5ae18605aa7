/-
  What compares, and what may be: the walks of cmp's functions, of number, Before, order, due, row.
-/
import Derived.Test.YtbggmjnhfacjpaaSpec
import Derived.Test.YtbggmjnhfacjpaaDed
set_option linter.unusedVariables false
namespace Go.Proofs.Ytbggmjnhfacjpaa
open Go Go.Eng Go.RowKit
@[reducible] instance keyT : KeyT Try.prog 76 DKey := KeyN.keyT (s := 25) ⟨⟨Try.underlying25, by kernel_rfl, Try.underlying9, Try.underlying3, rfl, rfl, by decide, by decide, by obtain ⟨i, h1, h2, _⟩ := (inf25).h; exact ⟨i, h1, h2⟩⟩, Try.underlying76, by kernel_rfl, Try.underlying3, rfl, rfl, rfl, by decide, by decide⟩
instance eqPart : EqS Try.prog 25 Part := eqs_pair (s0 := Part.topic) (n0 := Part.n) Try.underlying25 (by kernel_rfl) (by kernel_rfl) Try.underlying9 Try.underlying3 rfl rfl (by decide) (by decide) (fun x => rfl) (fun x y h1 h2 => by cases x; cases y; simp_all)
theorem enc_key (k : DKey) : KeyT.enc Try.prog 76 k = .agg (Lies.enc k).toArray := rfl
def numB (n : Int) : Prop := 0 ≤ n ∧ n ≤ 1099511627776
instance (n : Int) : Decidable (numB n) := inferInstanceAs (Decidable (_ ∧ _))
/-- the number that is due behind some batches -/
def dueL (l : List Did) : Int := if h : l = [] then 0 else (l.getLast h).seq + (l.getLast h).n
theorem dueL_nil : dueL [] = 0 := rfl
theorem dueL_last {l : List Did} {j : Nat} (hj : j + 1 = l.length) : dueL l = (l[j]'(by omega)).seq + (l[j]'(by omega)).n := by
  unfold dueL
  have hne : l ≠ [] := by intro e; subst e; simp at hj
  rw [dif_neg hne, List.getLast_eq_getElem]
  have e : l.length - 1 = j := by omega
  simp only [e]
theorem dueL_take {l : List Did} {i : Nat} (h : i < l.length) (h0 : 0 < i) : dueL (l.take i) = (l[i - 1]'(by omega)).seq + (l[i - 1]'(by omega)).n := by
  have hl : i - 1 + 1 = (l.take i).length := by rw [List.length_take]; omega
  rw [dueL_last hl, List.getElem_take]
/-- may a batch be remembered at place i? -/
def didAt (l : List Did) (i : Nat) (h : i < l.length) : Prop := numB l[i].seq ∧ 1 ≤ l[i].n ∧ numB l[i].n ∧ numB l[i].off ∧ (0 < i → l[i].seq = (l[i - 1]'(by omega)).seq + (l[i - 1]'(by omega)).n)
instance (l : List Did) (i : Nat) (h : i < l.length) : Decidable (didAt l i h) := inferInstanceAs (Decidable (_ ∧ _))
/-- may batches be remembered? -/
def rowB (l : List Did) : Prop := 1 ≤ l.length ∧ l.length ≤ 5 ∧ ∀ (i : Nat) (h : i < l.length), didAt l i h
noncomputable instance (l : List Did) : Decidable (rowB l) := Classical.propDecidable _
theorem pNaNS (w0 : World) (a : ByteArray) :
    Ct Try.prog 54 #[.string a] w0 fun v w' => v = .bool (decide (a ≠ a)) ∧ Ext w0 w' := by
  refine Ct.intro1 Try.func54 Try.ntmps54 rfl rfl (by decide) rfl ?_
  have H : Ext w0 w0 := Ext.refl w0
  refine WP.regionS ?_
  refine RL.r (asgB rfl) rfl ?_
  refine RL.nil ?_
  refine WP.regionS ?_
  refine RL.r (mvS rfl) rfl ?_
  refine RL.r (mvS rfl) rfl ?_
  refine RL.r (sneq rfl rfl) rfl ?_
  refine RL.r (asgB rfl) rfl ?_
  refine RL.nil ?_
  refine WP.ret ?_
  refine fin1_ret rfl ⟨rfl, H⟩
theorem pCmpS (w0 : World) (a b : ByteArray) :
    Ct Try.prog 50 #[.string a, .string b] w0 fun v w' => v = .int .i64 (cmpS a b) ∧ Ext w0 w' := by
  refine Ct.intro1 Try.func50 Try.ntmps50 rfl rfl (by decide) rfl ?_
  have H : Ext w0 w0 := Ext.refl w0
  refine WP.regionS ?_
  refine RL.r (asgI rfl) rfl ?_
  refine RL.nil ?_
  refine WP.regionS ?_
  refine RL.r (mvS rfl) rfl ?_
  -- call cmp.isNaN[string] (tmp 7)
  refine RL.call (pNaNS _ _) rfl rfl ?_
  rintro _ w1 ⟨rfl, hx⟩
  replace H := H.ext hx
  refine RL.r (asgB rfl) rfl ?_
  refine RL.nil ?_
  refine WP.regionS ?_
  refine RL.r (mvS rfl) rfl ?_
  -- call cmp.isNaN[string] (tmp 9)
  refine RL.call (pNaNS _ _) rfl rfl ?_
  rintro _ w2 ⟨rfl, hx⟩
  replace H := H.ext hx
  refine RL.r (asgB rfl) rfl ?_
  refine RL.nil ?_
  refine WP.seq ?_
  refine WP.regionS ?_
  refine RL.r (mvB rfl) rfl ?_
  refine RL.nil ?_
  refine WP.cond rfl (fun hc => ?_) (fun hc => ?_)
  · refine WP.seq ?_
    refine WP.regionS ?_
    refine RL.r (mvB rfl) rfl ?_
    refine RL.nil ?_
    refine WP.cond rfl (fun hc => ?_) (fun hc => ?_)
    · refine WP.regionS ?_
      refine RL.r (asgI rfl) rfl ?_
      refine RL.nil ?_
      refine WP.ret ?_
      refine fin1_ret rfl ⟨(hc rfl).elim, H⟩
    · refine WP.skip ?_
      refine WP.regionS ?_
      refine RL.r (asgI rfl) rfl ?_
      refine RL.nil ?_
      refine WP.ret ?_
      refine fin1_ret rfl ⟨absurd rfl ‹a ≠ a›, H⟩
  · refine WP.skip ?_
    refine WP.seq ?_
    refine WP.regionS ?_
    refine RL.r (mvB rfl) rfl ?_
    refine RL.nil ?_
    refine WP.cond rfl (fun hc => ?_) (fun hc => ?_)
    · refine WP.regionS ?_
      refine RL.r (asgI rfl) rfl ?_
      refine RL.nil ?_
      refine WP.ret ?_
      refine fin1_ret rfl ⟨(hc rfl).elim, H⟩
    · refine WP.skip ?_
      refine WP.seq ?_
      refine WP.regionS ?_
      refine RL.r (mvS rfl) rfl ?_
      refine RL.r (mvS rfl) rfl ?_
      refine RL.r (slss rfl rfl) rfl ?_
      refine RL.nil ?_
      refine WP.cond rfl (fun hc => ?_) (fun hc => ?_)
      · refine WP.regionS ?_
        refine RL.r (asgI rfl) rfl ?_
        refine RL.nil ?_
        refine WP.ret ?_
        refine fin1_ret rfl ⟨intE (by unfold cmpS; rw [if_pos hc]), H⟩
      · refine WP.skip ?_
        refine WP.seq ?_
        refine WP.regionS ?_
        refine RL.r (mvS rfl) rfl ?_
        refine RL.r (mvS rfl) rfl ?_
        refine RL.r (sgtr rfl rfl) rfl ?_
        refine RL.nil ?_
        refine WP.cond rfl (fun hc => ?_) (fun hc => ?_)
        · refine WP.regionS ?_
          refine RL.r (asgI rfl) rfl ?_
          refine RL.nil ?_
          refine WP.ret ?_
          refine fin1_ret rfl ⟨intE (by unfold cmpS; rw [if_neg (by assumption), if_pos hc]), H⟩
        · refine WP.skip ?_
          refine WP.regionS ?_
          refine RL.r (asgI rfl) rfl ?_
          refine RL.nil ?_
          refine WP.ret ?_
          refine fin1_ret rfl ⟨intE (by unfold cmpS; rw [if_neg (by assumption), if_neg (by assumption)]), H⟩
theorem pNaNI (w0 : World) (a : Int) :
    Ct Try.prog 53 #[.int .i64 a] w0 fun v w' => v = .bool (decide (a ≠ a)) ∧ Ext w0 w' := by
  refine Ct.intro1 Try.func53 Try.ntmps53 rfl rfl (by decide) rfl ?_
  have H : Ext w0 w0 := Ext.refl w0
  refine WP.regionS ?_
  refine RL.r (asgB rfl) rfl ?_
  refine RL.nil ?_
  refine WP.regionS ?_
  refine RL.r (mvI rfl) rfl ?_
  refine RL.r (mvI rfl) rfl ?_
  refine RL.r (neq rfl rfl) rfl ?_
  refine RL.r (asgB rfl) rfl ?_
  refine RL.nil ?_
  refine WP.ret ?_
  refine fin1_ret rfl ⟨rfl, H⟩
theorem pCmpI (w0 : World) (a b : Int) :
    Ct Try.prog 49 #[.int .i64 a, .int .i64 b] w0 fun v w' => v = .int .i64 (cmpI a b) ∧ Ext w0 w' := by
  refine Ct.intro1 Try.func49 Try.ntmps49 rfl rfl (by decide) rfl ?_
  have H : Ext w0 w0 := Ext.refl w0
  refine WP.regionS ?_
  refine RL.r (asgI rfl) rfl ?_
  refine RL.nil ?_
  refine WP.regionS ?_
  refine RL.r (mvI rfl) rfl ?_
  -- call cmp.isNaN[int] (tmp 7)
  refine RL.call (pNaNI _ _) rfl rfl ?_
  rintro _ w1 ⟨rfl, hx⟩
  replace H := H.ext hx
  refine RL.r (asgB rfl) rfl ?_
  refine RL.nil ?_
  refine WP.regionS ?_
  refine RL.r (mvI rfl) rfl ?_
  -- call cmp.isNaN[int] (tmp 9)
  refine RL.call (pNaNI _ _) rfl rfl ?_
  rintro _ w2 ⟨rfl, hx⟩
  replace H := H.ext hx
  refine RL.r (asgB rfl) rfl ?_
  refine RL.nil ?_
  refine WP.seq ?_
  refine WP.regionS ?_
  refine RL.r (mvB rfl) rfl ?_
  refine RL.nil ?_
  refine WP.cond rfl (fun hc => ?_) (fun hc => ?_)
  · refine WP.seq ?_
    refine WP.regionS ?_
    refine RL.r (mvB rfl) rfl ?_
    refine RL.nil ?_
    refine WP.cond rfl (fun hc => ?_) (fun hc => ?_)
    · refine WP.regionS ?_
      refine RL.r (asgI rfl) rfl ?_
      refine RL.nil ?_
      refine WP.ret ?_
      refine fin1_ret rfl ⟨(hc rfl).elim, H⟩
    · refine WP.skip ?_
      refine WP.regionS ?_
      refine RL.r (asgI rfl) rfl ?_
      refine RL.nil ?_
      refine WP.ret ?_
      refine fin1_ret rfl ⟨absurd rfl ‹a ≠ a›, H⟩
  · refine WP.skip ?_
    refine WP.seq ?_
    refine WP.regionS ?_
    refine RL.r (mvB rfl) rfl ?_
    refine RL.nil ?_
    refine WP.cond rfl (fun hc => ?_) (fun hc => ?_)
    · refine WP.regionS ?_
      refine RL.r (asgI rfl) rfl ?_
      refine RL.nil ?_
      refine WP.ret ?_
      refine fin1_ret rfl ⟨(hc rfl).elim, H⟩
    · refine WP.skip ?_
      refine WP.seq ?_
      refine WP.regionS ?_
      refine RL.r (mvI rfl) rfl ?_
      refine RL.r (mvI rfl) rfl ?_
      refine RL.r (lss rfl rfl) rfl ?_
      refine RL.nil ?_
      refine WP.cond rfl (fun hc => ?_) (fun hc => ?_)
      · refine WP.regionS ?_
        refine RL.r (asgI rfl) rfl ?_
        refine RL.nil ?_
        refine WP.ret ?_
        refine fin1_ret rfl ⟨intE (by unfold cmpI; rw [if_pos hc]), H⟩
      · refine WP.skip ?_
        refine WP.seq ?_
        refine WP.regionS ?_
        refine RL.r (mvI rfl) rfl ?_
        refine RL.r (mvI rfl) rfl ?_
        refine RL.r (gtr rfl rfl) rfl ?_
        refine RL.nil ?_
        refine WP.cond rfl (fun hc => ?_) (fun hc => ?_)
        · refine WP.regionS ?_
          refine RL.r (asgI rfl) rfl ?_
          refine RL.nil ?_
          refine WP.ret ?_
          refine fin1_ret rfl ⟨intE (by unfold cmpI; rw [if_neg (by assumption), if_pos hc]), H⟩
        · refine WP.skip ?_
          refine WP.regionS ?_
          refine RL.r (asgI rfl) rfl ?_
          refine RL.nil ?_
          refine WP.ret ?_
          refine fin1_ret rfl ⟨intE (by unfold cmpI; rw [if_neg (by assumption), if_neg (by assumption)]), H⟩
theorem pOr (w0 : World) (a : Option Addr) (c : Nat) (l : List Int) (hl : Sl w0 a l) (hn : l.length ≤ 1000) :
    Ct Try.prog 48 #[.slice a l.length c] w0 fun v w' => v = .int .i64 (orI l) ∧ Ext w0 w' := by
  refine Ct.intro1 Try.func48 Try.ntmps48 rfl rfl (by decide) rfl ?_
  have H : Ext w0 w0 := Ext.refl w0
  refine WP.regionS ?_
  refine RL.r (asgI rfl) rfl ?_
  refine RL.nil ?_
  refine WP.regionS ?_
  refine RL.r (asgI rfl) rfl ?_
  refine RL.nil ?_
  refine WP.seq ?_
  refine WP.regionS ?_
  refine RL.r (mvL rfl) rfl ?_
  refine RL.r (len_sl rfl) rfl ?_
  refine RL.r (mvI rfl) rfl ?_
  refine RL.nil ?_
  refine WP.block ?_
  refine WP.loop (fun k e' w' => ∃ j : Nat,  j + k = l.length ∧ Head [2, 5, 8, 9, 10, 11, 12, 13, 14, 15, 16] _ [(8, .int .i64 (j : Int))] e' ∧ Ext w0 w' ∧ orI l = orI (l.drop j)) (l.length)
    ⟨0, by omega, Head.intro (AgreeOff.refl _ _) ⟨rfl, trivial⟩, H, rfl⟩ ?_
  clear H
  rintro k e w1 ⟨j, hjk, ⟨jk, rfl⟩, H, hor⟩
  refine WP.regionS ?_
  refine RL.r (lss rfl rfl) rfl ?_
  refine RL.nil ?_
  refine WP.seq ?_
  refine WP.cond rfl (fun hc => ?_) (fun hc => ?_)
  · refine WP.skip ?_
    refine WP.seq ?_
    refine WP.block ?_
    refine WP.regionS ?_
    have hj : j < l.length := by omega
    obtain ⟨p, rfl⟩ := hl.isAddr (by decide) hj
    refine RL.r (ix rfl rfl rfl (by omega)) rfl ?_
    refine RL.m (ld_e0 rfl hl H rfl (by omega) rfl) rfl ?_
    refine RL.r (asgI rfl) rfl ?_
    refine RL.nil ?_
    refine WP.regionS ?_
    refine RL.r (mvI rfl) rfl ?_
    refine RL.r (mvI rfl) rfl ?_
    refine RL.r (neq rfl rfl) rfl ?_
    refine RL.nil ?_
    refine WP.cond rfl (fun hc => ?_) (fun hc => ?_)
    · refine WP.regionS ?_
      refine RL.r (mvI rfl) rfl ?_
      refine RL.r (asgI rfl) rfl ?_
      refine RL.nil ?_
      refine WP.ret ?_
      refine fin1_ret rfl ⟨intE (by rw [hor, List.drop_eq_getElem_cons (by omega)]; unfold orI; rw [if_pos hc]), H⟩
    · refine WP.skip ?_
      refine WP.region ?_
      refine RL.r (add rfl rfl (by omega)) rfl ?_
      refine RL.r (mvI rfl) rfl ?_
      refine RL.nil ?_
      refine ⟨k - 1, by omega, j + 1, by omega, Head.intro (by repeat (first | with_reducible exact AgreeOff.mix _ _ _ | refine AgreeOff.look rfl ?_ | refine AgreeOff.mixs rfl ?_)) ⟨rfl, trivial⟩, H, (hor.trans (orI_skip hj hc))⟩
  · refine WP.exit ?_
    refine WP.regionS ?_
    refine RL.r (mvI rfl) rfl ?_
    refine RL.r (asgI rfl) rfl ?_
    refine RL.nil ?_
    refine WP.ret ?_
    refine fin1_ret rfl ⟨intE (by rw [hor, List.drop_of_length_le (by omega)]; rfl), H⟩
theorem pNum (w0 : World) (n : Int) :
    Ct Try.prog 29 #[.int .i64 n] w0 fun v w' => v = .bool (decide (numB n)) ∧ Ext w0 w' := by
  refine Ct.intro1 Try.func29 Try.ntmps29 rfl rfl (by decide) rfl ?_
  have H : Ext w0 w0 := Ext.refl w0
  refine WP.regionS ?_
  refine RL.r (asgB rfl) rfl ?_
  refine RL.nil ?_
  refine WP.seq (WP.quiet ?_)
  refine QL.r (mvI rfl) rfl ?_
  refine QL.r (geq rfl rfl) rfl ?_
  refine QL.r (mvB rfl) rfl ?_
  refine QL.gg (gwT rfl rfl) (fun hg => (mvI rfl).does _) rfl ?_
  refine QL.gg (gwT rfl rfl) (fun hg => (leq (gs hg rfl) rfl).does _) rfl ?_
  refine QL.r (pickAnd rfl (fun hn => gs hn rfl)) rfl ?_
  refine QL.r (asgB rfl) rfl ?_
  refine QL.nil ?_; intro w1 hx; replace H := H.ext hx
  refine WP.ret ?_
  refine fin1_ret rfl ⟨rfl, H⟩
theorem rNum (w0 : World) (n : Int) :
    Ct Try.prog 35 #[.int .i64 n] w0 fun v w' => v = .bool (decide (numB n)) ∧ Ext w0 w' := by
  refine Ct.intro1 Try.func35 Try.ntmps35 rfl rfl (by decide) rfl ?_
  have H : Ext w0 w0 := Ext.refl w0
  refine WP.regionS ?_
  refine RL.r (asgB rfl) rfl ?_
  refine RL.nil ?_
  refine WP.seq (WP.quiet ?_)
  refine QL.r (mvI rfl) rfl ?_
  refine QL.r (geq rfl rfl) rfl ?_
  refine QL.r (mvB rfl) rfl ?_
  refine QL.gg (gwT rfl rfl) (fun hg => (mvI rfl).does _) rfl ?_
  refine QL.gg (gwT rfl rfl) (fun hg => (leq (gs hg rfl) rfl).does _) rfl ?_
  refine QL.r (pickAnd rfl (fun hn => gs hn rfl)) rfl ?_
  refine QL.r (asgB rfl) rfl ?_
  refine QL.nil ?_; intro w1 hx; replace H := H.ext hx
  refine WP.ret ?_
  refine fin1_ret rfl ⟨rfl, H⟩
theorem pOrder (w0 : World) (a b : Maker) :
    Ct Try.prog 31 #[.agg (Lies.enc a).toArray, .agg (Lies.enc b).toArray] w0 fun v w' => v = .int .i64 (ordMk a b) ∧ Ext w0 w' := by
  refine Ct.intro1 Try.func31 Try.ntmps31 rfl rfl (by decide) rfl ?_
  have H : Ext w0 w0 := Ext.refl w0
  refine WP.regionS ?_
  refine RL.boxS w0.heap.size H.size rfl rfl ?_
  intro w1 i2 hi2 hx hb2
  replace H := H.ext hx; clear hx
  refine RL.boxS w0.heap.size H.size rfl rfl ?_
  intro w2 i3 hi3 hx hb3
  have ne2_3 := hb2.ne hi3
  replace H := H.ext hx; replace hb2 := hb2.ext hx; clear hx
  refine RL.r (asgI rfl) rfl ?_
  refine RL.nil ?_
  refine WP.seq ?_
  refine WP.any ?_
  intro w3 hx; replace H := H.ext hx; replace hb2 := hb2.ext hx; replace hb3 := hb3.ext hx
  refine AL.quiet 19 [18, 17, 16, 15, 14, 13, 12, 11, 10, 9, 8, 7, 6, 5, 4, 3, 2, 1, 0] (by kernel_rfl) (by kernel_rfl) (by kernel_rfl) ?_
  refine QL.r (fa_box rfl) rfl ?_
  refine QL.m (ld_box rfl hb2 rfl) rfl ?_
  refine QL.r (fa_box rfl) rfl ?_
  refine QL.m (ld_box rfl hb3 rfl) rfl ?_
  -- call cmp.Compare[int] (tmp 6) (tmp 8)
  refine QL.call (fun w' hw' => pCmpI w' _ _) rfl rfl ?_
  refine QL.r (fa_box rfl) rfl ?_
  refine QL.r (fa_box rfl) rfl ?_
  refine QL.m (ld_box rfl hb2 rfl) rfl ?_
  refine QL.r (fa_box rfl) rfl ?_
  refine QL.r (fa_box rfl) rfl ?_
  refine QL.m (ld_box rfl hb3 rfl) rfl ?_
  -- call cmp.Compare[string] (tmp 12) (tmp 15)
  refine QL.call (fun w' hw' => pCmpS w' _ _) rfl rfl ?_
  refine QL.r (fa_box rfl) rfl ?_
  refine QL.r (fa_box rfl) rfl ?_
  refine QL.m (ld_box rfl hb2 rfl) rfl ?_
  refine QL.r (fa_box rfl) rfl ?_
  refine QL.r (fa_box rfl) rfl ?_
  refine QL.m (ld_box rfl hb3 rfl) rfl ?_
  -- call cmp.Compare[int] (tmp 19) (tmp 22)
  refine QL.call (fun w' hw' => pCmpI w' _ _) rfl rfl ?_
  refine QL.nil ?_; intro w7 hx; replace H := H.ext hx; replace hb2 := hb2.ext hx; replace hb3 := hb3.ext hx
  refine AL.o 19 (by kernel_rfl) rfl ?_
  refine RL.buildSlice w0.heap.size H.size rfl rfl rfl rfl rfl ?_
  intro w8 i24 hi24 hx hb24
  replace H := H.ext hx; replace hb2 := hb2.ext hx; replace hb3 := hb3.ext hx; clear hx
  refine RL.nil ?_
  refine AL.o 20 (by kernel_rfl) rfl ?_
  -- call cmp.Or[int] (tmp 24)
  refine RL.call (pOr _ _ _ [cmpI a.id b.id, cmpS a.part.topic b.part.topic, cmpI a.part.n b.part.n] (Box.sl hb24) (by simp)) rfl rfl ?_
  rintro _ w9 ⟨rfl, hx⟩
  replace H := H.ext hx; replace hb2 := hb2.ext hx; replace hb3 := hb3.ext hx; replace hb24 := hb24.ext hx
  refine RL.nil ?_
  refine AL.p 21 (by kernel_rfl) rfl (asgI rfl) rfl ?_
  refine AL.nil (by kernel_rfl) ?_
  refine WP.ret ?_
  refine fin1_ret rfl ⟨rfl, H⟩
theorem pDue (w0 : World) (a : Option Addr) (c : Nat) (l : List Did) (hl : Sl w0 a l) (hlen : l.length ≤ 1000000) (hd : -9223372036854775808 ≤ dueL l ∧ dueL l ≤ 9223372036854775807) :
    Ct Try.prog 42 #[.slice a l.length c] w0 fun v w' => v = .int .i64 (dueL l) ∧ Ext w0 w' := by
  refine Ct.intro1 Try.func42 Try.ntmps42 rfl rfl (by decide) rfl ?_
  have H : Ext w0 w0 := Ext.refl w0
  refine WP.regionS ?_
  refine RL.r (asgI rfl) rfl ?_
  refine RL.nil ?_
  refine WP.seq ?_
  refine WP.regionS ?_
  refine RL.r (mvL rfl) rfl ?_
  refine RL.r (len_sl rfl) rfl ?_
  refine RL.r (eql rfl rfl) rfl ?_
  refine RL.nil ?_
  refine WP.cond rfl (fun hc => ?_) (fun hc => ?_)
  · refine WP.regionS ?_
    refine RL.r (asgI rfl) rfl ?_
    refine RL.nil ?_
    refine WP.ret ?_
    refine fin1_ret rfl ⟨intE (by rw [List.length_eq_zero_iff.1 (by omega : l.length = 0)]; rfl), H⟩
  · refine WP.skip ?_
    refine WP.regionS ?_
    refine RL.r (mvL rfl) rfl ?_
    refine RL.r (mvL rfl) rfl ?_
    refine RL.r (len_sl rfl) rfl ?_
    refine RL.r (sub rfl rfl (by omega)) rfl ?_
    obtain ⟨j, hj⟩ : ∃ j, j + 1 = l.length := ⟨l.length - 1, by omega⟩
    have hjl : j < l.length := by omega
    rw [dueL_last hj] at hd
    obtain ⟨p, rfl⟩ := hl.isAddr (by decide) hjl
    refine RL.r (ix rfl rfl (show ((l.length : Int) - 1) = ((j : Nat) : Int) by omega) hjl) rfl ?_
    refine RL.m (ldS_el rfl hl H rfl rfl hjl) rfl ?_
    refine RL.alloc w0.heap.size H.size rfl rfl ?_
    intro w1 i3 hi3 hx hb3
    refine RL.storeS rfl hb3 rfl rfl rfl rfl ?_
    intro w2 hu hb3
    replace hx := hx.box hu (Nat.le_of_eq hi3.symm)
    replace H := H.ext hx; clear hx hu
    refine RL.nil ?_
    refine WP.regionS ?_
    refine RL.r (fa_box rfl) rfl ?_
    refine RL.m (ld_box rfl hb3 rfl) rfl ?_
    refine RL.r (fa_box rfl) rfl ?_
    refine RL.m (ld_box rfl hb3 rfl) rfl ?_
    refine RL.r (add rfl rfl (by omega)) rfl ?_
    refine RL.r (asgI rfl) rfl ?_
    refine RL.nil ?_
    refine WP.ret ?_
    refine fin1_ret rfl ⟨intE (by rw [dueL_last hj]), H⟩
theorem rBefore (w0 : World) (a b : Maker) (h2 : a.part.topic.size ≤ 1000000) :
    Ct Try.prog 22 #[.agg (Lies.enc a).toArray, .agg (Lies.enc b).toArray] w0 fun v w' => v = .bool (decide (bfr a b)) ∧ Ext w0 w' := by
  refine Ct.intro1 Try.func22 Try.ntmps22 rfl rfl (by decide) rfl ?_
  have H : Ext w0 w0 := Ext.refl w0
  refine WP.regionS ?_
  refine RL.boxS w0.heap.size H.size rfl rfl ?_
  intro w1 i2 hi2 hx hb2
  replace H := H.ext hx; clear hx
  refine RL.boxS w0.heap.size H.size rfl rfl ?_
  intro w2 i3 hi3 hx hb3
  have ne2_3 := hb2.ne hi3
  replace H := H.ext hx; replace hb2 := hb2.ext hx; clear hx
  refine RL.r (asgB rfl) rfl ?_
  refine RL.nil ?_
  refine WP.seq ?_
  refine WP.regionS ?_
  refine RL.r (fa_box rfl) rfl ?_
  refine RL.m (ld_box rfl hb2 rfl) rfl ?_
  refine RL.r (fa_box rfl) rfl ?_
  refine RL.m (ld_box rfl hb3 rfl) rfl ?_
  refine RL.r (neq rfl rfl) rfl ?_
  refine RL.nil ?_
  refine WP.cond rfl (fun hc => ?_) (fun hc => ?_)
  · refine WP.regionS ?_
    refine RL.r (fa_box rfl) rfl ?_
    refine RL.m (ld_box rfl hb2 rfl) rfl ?_
    refine RL.r (fa_box rfl) rfl ?_
    refine RL.m (ld_box rfl hb3 rfl) rfl ?_
    refine RL.r (lss rfl rfl) rfl ?_
    refine RL.r (asgB rfl) rfl ?_
    refine RL.nil ?_
    refine WP.ret ?_
    refine fin1_ret rfl ⟨congrArg Value.bool (bD (by show _ ↔ ltK _ _; unfold ltK; simp only [key, Keyed.key]; omega)), H⟩
  · refine WP.skip ?_
    refine WP.seq ?_
    refine WP.regionS ?_
    refine RL.r (fa_box rfl) rfl ?_
    refine RL.r (fa_box rfl) rfl ?_
    refine RL.m (ld_box rfl hb2 rfl) rfl ?_
    refine RL.r (fa_box rfl) rfl ?_
    refine RL.r (fa_box rfl) rfl ?_
    refine RL.m (ld_box rfl hb3 rfl) rfl ?_
    refine RL.r (sneq rfl rfl) rfl ?_
    refine RL.nil ?_
    refine WP.cond rfl (fun hc => ?_) (fun hc => ?_)
    · refine WP.regionS ?_
      refine RL.r (fa_box rfl) rfl ?_
      refine RL.r (fa_box rfl) rfl ?_
      refine RL.m (ld_box rfl hb2 rfl) rfl ?_
      refine RL.r (fa_box rfl) rfl ?_
      refine RL.r (fa_box rfl) rfl ?_
      refine RL.m (ld_box rfl hb3 rfl) rfl ?_
      -- call stagecoach/stagecoachref04.Less (tmp 24) (tmp 27)
      refine RL.call (rLess _ _ _ (by omega)) rfl rfl ?_
      rintro _ w3 ⟨rfl, hx⟩
      replace H := H.ext hx; replace hb2 := hb2.ext hx; replace hb3 := hb3.ext hx
      refine RL.r (asgB rfl) rfl ?_
      refine RL.nil ?_
      refine WP.ret ?_
      refine fin1_ret rfl ⟨congrArg Value.bool (bD (by have e := Classical.not_not.1 ‹¬ a.id ≠ b.id›; show _ ↔ ltK _ _; unfold ltK; simp only [key, Keyed.key]; simp [e, hc])), H⟩
    · refine WP.skip ?_
      refine WP.regionS ?_
      refine RL.r (fa_box rfl) rfl ?_
      refine RL.r (fa_box rfl) rfl ?_
      refine RL.m (ld_box rfl hb2 rfl) rfl ?_
      refine RL.r (fa_box rfl) rfl ?_
      refine RL.r (fa_box rfl) rfl ?_
      refine RL.m (ld_box rfl hb3 rfl) rfl ?_
      refine RL.r (lss rfl rfl) rfl ?_
      refine RL.r (asgB rfl) rfl ?_
      refine RL.nil ?_
      refine WP.ret ?_
      refine fin1_ret rfl ⟨congrArg Value.bool (bD (by have e := Classical.not_not.1 ‹¬ a.id ≠ b.id›; have e2 := Classical.not_not.1 ‹¬ a.part.topic ≠ b.part.topic›; show _ ↔ ltK _ _; unfold ltK; simp only [key, Keyed.key]; simp [e, e2, slt_irrefl])), H⟩
end Go.Proofs.Ytbggmjnhfacjpaa
