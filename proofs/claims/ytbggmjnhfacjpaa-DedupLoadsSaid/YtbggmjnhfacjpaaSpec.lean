/-
  Spec: walks and laws, written by gen/gen.py out of gen/thy/Spec.py.
-/
import Derived.Test.YtbggmjnhfacjpaaTy
import Derived.Test.YtbggmjnhfacjpaaData
import Derived.Test.YtbggmjnhfacjpaaDraw
set_option linter.unusedVariables false
namespace Go.Proofs.Ytbggmjnhfacjpaa
open Go Go.Eng Go.RowKit
instance : Mixed Try.prog := ⟨by kernel_rfl⟩
/-! ### plain -/
def okb (c : UInt8) : Bool := decide (97 ≤ (c.toNat : Int) ∧ (c.toNat : Int) ≤ 122 ∨ 48 ≤ (c.toNat : Int) ∧ (c.toNat : Int) ≤ 57 ∨ (c.toNat : Int) = 45)
/-- may a text be a name? -/
def nameB (s : ByteArray) : Prop := 1 ≤ s.size ∧ s.size ≤ 16 ∧ ∀ (i : Nat) (h : i < s.size), okb s[i] = true
noncomputable instance (s : ByteArray) : Decidable (nameB s) := Classical.propDecidable _
theorem toList_get (s : ByteArray) (i : Nat) (h : i < s.size) : s.toList[i]? = some s[i] := by
  rw [ByteArray.toList_eq]; simp [h]; rfl
theorem toList_len (s : ByteArray) : s.toList.length = s.size := by rw [ByteArray.toList_eq]; rfl
theorem bytesLess_at : ∀ (x y : List UInt8) (j : Nat), (∀ i, i < j → x[i]? = y[i]?) → j ≤ x.length → j ≤ y.length → Op.bytesLess x y = Op.bytesLess (x.drop j) (y.drop j)
  | x, y, 0, _, _, _ => rfl
  | [], y, j + 1, _, h, _ => by simp at h
  | a :: x, [], j + 1, _, _, h => by simp at h
  | a :: x, b :: y, j + 1, h, h1, h2 => by
    have h0 := h 0 (by omega)
    simp at h0; subst h0
    have ih := bytesLess_at x y j (fun i hi => by simpa using h (i + 1) (by omega)) (by simpa using h1) (by simpa using h2)
    have hlt : ¬ a < a := by simp
    simp only [Op.bytesLess, List.drop_succ_cons, ← ih]
    simp
theorem slt_differ (a b : ByteArray) (j : Nat) (h : ∀ i, i < j → a.toList[i]? = b.toList[i]?) (ha : j < a.size) (hb : j < b.size) (hne : a[j] ≠ b[j]) : slt a b ↔ a[j] < b[j] := by
  have e1 := toList_get a j ha
  have e2 := toList_get b j hb
  have l1 := toList_len a
  have l2 := toList_len b
  unfold slt
  rw [bytesLess_at _ _ j h (by omega) (by omega), List.drop_eq_getElem_cons (l := a.toList) (by omega), List.drop_eq_getElem_cons (l := b.toList) (by omega)]
  rw [List.getElem?_eq_getElem (by omega)] at e1 e2
  simp only [Option.some.injEq] at e1 e2
  simp only [e1, e2, Op.bytesLess]
  have : (a[j] == b[j]) = false := by simpa using hne
  simp [this]
theorem slt_prefix (a b : ByteArray) (h : ∀ i, i < a.size → i < b.size → a.toList[i]? = b.toList[i]?) : slt a b ↔ a.size < b.size := by
  have l1 := toList_len a
  have l2 := toList_len b
  unfold slt
  by_cases hc : a.size < b.size
  · rw [bytesLess_at _ _ a.size (fun i hi => h i hi (by omega)) (by omega) (by omega), List.drop_of_length_le (l := a.toList) (by omega), List.drop_eq_getElem_cons (l := b.toList) (by omega)]
    simp [Op.bytesLess, hc]
  · rw [bytesLess_at _ _ b.size (fun i hi => h i (by omega) hi) (by omega) (by omega), List.drop_of_length_le (l := b.toList) (by omega)]
    cases a.toList.drop b.size <;> simp [Op.bytesLess, hc]
theorem rLess (w0 : World) (a b : ByteArray) (ha : a.size ≤ 9223372036854775806) :
    Ct Try.prog 46 #[.string a, .string b] w0 fun v w' => v = .bool (decide (slt a b)) ∧ Ext w0 w' := by
  refine Ct.intro1 Try.func46 Try.ntmps46 rfl rfl (by decide) rfl ?_
  have H : Ext w0 w0 := Ext.refl w0
  refine WP.regionS ?_
  refine RL.r (asgB rfl) rfl ?_
  refine RL.nil ?_
  refine WP.seq ?_
  refine WP.regionS ?_
  refine RL.r (asgI rfl) rfl ?_
  refine RL.nil ?_
  refine WP.block ?_
  refine WP.loop (fun k e' w' => ∃ j : Nat,  j + k = a.size ∧ Head [4, 5, 6, 7, 8, 9, 10, 11, 12, 13, 14, 15, 16, 17, 18, 19, 20, 21, 22, 23, 24, 25, 26, 27, 28, 29, 30, 31] _ [(5, .int .i64 (j : Int))] e' ∧ Ext w0 w' ∧ ∀ i, i < j → i < a.size ∧ i < b.size ∧ a.toList[i]? = b.toList[i]?) (a.size)
    ⟨0, by omega, Head.intro (AgreeOff.refl _ _) ⟨rfl, trivial⟩, H, by omega⟩ ?_
  clear H
  rintro k e w1 ⟨j, hjk, ⟨jk, rfl⟩, H, heq⟩
  refine WP.seq ?_
  refine WP.seq (WP.quiet ?_)
  refine QL.r (mvI rfl) rfl ?_
  refine QL.r (mvS rfl) rfl ?_
  refine QL.r (len_str rfl) rfl ?_
  refine QL.r (lss rfl rfl) rfl ?_
  refine QL.r (mvB rfl) rfl ?_
  refine QL.gg (gwT rfl rfl) (fun hg => (mvI rfl).does _) rfl ?_
  refine QL.gg (gwT rfl rfl) (fun hg => (mvS rfl).does _) rfl ?_
  refine QL.gg (gwT rfl rfl) (fun hg => (len_str (gs hg rfl)).does _) rfl ?_
  refine QL.gg (gwT rfl rfl) (fun hg => (lss (gs hg rfl) (gs hg rfl)).does _) rfl ?_
  refine QL.r (pickAnd rfl (fun hn => gs hn rfl)) rfl ?_
  refine QL.nil ?_; intro w2 hx; replace H := H.ext hx
  refine WP.cond rfl (fun hc => ?_) (fun hc => ?_)
  · refine WP.skip ?_
    refine WP.seq ?_
    refine WP.block ?_
    refine WP.seq ?_
    refine WP.draw (by kernel_rfl) ?_
    refine QL.r (mvS rfl) rfl ?_
    refine QL.r (mvI rfl) rfl ?_
    refine QL.r (ix_str rfl rfl rfl (by omega)) rfl ?_
    refine QL.r (mvS rfl) rfl ?_
    refine QL.r (mvI rfl) rfl ?_
    refine QL.r (ix_str rfl rfl rfl (by omega)) rfl ?_
    refine QL.r (neq rfl rfl) rfl ?_
    refine QL.nil ?_; intro w3 hx; replace H := H.ext hx
    refine WP.cond rfl (fun hc => ?_) (fun hc => ?_)
    · refine WP.seq ?_
      refine WP.draw (by kernel_rfl) ?_
      refine QL.r (mvS rfl) rfl ?_
      refine QL.r (mvI rfl) rfl ?_
      refine QL.r (ix_str rfl rfl rfl (by omega)) rfl ?_
      refine QL.r (mvS rfl) rfl ?_
      refine QL.r (mvI rfl) rfl ?_
      refine QL.r (ix_str rfl rfl rfl (by omega)) rfl ?_
      refine QL.r (lss rfl rfl) rfl ?_
      refine QL.r (asgB rfl) rfl ?_
      refine QL.nil ?_; intro w4 hx; replace H := H.ext hx
      refine WP.ret ?_
      refine fin1_ret rfl ⟨congrArg Value.bool (bD ?_), H⟩
      rw [slt_differ a b j (fun i hi => (heq i hi).2.2) (by omega) (by omega) (by intro h; rw [h] at hc; exact hc rfl), UInt8.lt_iff_toNat_lt]
      omega
    · refine WP.skip ?_
      refine WP.region ?_
      refine RL.r (mvI rfl) rfl ?_
      refine RL.r (add rfl rfl (by omega)) rfl ?_
      refine RL.r (asgI rfl) rfl ?_
      refine RL.nil ?_
      refine ⟨k - 1, by omega, j + 1, by omega, Head.intro (by repeat (first | with_reducible exact AgreeOff.mix _ _ _ | refine AgreeOff.look rfl ?_ | refine AgreeOff.mixs rfl ?_)) ⟨rfl, trivial⟩, H, fun i hi => ?_⟩
      by_cases h : i < j
      · exact heq i h
      · obtain rfl : i = j := by omega
        refine ⟨by omega, by omega, ?_⟩
        rw [toList_get a i (by omega), toList_get b i (by omega)]
        congr 1
        apply UInt8.toNat_inj.1
        omega
  · refine WP.exit ?_
    refine WP.regionS ?_
    refine RL.r (mvS rfl) rfl ?_
    refine RL.r (len_str rfl) rfl ?_
    refine RL.r (mvS rfl) rfl ?_
    refine RL.r (len_str rfl) rfl ?_
    refine RL.r (lss rfl rfl) rfl ?_
    refine RL.r (asgB rfl) rfl ?_
    refine RL.nil ?_
    refine WP.ret ?_
    refine fin1_ret rfl ⟨congrArg Value.bool (bD ?_), H⟩
    rw [slt_prefix a b (fun i h1 h2 => (heq i (by omega)).2.2)]
    omega
end Go.Proofs.Ytbggmjnhfacjpaa
