/-
  One call of a script, on marks.
-/
import Derived.Test.YtmjamhgihbapjaaLoads12
set_option linter.unusedVariables false
namespace Go.Proofs.Ytmjamhgihbapjaa
open Go Go.Eng Go.RowKit
theorem getS_put {S : List Mrk} (hs : S.Pairwise bef) (X : Mrk) (k : MKey) : getS (putS S X) k = if X.key = k then some X.off else getS S k := by
  have hn := sorted_nodup (putS_sorted hs X)
  by_cases h : X.key = k
  · subst h
    rw [if_pos rfl]
    exact getS_mem hn (putS_mem.2 (.inl rfl))
  · rw [if_neg h]
    cases hg : getS S k with
    | none =>
      rw [getS_none] at hg ⊢
      intro x hx
      rcases putS_mem.1 hx with rfl | ⟨hx, _⟩
      · exact h
      · exact hg x hx
    | some v =>
      obtain ⟨x, hx, rfl, rfl⟩ := getS_some hg
      exact getS_mem hn (putS_mem.2 (.inr ⟨hx, bef_tri (fun e => h e.symm)⟩))
theorem getS_raise (S : List Mrk) (p : Part) (least : Int) (k : MKey) : getS (raiseS S p least) k = (getS S k).map fun v => if (k.topic = p.topic ∧ k.n = p.n) ∧ v < least then least else v := by
  unfold getS raiseS
  rw [List.find?_map]
  have e : (fun x : Mrk => decide (x.key = k)) ∘ raise1 p least = fun x => decide (x.key = k) := by
    funext x
    simp only [Function.comp, raise1_key]
  rw [e, Option.map_map, Option.map_map]
  cases hf : S.find? fun x => decide (x.key = k) with
  | none => rfl
  | some x =>
    have hk : x.key = k := by simpa using List.find?_some hf
    subst hk
    show some (raise1 p least x).off = some (if (x.topic = p.topic ∧ x.n = p.n) ∧ x.off < least then least else x.off)
    unfold raise1
    split <;> rfl
theorem getS_drop {S : List Mrk} (hs : S.Pairwise bef) (g : ByteArray) (k : MKey) : getS (dropS S g) k = if k.group = g then none else getS S k := by
  have hn : (dropS S g).Pairwise bef := hs.sublist List.filter_sublist
  by_cases h : k.group = g
  · rw [if_pos h, getS_none]
    intro x hx e
    have := (List.mem_filter.1 hx).2
    rw [← e] at h
    simp only [decide_eq_true_eq] at this
    exact this h
  · rw [if_neg h]
    cases hg : getS S k with
    | none =>
      rw [getS_none] at hg ⊢
      exact fun x hx => hg x (List.mem_filter.1 hx).1
    | some v =>
      obtain ⟨x, hx, rfl, rfl⟩ := getS_some hg
      exact getS_mem (sorted_nodup hn) (List.mem_filter.2 ⟨hx, decide_eq_true (show x.group ≠ g from h)⟩)
/-- a call of a script -/
noncomputable def stepS (S : List Mrk) (k : Int) (X : Mrk) : List Mrk := if k = 0 then putR S X else if k = 1 then raiseT S ⟨X.topic, X.n⟩ X.off else if k = 2 then dropS S X.group else S
theorem stepS_len (S : List Mrk) (k : Int) (X : Mrk) : (stepS S k X).length ≤ S.length + 1 := by
  unfold stepS putR raiseT dropS raiseS
  have h1 := putS_length S X
  have h2 := List.length_filter_le (fun x : Mrk => decide (x.group ≠ X.group)) S
  repeat' split
  all_goals first | omega | (rw [List.length_map]; omega)
theorem getS_numB {S : List Mrk} (hm : ∀ x ∈ S, mayM x) (k : MKey) : numB ((getS S k).getD 0) := by
  cases hg : getS S k with
  | none => exact ⟨by decide, by decide⟩
  | some v => obtain ⟨x, hx, _, rfl⟩ := getS_some hg; exact (hm x hx).2.2.2
theorem putE_zero {S : List Mrk} {X : Mrk} (h : putE S X = 0) : mayM X ∧ (getS S X.key).getD 0 ≤ X.off := by
  unfold putE at h
  split at h
  · cases h
  · rename_i h1
    split at h
    · cases h
    · exact ⟨Classical.not_not.1 h1, by omega⟩
theorem putE_back {S : List Mrk} {X : Mrk} (h : putE S X = 120) : mayM X ∧ X.off < (getS S X.key).getD 0 := by
  unfold putE at h
  split at h
  · cases h
  · rename_i h1
    split at h
    · exact ⟨Classical.not_not.1 h1, by assumption⟩
    · cases h
/-- a put, and what is got -/
theorem put_got {S : List Mrk} (hs : S.Pairwise bef) (X : Mrk) : (putE S X = 0 → getS (putR S X) X.key = some X.off) ∧ (putE S X = 120 → X.off < (getS (putR S X) X.key).getD 0 ∧ getS (putR S X) X.key ≠ none) := by
  constructor
  · intro h
    unfold putR
    rw [if_pos h, getS_put hs, if_pos rfl]
  · intro h
    obtain ⟨hm, h1⟩ := putE_back h
    unfold putR
    rw [if_neg (by rw [h]; decide)]
    refine ⟨h1, fun e => ?_⟩
    rw [e] at h1
    have := hm.2.2.2.1
    simp at h1
    omega
section
variable {S : List Mrk} (hs : S.Pairwise bef) (hm : ∀ x ∈ S, mayM x) (k : Int) (X m : Mrk)
include hs
theorem step_gone (h : k = 2 ∧ X.group = m.group) : getS (stepS S k X) m.key = none := by
  obtain ⟨rfl, h⟩ := h
  unfold stepS
  rw [if_neg (by decide), if_neg (by decide), if_pos rfl, getS_drop hs, if_pos (show m.key.group = X.group from h.symm)]
theorem step_rise (h : ¬ (k = 2 ∧ X.group = m.group)) : (getS S m.key ≠ none → getS (stepS S k X) m.key ≠ none) ∧ (getS S m.key).getD 0 ≤ (getS (stepS S k X) m.key).getD 0 := by
  unfold stepS
  split
  · unfold putR
    split
    · rename_i h0
      obtain ⟨h1, h2⟩ := putE_zero h0
      rw [getS_put hs]
      split
      · rename_i e
        rw [← e]
        exact ⟨fun _ => by simp, h2⟩
      · exact ⟨fun h => h, Int.le_refl _⟩
    · exact ⟨fun h => h, Int.le_refl _⟩
  · split
    · unfold raiseT
      split
      · exact ⟨fun h => h, Int.le_refl _⟩
      · rw [getS_raise]
        cases getS S m.key with
        | none => exact ⟨fun h => absurd rfl h, Int.le_refl _⟩
        | some v =>
          refine ⟨fun _ => by simp, ?_⟩
          simp only [Option.map_some, Option.getD_some]
          split <;> omega
    · split
      · rename_i h2
        rw [getS_drop hs, if_neg (show ¬ m.key.group = X.group from fun e => h ⟨h2, e.symm⟩)]
        exact ⟨fun h => h, Int.le_refl _⟩
      · exact ⟨fun h => h, Int.le_refl _⟩
theorem step_other (h : (⟨X.topic, X.n⟩ : Part) ≠ ⟨m.topic, m.n⟩ ∨ k = 0 ∧ X.group ≠ m.group) (h2 : k ≠ 2) : getS (stepS S k X) m.key = getS S m.key := by
  unfold stepS
  split
  · have hk : X.key ≠ m.key := by
      intro e
      obtain ⟨e1, e2, e3⟩ := Mrk.key_eq.1 e
      rcases h with h | h
      · exact h (by rw [e2, e3])
      · exact h.2 e1
    unfold putR
    split
    · rw [getS_put hs, if_neg hk]
    · rfl
  · rename_i h0
    split
    · have hp : ¬ (m.key.topic = (⟨X.topic, X.n⟩ : Part).topic ∧ m.key.n = (⟨X.topic, X.n⟩ : Part).n) := by
        rintro ⟨e1, e2⟩
        rcases h with h | h
        · exact h (by rw [Part.mk.injEq]; exact ⟨e1.symm, e2.symm⟩)
        · exact h0 h.1
      unfold raiseT
      split
      · rfl
      · rw [getS_raise]
        cases getS S m.key with
        | none => rfl
        | some v => simp only [Option.map_some]; rw [if_neg (fun e => hp e.1)]
    · first | rfl | rw [if_neg h2]
end
theorem lCutE (w0 : World) {m X : Mrk} (h : X = cutM m) : Ct Try.prog 9 #[.agg (Lies.enc m).toArray] w0 fun v w' => v = .agg (Lies.enc X).toArray ∧ Ext w0 w' := by
  subst h
  exact lCut w0 m
theorem rise_fin {S : List Mrk} (hs : S.Pairwise bef) (k : Int) (X M : Mrk) (hc : ((k = 2 ∧ X.group = M.group) ∧ (getS (stepS S k X) M.key ≠ none ∨ (getS (stepS S k X) M.key).getD 0 ≠ 0) ∨
    ¬ (k = 2 ∧ X.group = M.group) ∧ (getS S M.key ≠ none ∧ ¬ getS (stepS S k X) M.key ≠ none ∨ (getS (stepS S k X) M.key).getD 0 < (getS S M.key).getD 0)) ∨
    ((((⟨X.topic, X.n⟩ : Part) ≠ ⟨M.topic, M.n⟩ ∨ k = 0 ∧ X.group ≠ M.group) ∧ ¬ (k = 2 ∧ X.group = M.group)) ∧ k ≠ 2) ∧ (getS (stepS S k X) M.key).getD 0 ≠ (getS S M.key).getD 0) : False := by
  rcases hc with (⟨h, hc⟩ | ⟨h, hc⟩) | ⟨⟨⟨h1, _⟩, h2⟩, hc⟩
  · have := step_gone hs k X M h
    rw [this] at hc
    rcases hc with hc | hc
    · exact hc rfl
    · exact hc rfl
  · obtain ⟨h1, h2⟩ := step_rise hs k X M h
    rcases hc with ⟨h3, h4⟩ | hc
    · exact h4 (h1 h3)
    · omega
  · rw [step_other hs k X M h1 h2] at hc
    exact hc rfl
end Go.Proofs.Ytmjamhgihbapjaa
