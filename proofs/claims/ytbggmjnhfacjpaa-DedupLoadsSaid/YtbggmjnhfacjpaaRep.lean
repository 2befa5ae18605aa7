/-
  Maps as lists in order: entries with keys of their own.
-/
import Derived.Test.YtbggmjnhfacjpaaEnt
set_option linter.unusedVariables false
namespace Go.Eng
open Go Go.RowKit

/-- keys in order -/
class KOrd (K : Type) where
  lt : K → K → Prop
  dec : ∀ a b, Decidable (lt a b)
  irr : ∀ a, ¬ lt a a
  tr : ∀ {a b c}, lt a b → lt b c → lt a c
  tri : ∀ {a b}, a ≠ b → lt a b ∨ lt b a
instance {K : Type} [KOrd K] (a b : K) : Decidable (KOrd.lt a b) := KOrd.dec a b
/-- things with keys -/
class Keyed (V : Type) (K : outParam Type) where
  key : V → K
/-- the key of a thing -/
abbrev key {V K : Type} [Keyed V K] (v : V) : K := Keyed.key v
/-- things that lie in maps -/
class Valued (V : Type) where
  val : V → Value
section
variable {V V' K : Type} [Keyed V K]
def bfr [KOrd K] (x y : V) : Prop := KOrd.lt (key x) (key y)
instance [KOrd K] (x y : V) : Decidable (bfr x y) := inferInstanceAs (Decidable (KOrd.lt _ _))
theorem bfr_trans [KOrd K] {x y z : V} (h : bfr x y) (k : bfr y z) : bfr x z := KOrd.tr h k
theorem bfr_irr [KOrd K] (x : V) : ¬ bfr x x := KOrd.irr _
theorem bfr_asymm [KOrd K] {x y : V} (h : bfr x y) : ¬ bfr y x := fun k => bfr_irr x (bfr_trans h k)
theorem bfr_key [KOrd K] {x y : V} (h : bfr x y) : key x ≠ key y := fun e => by unfold bfr at h; rw [e] at h; exact KOrd.irr _ h
theorem bfr_tri [KOrd K] {x y : V} (h : key x ≠ key y) : bfr x y ∨ bfr y x := KOrd.tri h
theorem bfr_congr [KOrd K] {x x' y y' : V} (h1 : key x = key x') (h2 : key y = key y') : bfr x y ↔ bfr x' y' := by unfold bfr; rw [h1, h2]
def eGet [DecidableEq K] (S : List V) (k : K) : Option V := S.find? fun x => decide (key x = k)
def ePut [KOrd K] (S : List V) (v : V) : List V := S.filter (fun x => decide (bfr x v)) ++ v :: S.filter (fun x => decide (bfr v x))
def eDel [DecidableEq K] (S : List V) (k : K) : List V := S.filter fun x => decide (key x ≠ k)
theorem srt_nodup [KOrd K] {S : List V} (hs : S.Pairwise bfr) : (S.map key).Nodup := List.pairwise_map.2 (hs.imp fun h => bfr_key h)
theorem key_inj {S : List V} (hn : (S.map key).Nodup) {x y : V} (hx : x ∈ S) (hy : y ∈ S) (h : key x = key y) : x = y := by
  obtain ⟨i, hi, rfl⟩ := List.getElem_of_mem hx
  obtain ⟨j, hj, rfl⟩ := List.getElem_of_mem hy
  have h1 : (S.map key)[i]? = (S.map key)[j]? := by simp [hi, hj, h]
  have : i = j := (List.getElem?_inj (by simpa using hi) hn).1 h1
  subst this
  rfl
theorem eGet_mem [DecidableEq K] {S : List V} (hn : (S.map key).Nodup) {x : V} (hx : x ∈ S) : eGet S (key x) = some x := by
  unfold eGet
  cases hf : S.find? fun y => decide (key y = key x) with
  | none => have := List.find?_eq_none.1 hf x hx; simp at this
  | some y =>
    have h1 := List.mem_of_find?_eq_some hf
    have h2 := List.find?_some hf
    have : y = x := key_inj hn h1 hx (by simpa using h2)
    subst this
    rfl
theorem eGet_none [DecidableEq K] {S : List V} {k : K} : eGet S k = none ↔ ∀ x ∈ S, key x ≠ k := by
  unfold eGet
  rw [List.find?_eq_none]
  simp
theorem eGet_some [DecidableEq K] {S : List V} {k : K} {v : V} (h : eGet S k = some v) : v ∈ S ∧ key v = k := by
  unfold eGet at h
  exact ⟨List.mem_of_find?_eq_some h, by simpa using List.find?_some h⟩
theorem eGet_ne [DecidableEq K] {S : List V} {k : K} : eGet S k ≠ none ↔ ∃ x ∈ S, key x = k := by
  rw [ne_eq, eGet_none]
  simp
theorem split3 [DecidableEq K] [KOrd K] {S : List V} (hn : (S.map key).Nodup) (m : V) : ∃ E : List V, S.Perm (S.filter (fun x => decide (bfr x m)) ++ (E ++ S.filter (fun x => decide (bfr m x)))) ∧ (∀ x ∈ E, key x = key m) ∧ E.length = if (eGet S (key m)).isSome then 1 else 0 := by
  refine ⟨S.filter (fun x => decide (key x = key m)), ?_, fun x hx => by simpa using (List.mem_filter.1 hx).2, ?_⟩
  · have h1 := List.filter_append_perm (fun x => decide (bfr x m)) S
    have h2 := List.filter_append_perm (fun x => decide (key x = key m)) (S.filter (fun x => !decide (bfr x m)))
    refine h1.symm.trans (List.Perm.append_left _ (h2.symm.trans ?_))
    rw [List.filter_filter, List.filter_filter]
    have e1 : S.filter (fun x => decide (key x = key m) && !decide (bfr x m)) = S.filter (fun x => decide (key x = key m)) := by
      apply List.filter_congr
      intro x _
      by_cases h : key x = key m
      · have : ¬ bfr x m := fun hb => bfr_key hb h
        simp [h, this]
      · simp [h]
    have e2 : S.filter (fun x => !decide (key x = key m) && !decide (bfr x m)) = S.filter (fun x => decide (bfr m x)) := by
      apply List.filter_congr
      intro x _
      by_cases h : key x = key m
      · have : ¬ bfr m x := fun hb => bfr_key hb h.symm
        simp [h, this]
      · rcases bfr_tri h with hb | hb
        · simp [h, hb, bfr_asymm hb]
        · simp [h, hb, bfr_asymm hb]
    rw [e1, e2]
  · cases hg : eGet S (key m) with
    | none =>
      rw [eGet_none] at hg
      have : S.filter (fun x => decide (key x = key m)) = [] := by
        rw [List.filter_eq_nil_iff]
        intro x hx
        simpa using hg x hx
      rw [this]; rfl
    | some y =>
      obtain ⟨hy, hk⟩ := eGet_some hg
      have hnd : (S.filter (fun x => decide (key x = key m))).Pairwise (fun a b => key a ≠ key b) := by
        have : S.Pairwise (fun a b => key a ≠ key b) := List.pairwise_map.1 hn
        exact this.sublist List.filter_sublist
      have hmem : y ∈ S.filter (fun x => decide (key x = key m)) := List.mem_filter.2 ⟨hy, by simpa using hk⟩
      have hall : ∀ x ∈ S.filter (fun x => decide (key x = key m)), key x = key m := fun x hx => by simpa using (List.mem_filter.1 hx).2
      match hE : S.filter (fun x => decide (key x = key m)) with
      | [] => rw [hE] at hmem; cases hmem
      | [_] => rfl
      | a :: b :: l =>
        rw [hE] at hnd hall
        have h1 := (List.pairwise_cons.1 hnd).1 b (by simp)
        exact absurd ((hall a (by simp)).trans (hall b (by simp)).symm) h1
theorem ePut_sorted [KOrd K] {S : List V} (hs : S.Pairwise bfr) (m : V) : (ePut S m).Pairwise bfr := by
  unfold ePut
  rw [List.pairwise_append]
  refine ⟨hs.sublist List.filter_sublist, ?_, ?_⟩
  · rw [List.pairwise_cons]
    exact ⟨fun x hx => by simpa using (List.mem_filter.1 hx).2, hs.sublist List.filter_sublist⟩
  · intro x hx y hy
    have h1 : bfr x m := by simpa using (List.mem_filter.1 hx).2
    rcases List.mem_cons.1 hy with rfl | hy
    · exact h1
    · have h2 : bfr m y := by simpa using (List.mem_filter.1 hy).2
      exact bfr_trans h1 h2
theorem ePut_mem [DecidableEq K] [KOrd K] {S : List V} {m x : V} : x ∈ ePut S m ↔ x = m ∨ (x ∈ S ∧ key x ≠ key m) := by
  unfold ePut
  simp only [List.mem_append, List.mem_cons, List.mem_filter, decide_eq_true_eq]
  constructor
  · rintro (⟨h1, h2⟩ | rfl | ⟨h1, h2⟩)
    · exact .inr ⟨h1, bfr_key h2⟩
    · exact .inl rfl
    · exact .inr ⟨h1, fun e => bfr_key h2 e.symm⟩
  · rintro (rfl | ⟨h1, h2⟩)
    · exact .inr (.inl rfl)
    · rcases bfr_tri h2 with h | h
      · exact .inl ⟨h1, h⟩
      · exact .inr (.inr ⟨h1, h⟩)
theorem ePut_len [DecidableEq K] [KOrd K] {S : List V} (hn : (S.map key).Nodup) (m : V) : (ePut S m).length = if (eGet S (key m)).isSome then S.length else S.length + 1 := by
  obtain ⟨E, hE, _, hl⟩ := split3 hn m
  have := hE.length_eq
  simp only [List.length_append] at this
  unfold ePut
  simp only [List.length_append, List.length_cons]
  split at hl <;> rename_i h
  · rw [if_pos h]; omega
  · rw [if_neg h]; omega
theorem ePut_le [KOrd K] (S : List V) (m : V) : (ePut S m).length ≤ S.length + 1 := by
  unfold ePut
  have h1 : (S.filter fun x => decide (bfr x m)).length + (S.filter fun x => decide (bfr m x)).length ≤ S.length := by
    induction S with
    | nil => simp
    | cons x S ih =>
      simp only [List.filter_cons]
      by_cases ha : bfr x m
      · simp [ha, bfr_asymm ha]; omega
      · by_cases hb : bfr m x
        · simp [ha, hb]; omega
        · simp [ha, hb]; omega
  simp only [List.length_append, List.length_cons]
  omega
theorem ePut_new [DecidableEq K] [KOrd K] {S : List V} (hn : (S.map key).Nodup) {m : V} (h : eGet S (key m) = none) : (ePut S m).Perm (S ++ [m]) := by
  obtain ⟨E, hE, _, hl⟩ := split3 hn m
  rw [h] at hl
  simp only [Option.isSome_none, Bool.false_eq_true, if_false] at hl
  have hE0 : E = [] := List.eq_nil_of_length_eq_zero hl
  subst hE0
  unfold ePut
  refine List.Perm.trans ?_ (hE.symm.append_right _)
  simp only [List.nil_append, List.append_assoc]
  exact List.Perm.append_left _ (List.perm_append_comm (l₁ := [m]))
theorem eDel_mem [DecidableEq K] {S : List V} {k : K} {x : V} : x ∈ eDel S k ↔ x ∈ S ∧ key x ≠ k := by unfold eDel; simp
theorem eDel_sorted [DecidableEq K] [KOrd K] {S : List V} (hs : S.Pairwise bfr) (k : K) : (eDel S k).Pairwise bfr := hs.sublist List.filter_sublist
theorem eDel_le [DecidableEq K] (S : List V) (k : K) : (eDel S k).length ≤ S.length := List.length_filter_le _ _
theorem eDel_none [DecidableEq K] {S : List V} {k : K} (h : eGet S k = none) : eDel S k = S := by
  unfold eDel
  rw [List.filter_eq_self]
  intro x hx
  simpa using eGet_none.1 h x hx
theorem eDel_len [DecidableEq K] [KOrd K] {S : List V} (hn : (S.map key).Nodup) (k : K) : (eDel S k).length = if (eGet S k).isSome then S.length - 1 else S.length := by
  cases hg : eGet S k with
  | none => rw [eDel_none hg]; rfl
  | some y =>
    obtain ⟨hy, hk⟩ := eGet_some hg
    subst hk
    have h1 := split3 hn y
    obtain ⟨E, hE, _, hl⟩ := h1
    rw [hg] at hl
    simp only [Option.isSome_some, if_true] at hl ⊢
    have h2 := hE.length_eq
    have h3 : (S.filter fun x => decide (key x = key y)).length = 1 := by
      have e1 : (S.filter fun x => decide (key x = key y)).Perm [y] := by
        rw [List.perm_ext_iff_of_nodup]
        · intro x
          simp only [List.mem_filter, decide_eq_true_eq, List.mem_singleton]
          constructor
          · rintro ⟨h1, h2⟩; exact key_inj hn h1 hy h2
          · rintro rfl; exact ⟨hy, rfl⟩
        · have : S.Nodup := (List.pairwise_map.1 hn).imp fun hab e => hab (by rw [e])
          exact this.sublist List.filter_sublist
        · simp
      exact e1.length_eq
    have h4 := List.length_eq_countP_add_countP (p := fun x : V => decide (key x = key y)) (l := S)
    rw [List.countP_eq_length_filter, List.countP_eq_length_filter, h3] at h4
    have h5 : (List.filter (fun x => !decide (key x = key y)) S) = eDel S (key y) := by
      unfold eDel
      apply List.filter_congr
      intro x _
      simp
    have h6 : (List.filter (fun a => decide (¬decide (key a = key y) = true)) S) = eDel S (key y) := by
      unfold eDel
      apply List.filter_congr
      intro x _
      simp
    rw [h6] at h4
    omega
theorem sorted_eq [KOrd K] {S S' : List V} (hs : S.Pairwise bfr) (hs' : S'.Pairwise bfr) (hp : S.Perm S') : S = S' :=
  List.Perm.eq_of_pairwise (le := bfr) (fun a b _ _ h1 h2 => absurd h2 (bfr_asymm h1)) hs hs' hp
theorem ePut_last [KOrd K] {S : List V} {m : V} (h : ∀ x ∈ S, bfr x m) : ePut S m = S ++ [m] := by
  unfold ePut
  rw [List.filter_eq_self.2 (fun x hx => by simpa using h x hx), List.filter_eq_nil_iff.2 (fun x hx => by simpa using bfr_asymm (h x hx))]
theorem srt_take [KOrd K] {l : List V} {j : Nat} (hj : j < l.length) (hs : (l.take j).Pairwise bfr) (h : 0 < j → bfr (l[j - 1]'(by omega)) l[j]) : (l.take (j + 1)).Pairwise bfr := by
  rw [List.take_succ_eq_append_getElem hj, List.pairwise_append]
  refine ⟨hs, by simp, ?_⟩
  intro x hx y hy
  obtain rfl := List.mem_singleton.1 hy
  obtain ⟨i, hi, rfl⟩ := List.getElem_of_mem hx
  rw [List.length_take] at hi
  rw [List.getElem_take]
  have h0 := h (by omega)
  rcases Nat.lt_or_ge i (j - 1) with h1 | h1
  · have h2 := List.pairwise_iff_getElem.1 hs i (j - 1) (by rw [List.length_take]; omega) (by rw [List.length_take]; omega) h1
    rw [List.getElem_take, List.getElem_take] at h2
    exact bfr_trans h2 h0
  · obtain rfl : i = j - 1 := by omega
    exact h0
theorem ePut_take [KOrd K] {l : List V} {j : Nat} (hj : j < l.length) (hs : (l.take (j + 1)).Pairwise bfr) : ePut (l.take j) l[j] = l.take (j + 1) := by
  rw [List.take_succ_eq_append_getElem hj] at hs ⊢
  exact ePut_last fun x hx => (List.pairwise_append.1 hs).2.2 x hx _ (by simp)
theorem srt_of [KOrd K] {l : List V} (h : ∀ (i : Nat) (h : i < l.length), 0 < i → bfr l[i - 1] l[i]) : l.Pairwise bfr := by
  rw [List.pairwise_iff_getElem]
  intro i j hi hj hij
  induction j with
  | zero => omega
  | succ j ih =>
    have h1 := h (j + 1) hj (by omega)
    simp only [Nat.add_sub_cancel] at h1
    rcases Nat.lt_or_ge i j with h2 | h2
    · exact bfr_trans (ih (by omega) h2) h1
    · obtain rfl : i = j := by omega
      exact h1
/-- where something is put -/
theorem ePut_split [DecidableEq K] [KOrd K] {S : List V} (hs : S.Pairwise bfr) (x : V) {j : Nat} (hj : j ≤ S.length) (hb : ∀ (n : Nat) (h : n < S.length), n < j → bfr S[n] x) (he : ∀ h : j < S.length, ¬ bfr S[j] x) : ePut S x = S.take j ++ [x] ++ S.drop (if eGet S (key x) ≠ none then j + 1 else j) ∧ (eGet S (key x) ≠ none → j < S.length) := by
  have e1 : S.filter (fun y => decide (bfr y x)) = S.take j := by
    conv => lhs; rw [← List.take_append_drop j S, List.filter_append]
    rw [List.filter_eq_self.2, List.filter_eq_nil_iff.2, List.append_nil]
    · intro y hy hy2
      have hy2 : bfr y x := by simpa using hy2
      obtain ⟨n, hn, rfl⟩ := List.getElem_of_mem hy
      rw [List.length_drop] at hn
      rw [List.getElem_drop] at hy2
      have hjl : j < S.length := by omega
      rcases Nat.eq_zero_or_pos n with h0 | h0
      · subst h0; exact he hjl hy2
      · exact he hjl (bfr_trans (List.pairwise_iff_getElem.1 hs j (j + n) hjl (by omega) (by omega)) hy2)
    · intro y hy
      obtain ⟨n, hn, rfl⟩ := List.getElem_of_mem hy
      rw [List.length_take] at hn
      rw [List.getElem_take]
      simpa using hb n (by omega) (by omega)
  have hpre : ∀ y ∈ S.take j, ¬ bfr x y := by
    intro y hy
    obtain ⟨n, hn, rfl⟩ := List.getElem_of_mem hy
    rw [List.length_take] at hn
    rw [List.getElem_take]
    exact bfr_asymm (hb n (by omega) (by omega))
  have hnot : ∀ (n : Nat) (h : n < S.length), j ≤ n → ¬ bfr S[n] x := by
    intro n h hjn hy
    rcases Nat.eq_or_lt_of_le hjn with h0 | h0
    · subst h0; exact he h hy
    · exact he (by omega) (bfr_trans (List.pairwise_iff_getElem.1 hs j n (by omega) h h0) hy)
  by_cases hp : eGet S (key x) ≠ none
  · rw [if_pos hp]
    obtain ⟨e, hemem, hek⟩ := eGet_ne.1 hp
    obtain ⟨n, hn, rfl⟩ := List.getElem_of_mem hemem
    have hnj : j ≤ n := by
      rcases Nat.lt_or_ge n j with h | h
      · exact absurd hek (bfr_key (hb n hn h))
      · exact h
    have hnj2 : n = j := by
      rcases Nat.eq_or_lt_of_le hnj with h0 | h0
      · exact h0.symm
      · have h1 := List.pairwise_iff_getElem.1 hs j n (by omega) hn h0
        exact absurd ((bfr_congr rfl hek).1 h1) (hnot j (by omega) (Nat.le_refl _))
    subst hnj2
    refine ⟨?_, fun _ => hn⟩
    unfold ePut
    rw [e1]
    have e2 : S.filter (fun y => decide (bfr x y)) = S.drop (n + 1) := by
      conv => lhs; rw [← List.take_append_drop n S, List.filter_append]
      rw [List.filter_eq_nil_iff.2 (fun y hy h => hpre y hy (by simpa using h)), List.nil_append, List.drop_eq_getElem_cons hn, List.filter_cons_of_neg (fun h => bfr_key (x := x) (y := S[n]) (by simpa using h) hek.symm)]
      rw [List.filter_eq_self]
      intro y hy
      obtain ⟨k, hk, rfl⟩ := List.getElem_of_mem hy
      rw [List.length_drop] at hk
      rw [List.getElem_drop]
      have h1 := List.pairwise_iff_getElem.1 hs n (n + 1 + k) hn (by omega) (by omega)
      simpa using (bfr_congr hek rfl).1 h1
    rw [e2]; simp
  · rw [if_neg hp]
    refine ⟨?_, fun h => absurd h hp⟩
    have hp : eGet S (key x) = none := Classical.not_not.1 hp
    rw [eGet_none] at hp
    unfold ePut
    rw [e1]
    have e2 : S.filter (fun y => decide (bfr x y)) = S.drop j := by
      conv => lhs; rw [← List.take_append_drop j S, List.filter_append]
      rw [List.filter_eq_nil_iff.2 (fun y hy h => hpre y hy (by simpa using h)), List.nil_append, List.filter_eq_self]
      intro y hy
      obtain ⟨k, hk, rfl⟩ := List.getElem_of_mem hy
      rw [List.length_drop] at hk
      rw [List.getElem_drop]
      have h2 := hp S[j + k] (List.getElem_mem _)
      rcases bfr_tri h2 with h3 | h3
      · exact absurd h3 (hnot _ (by omega) (by omega))
      · simpa using h3
    rw [e2]; simp
/-! ### what keeps keys -/
theorem bfr_map [KOrd K] [Keyed V' K] {f : V → V'} (hf : ∀ v, key (f v) = key v) (x y : V) : bfr (f x) (f y) ↔ bfr x y := by unfold bfr; rw [hf, hf]
theorem eGet_map [DecidableEq K] [Keyed V' K] {f : V → V'} (hf : ∀ v, key (f v) = key v) (S : List V) (k : K) : eGet (S.map f) k = (eGet S k).map f := by
  unfold eGet
  rw [List.find?_map]
  congr 2
  funext x
  simp [hf]
theorem ePut_map [KOrd K] [Keyed V' K] {f : V → V'} (hf : ∀ v, key (f v) = key v) (S : List V) (v : V) : ePut (S.map f) (f v) = (ePut S v).map f := by
  unfold ePut
  rw [List.filter_map, List.filter_map, List.map_append, List.map_cons]
  congr 2
  · congr 2
    funext x
    simp [bfr_map hf]
  · congr 2
    funext x
    simp [bfr_map hf]
theorem eDel_map [DecidableEq K] [Keyed V' K] {f : V → V'} (hf : ∀ v, key (f v) = key v) (S : List V) (k : K) : eDel (S.map f) k = (eDel S k).map f := by
  unfold eDel
  rw [List.filter_map]
  congr 2
  funext x
  simp [hf]
theorem srt_map [KOrd K] [Keyed V' K] {f : V → V'} (hf : ∀ v, key (f v) = key v) (S : List V) : (S.map f).Pairwise bfr ↔ S.Pairwise bfr := by
  rw [List.pairwise_map]
  constructor
  · exact fun h => h.imp fun h => (bfr_map hf _ _).1 h
  · exact fun h => h.imp fun h => (bfr_map hf _ _).2 h
end
/-! ### the map's entries -/
section
variable {V K : Type} [Keyed V K] [Valued V]
def prS (x : V) : K × Value := (key x, Valued.val x)
def prB (x : K × Value × Nat) : K × Value := (x.1, x.2.1)
/-- the map's entries are those of S -/
def Rep (lb : List (K × Value × Nat)) (S : List V) : Prop := (lb.map prB).Perm (S.map prS)
variable {lb : List (K × Value × Nat)} {S : List V}
theorem rep_keys (h : Rep lb S) : (lb.map (·.1)).Perm (S.map key) := by
  have := h.map Prod.fst
  rw [List.map_map, List.map_map] at this
  exact this
theorem rep_nodup (h : Rep lb S) (hn : (lb.map (·.1)).Nodup) : (S.map key).Nodup := (rep_keys h).nodup_iff.1 hn
theorem rep_len (h : Rep lb S) : lb.length = S.length := by
  have := h.length_eq
  simpa using this
theorem rep_get [DecidableEq K] (h : Rep lb S) (hn : (lb.map (·.1)).Nodup) (k : K) : getB lb k = (eGet S k).map Valued.val := by
  have hnS := rep_nodup h hn
  cases hg : eGet S k with
  | none =>
    rw [eGet_none] at hg
    rw [Option.map_none, getB_none]
    intro x hx e
    have : x.1 ∈ S.map key := (rep_keys h).mem_iff.1 (List.mem_map.2 ⟨x, hx, rfl⟩)
    obtain ⟨y, hy, hy2⟩ := List.mem_map.1 this
    exact hg y hy (hy2.trans e)
  | some y =>
    obtain ⟨hy, rfl⟩ := eGet_some hg
    have : prS y ∈ lb.map prB := h.mem_iff.2 (List.mem_map.2 ⟨y, hy, rfl⟩)
    obtain ⟨x, hx, hx2⟩ := List.mem_map.1 this
    have e1 : x.1 = key y := congrArg Prod.fst hx2
    have e2 : x.2.1 = Valued.val y := congrArg Prod.snd hx2
    rw [← e1, getB_mem hn hx, e2]
    rfl
theorem rep_put [DecidableEq K] [KOrd K] (h : Rep lb S) (hn : (lb.map (·.1)).Nodup) (c : Nat) (m : V) : Rep (setB lb c (key m) (Valued.val m)) (ePut S m) := by
  have hnS := rep_nodup h hn
  obtain ⟨E, hE, hk, hl⟩ := split3 hnS m
  have hg := rep_get h hn (key m)
  unfold Rep setB ePut
  cases hq : eGet S (key m) with
  | none =>
    rw [hq] at hg hl
    simp only [Option.map_none] at hg
    simp only [Option.isSome_none, Bool.false_eq_true, if_false] at hl
    have hE0 : E = [] := List.eq_nil_of_length_eq_zero hl
    subst hE0
    rw [hg]
    simp only [Option.isSome_none, Bool.false_eq_true, if_false, List.map_append, List.map_cons, List.map_nil]
    have h1 := h.trans (hE.map prS)
    simp only [List.nil_append, List.map_append] at h1
    refine ((h1.append_right _).trans ?_)
    rw [List.append_assoc]
    refine List.Perm.append_left _ ?_
    exact (List.perm_append_comm (l₁ := List.map prS (S.filter fun x => decide (bfr m x))) (l₂ := [prB (key m, Valued.val m, c)]))
  | some v =>
    rw [hq] at hg hl
    simp only [Option.map_some] at hg
    simp only [Option.isSome_some, if_true] at hl
    obtain ⟨e0, rfl⟩ := List.length_eq_one_iff.1 hl
    rw [hg]
    simp only [Option.isSome_some, if_true]
    let g : K × Value → K × Value := fun p => if p.1 = key m then (key m, Valued.val m) else p
    have e1 : (lb.map (fun x => if x.1 = key m then (key m, Valued.val m, x.2.2) else x)).map prB = (lb.map prB).map g := by
      rw [List.map_map, List.map_map]
      apply List.map_congr_left
      intro x _
      simp only [Function.comp, prB, g]
      split <;> rfl
    rw [e1]
    refine (h.map g).trans ?_
    refine ((hE.map prS).map g).trans ?_
    simp only [List.map_append, List.map_cons, List.map_nil]
    have keep : ∀ l : List V, (∀ x ∈ l, key x ≠ key m) → (l.map prS).map g = l.map prS := by
      intro l hl
      rw [List.map_map]
      apply List.map_congr_left
      intro x hx
      simp only [Function.comp, prS, g]
      rw [if_neg (hl x hx)]
    rw [keep _ (fun x hx => bfr_key (by simpa using (List.mem_filter.1 hx).2)), keep _ (fun x hx e => bfr_key (by simpa using (List.mem_filter.1 hx).2) e.symm)]
    have : g (prS e0) = prS m := by
      simp only [g, prS]
      rw [if_pos (hk e0 (by simp))]
    rw [this]
    exact List.Perm.refl _
theorem rep_del [DecidableEq K] (h : Rep lb S) (k : K) : Rep (delB lb k) (eDel S k) := by
  have h1 := h.filter fun p => decide (p.1 ≠ k)
  rw [List.filter_map, List.filter_map] at h1
  unfold Rep delB eDel
  refine List.Perm.trans (List.Perm.of_eq ?_) (h1.trans (List.Perm.of_eq ?_))
  · congr 1
    apply List.filter_congr
    intro x _
    by_cases h : x.1 = k <;> simp [prB, h]
  · congr 1
end
/-! ### going over a map -/
section
variable {K : Type}
/-- the entries that a range has been at -/
structure Seen (lb done : List (K × Value × Nat)) (seen : Array Nat) : Prop where
  eq : seen = (done.map (·.2.2)).toArray
  nod : (done.map (·.2.2)).Nodup
  sub : ∀ x ∈ done, x ∈ lb
theorem Seen.nil (lb : List (K × Value × Nat)) : Seen lb [] #[] := ⟨rfl, by simp, by simp⟩
theorem Seen.push {lb done : List (K × Value × Nat)} {seen : Array Nat} (h : Seen lb done seen) {q : K × Value × Nat} (hq : q ∈ lb) (hn : seen.contains q.2.2 = false) : Seen lb (done ++ [q]) (seen.push q.2.2) := by
  refine ⟨by rw [h.eq]; simp, ?_, fun x hx => ?_⟩
  · rw [List.map_append, List.nodup_append]
    refine ⟨h.nod, by simp, ?_⟩
    intro a ha b hb e
    simp only [List.map_cons, List.map_nil, List.mem_singleton] at hb
    subst hb
    subst e
    rw [h.eq] at hn
    simp at hn
    obtain ⟨x, hx, hx2⟩ := List.mem_map.1 ha
    exact hn x.1 x.2.1 (by rw [← hx2]; exact hx)
  · rcases List.mem_append.1 hx with hx | hx
    · exact h.sub x hx
    · rw [List.mem_singleton.1 hx]; exact hq
theorem nodup_of_map {α β : Type} {f : α → β} {l : List α} (h : (l.map f).Nodup) : l.Nodup := (List.pairwise_map.1 h).imp fun hab e => hab (by rw [e])
theorem Seen.le [DecidableEq K] {lb done : List (K × Value × Nat)} {seen : Array Nat} (h : Seen lb done seen) : done.length ≤ lb.length :=
  List.Nodup.length_le_of_subset (nodup_of_map h.nod) h.sub
theorem Seen.perm {lb done : List (K × Value × Nat)} {seen : Array Nat} (h : Seen lb done seen) (hb : (lb.map (·.2.2)).Nodup) (ha : ∀ x ∈ lb, seen.contains x.2.2 = true) : done.Perm lb := by
  rw [List.perm_ext_iff_of_nodup (nodup_of_map h.nod) (nodup_of_map hb)]
  intro x
  refine ⟨h.sub x, fun hx => ?_⟩
  have h1 := ha x hx
  rw [h.eq] at h1
  have h2 : x.2.2 ∈ done.map (·.2.2) := by simpa using h1
  obtain ⟨y, hy, hy2⟩ := List.mem_map.1 h2
  obtain ⟨i, hi, rfl⟩ := List.getElem_of_mem (h.sub y hy)
  obtain ⟨j, hj, rfl⟩ := List.getElem_of_mem hx
  have h6 : (lb.map (·.2.2))[i]? = (lb.map (·.2.2))[j]? := by simp [hi, hj, hy2]
  have h7 : i = j := (List.getElem?_inj (by simpa using hi) hb).1 h6
  subst h7
  exact hy
/-- an entry that has not been seen has a key of its own -/
theorem Seen.fresh [DecidableEq K] {lb done : List (K × Value × Nat)} {seen : Array Nat} (h : Seen lb done seen) (hn : (lb.map (·.1)).Nodup) {q : K × Value × Nat} (hq : q ∈ lb) (hs : seen.contains q.2.2 = false) : ∀ x ∈ done, x.1 ≠ q.1 := by
  intro x hx e
  obtain ⟨i, hi, rfl⟩ := List.getElem_of_mem hq
  obtain ⟨j, hj, hj2⟩ := List.getElem_of_mem (h.sub x hx)
  have : j = i := nodup_at hn hj hi (by rw [hj2, e])
  subst this
  rw [h.eq] at hs
  simp at hs
  exact hs x.1 x.2.1 (by rw [hj2]; exact hx)
end
end Go.Eng
