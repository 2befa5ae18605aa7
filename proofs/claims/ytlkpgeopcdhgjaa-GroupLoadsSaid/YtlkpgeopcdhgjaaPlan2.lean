/-
  Plan2: walks and laws, written by gen/gen.py out of gen/thy/Plan2.py.
-/
import Derived.Test.YtlkpgeopcdhgjaaRRange
set_option linter.unusedVariables false
namespace Go.Proofs.Ytlkpgeopcdhgjaa
open Go Go.Eng Go.RowKit
noncomputable def wantL (m : List Mem) (t : ByteArray) (n : Nat) : List Int := ((List.range n).filter fun i => decide (wantsAt m i t)).map fun (i : Nat) => (i : Int)
theorem wantL_zero (m : List Mem) (t : ByteArray) : wantL m t 0 = [] := rfl
theorem wantL_yes {m : List Mem} {t : ByteArray} {n : Nat} (h : wantsAt m n t) : wantL m t (n + 1) = wantL m t n ++ [(n : Int)] := by
  simp [wantL, List.range_succ, List.filter_append, h]
theorem wantL_no {m : List Mem} {t : ByteArray} {n : Nat} (h : ¬ wantsAt m n t) : wantL m t (n + 1) = wantL m t n := by
  simp [wantL, List.range_succ, List.filter_append, h]
theorem wantL_length (m : List Mem) (t : ByteArray) : ∀ (n : Nat), n ≤ m.length → (wantL m t n).length = ahead m n t
  | 0, _ => by rw [wantL_zero, ahead_zero]; rfl
  | n + 1, h => by
    have ih := wantL_length m t n (by omega)
    by_cases hw : wantsAt m n t
    · rw [wantL_yes hw, ahead_yes (by omega) hw.2, List.length_append, ih]; rfl
    · rw [wantL_no hw, ahead_no (by omega) (fun h' => hw ⟨by omega, h'⟩), ih]
theorem wantL_get (m : List Mem) (t : ByteArray) : ∀ (n : Nat), n ≤ m.length → ∀ (k : Nat) (hk : k < (wantL m t n).length), ∃ i, ∃ hi : i < m.length, (wantL m t n)[k] = (i : Int) ∧ m[i].has t ∧ ahead m i t = k
  | 0, _, k, hk => by rw [wantL_zero] at hk; simp at hk
  | n + 1, h, k, hk => by
    by_cases hw : wantsAt m n t
    · have hl := wantL_length m t n (by omega)
      have he := wantL_yes hw
      by_cases hk' : k < (wantL m t n).length
      · obtain ⟨i, hi, h1, h2⟩ := wantL_get m t n (by omega) k hk'
        refine ⟨i, hi, ?_, h2⟩
        simp only [he, List.getElem_append_left hk', h1]
      · have hk2 : k = (wantL m t n).length := by
          rw [he, List.length_append] at hk
          simp only [List.length_singleton] at hk
          omega
        subst hk2
        refine ⟨n, by omega, ?_, hw.2, by omega⟩
        simp [he]
    · have he := wantL_no hw
      obtain ⟨i, hi, h1, h2⟩ := wantL_get m t n (by omega) k (by rw [he] at hk; exact hk)
      exact ⟨i, hi, by simp only [he, h1], h2⟩
theorem ahead_inj {m : List Mem} {t : ByteArray} {i k : Nat} (hi : i < m.length) (hk : k < m.length) (h1 : m[i].has t) (h2 : m[k].has t) (h : ahead m i t = ahead m k t) : i = k := by
  rcases Nat.lt_trichotomy i k with h3 | h3 | h3
  · have h4 := ahead_mono m t (i + 1) k h3 (by omega)
    rw [ahead_yes hi h1] at h4
    omega
  · exact h3
  · have h4 := ahead_mono m t (k + 1) i h3 (by omega)
    rw [ahead_yes hk h2] at h4
    omega
/-- row i when j topics are done, and of the next one the first k members that want it -/
noncomputable def rowAt (m : List Mem) (l : List Topic) (t : Topic) (j k : Nat) (i : Nat) : List Part := (l.take j).flatMap (part1 m i) ++ if wantsAt m i t.name ∧ ahead m i t.name < k then part1 m i t else []
noncomputable def gridAt (m : List Mem) (l : List Topic) (j : Nat) : List (List Part) := (List.range m.length).map fun i => (l.take j).flatMap (part1 m i)
noncomputable def gridAt2 (m : List Mem) (l : List Topic) (t : Topic) (j k : Nat) : List (List Part) := (List.range m.length).map (rowAt m l t j k)
theorem gridAt_zero (m : List Mem) (l : List Topic) : gridAt m l 0 = List.replicate m.length [] := by
  unfold gridAt
  apply List.ext_getElem (by simp)
  intro i h1 h2
  simp
theorem gridAt2_zero (m : List Mem) (l : List Topic) (t : Topic) (j : Nat) : gridAt2 m l t j 0 = gridAt m l j := by
  unfold gridAt2 gridAt rowAt
  apply List.map_congr_left
  intro i _
  simp
theorem gridAt2_full {m : List Mem} {l : List Topic} {j : Nat} (hj : j < l.length) : gridAt2 m l l[j] j (ahead m m.length l[j].name) = gridAt m l (j + 1) := by
  unfold gridAt2 gridAt rowAt
  apply List.map_congr_left
  intro i hi
  rw [flatMap_snoc _ _ _ hj]
  congr 1
  by_cases hw : wantsAt m i l[j].name
  · rw [if_pos ⟨hw, ahead_lt hw.1 hw.2⟩]
  · rw [if_neg (fun h => hw h.1), part1_no hw]
theorem gridAt2_step {m : List Mem} {l : List Topic} {t : Topic} {j k i : Nat} (hi : i < m.length) (hw : m[i].has t.name) (hk : ahead m i t.name = k) :
    (gridAt2 m l t j k).set i ((l.take j).flatMap (part1 m i) ++ part1 m i t) = gridAt2 m l t j (k + 1) := by
  apply List.ext_getElem (by simp [gridAt2])
  intro n h1 h2
  have hn : n < m.length := by simpa [gridAt2] using h2
  rw [List.getElem_set]
  by_cases hni : i = n
  · subst hni
    rw [if_pos rfl]
    simp only [gridAt2, List.getElem_map, List.getElem_range, rowAt]
    rw [if_pos ⟨⟨hi, hw⟩, by omega⟩]
  · rw [if_neg hni]
    simp only [gridAt2, List.getElem_map, List.getElem_range, rowAt]
    congr 1
    by_cases hwn : wantsAt m n t.name
    · have : ahead m n t.name ≠ k := fun e => hni (ahead_inj hi hn hw hwn.2 (by omega))
      by_cases hlt : ahead m n t.name < k
      · rw [if_pos ⟨hwn, hlt⟩, if_pos ⟨hwn, by omega⟩]
      · rw [if_neg (fun h => hlt h.2), if_neg (fun h => by omega)]
    · rw [if_neg (fun h => hwn h.1), if_neg (fun h => hwn h.1)]
theorem gridAt2_row {m : List Mem} {l : List Topic} {t : Topic} {j k i : Nat} (hi : i < m.length) (hk : ahead m i t.name = k) (h : i < (gridAt2 m l t j k).length) : (gridAt2 m l t j k)[i] = (l.take j).flatMap (part1 m i) := by
  simp only [gridAt2, List.getElem_map, List.getElem_range, rowAt]
  rw [if_neg (fun h => by omega), List.append_nil]
theorem gridAt_all (m : List Mem) (l : List Topic) (j : Nat) (hj : l.length ≤ j) : gridAt m l j = rangeG l m := by
  unfold gridAt rangeG rangeRow
  rw [List.take_of_length_le hj]
end Go.Proofs.Ytlkpgeopcdhgjaa
