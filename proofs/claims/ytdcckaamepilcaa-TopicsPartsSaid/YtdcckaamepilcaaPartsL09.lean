/-
  TopicsParts: the plain law.
-/
import Derived.Test.YtdcckaamepilcaaOpen09
set_option linter.unusedVariables false
namespace Go.Proofs.Ytdcckaamepilcaa
open Go Go.Eng Go.RowKit
def sumN (S : List Topic) (j : Nat) : Int := ((S.take j).map Topic.n).sum
theorem sumN_0 (S : List Topic) : sumN S 0 = 0 := rfl
theorem sumN_s {S : List Topic} {j : Nat} (h : j < S.length) : sumN S (j + 1) = sumN S j + S[j].n := by
  unfold sumN
  rw [List.take_succ_eq_append_getElem h, List.map_append, List.sum_append]
  simp
theorem sumN_b {S : List Topic} (h : ∀ x ∈ S, topicOk x) : ∀ j, j ≤ S.length → 0 ≤ sumN S j ∧ sumN S j ≤ 8 * j
  | 0, _ => by simp [sumN]
  | j + 1, hj => by
    rw [sumN_s (show j < S.length by omega)]
    have h1 := sumN_b h j (by omega)
    have h2 := (h (S[j]'(by omega)) (List.getElem_mem _)).2
    omega
def allP (S : List Topic) : List Part := S.flatMap fun t => strip t.name 0 t.n.toNat
theorem parts_all {S : List Topic} {names : List ByteArray} (h : ∀ x ∈ S, x.name ∈ names) : partsC S names = allP S := by
  unfold partsC allP
  induction S with
  | nil => rfl
  | cons x S ih =>
    rw [List.flatMap_cons, List.flatMap_cons, ih (fun y hy => h y (List.mem_cons_of_mem _ hy))]
    congr 1
    unfold prS
    rw [if_pos (h x List.mem_cons_self)]
theorem allP_len {S : List Topic} (h : ∀ x ∈ S, topicOk x) : ((allP S).length : Int) = sumN S S.length := by
  unfold allP sumN
  rw [List.take_length]
  induction S with
  | nil => rfl
  | cons x S ih =>
    rw [List.flatMap_cons, List.length_append, List.map_cons, List.sum_cons, ← ih (fun y hy => h y (List.mem_cons_of_mem _ hy)), strip_length]
    have := (h x List.mem_cons_self).2
    omega
theorem strip_at (t : ByteArray) {n i : Nat} (h : i < (strip t 0 n).length) : (strip t 0 n)[i] = ⟨t, (i : Int)⟩ := by
  have hj : i < n := by rw [strip_length] at h; exact h
  have e : (strip t 0 n)[i]? = some ⟨t, (i : Int)⟩ := by
    unfold strip
    rw [List.getElem?_map, List.getElem?_range' hj]
    simp
  rw [List.getElem?_eq_getElem h] at e
  exact Option.some.inj e
theorem allP_mem {S : List Topic} {p : Part} (h : p ∈ allP S) : ∃ x ∈ S, p.topic = x.name ∧ 0 ≤ p.n ∧ p.n < x.n := by
  obtain ⟨x, hx, hp⟩ := List.mem_flatMap.1 h
  obtain ⟨i, hi, rfl⟩ := List.getElem_of_mem hp
  refine ⟨x, hx, ?_⟩
  rw [strip_at _ hi]
  rw [strip_length] at hi
  exact ⟨rfl, by show (0 : Int) ≤ (i : Int); omega, by show (i : Int) < x.n; omega⟩
theorem allP_has {S : List Topic} (hs : okC S) {p : Part} (h : p ∈ allP S) : 0 ≤ p.n ∧ p.n < nC S p.topic := by
  obtain ⟨x, hx, h1, h2, h3⟩ := allP_mem h
  refine ⟨h2, ?_⟩
  rw [h1, nC_some (name := x.name) (x := x) (show eGet S x.name = some x from eGet_mem (srt_nodup hs.srt) hx)]
  exact h3
/-- what stands behind what -/
def nextP (a b : Part) : Prop := slt a.topic b.topic ∨ (a.topic = b.topic ∧ b.n = a.n + 1)
theorem allP_next : ∀ {S : List Topic} (_ : S.Pairwise bfr) (i : Nat) (h : i + 1 < (allP S).length), nextP ((allP S)[i]'(by omega)) (allP S)[i + 1]
  | [], _, i, h => by simp [allP] at h
  | x :: S, hs, i, h => by
    have hp := List.pairwise_cons.1 hs
    have e : allP (x :: S) = strip x.name 0 x.n.toNat ++ allP S := List.flatMap_cons ..
    have hl : (strip x.name 0 x.n.toNat).length = x.n.toNat := strip_length ..
    have h' : i + 1 < (strip x.name 0 x.n.toNat ++ allP S).length := by rw [← e]; exact h
    have key : nextP ((strip x.name 0 x.n.toNat ++ allP S)[i]'(by omega)) ((strip x.name 0 x.n.toNat ++ allP S)[i + 1]'h') := by
      rw [List.length_append] at h'
      rcases Nat.lt_trichotomy (i + 1) (strip x.name 0 x.n.toNat).length with h1 | h1 | h1
      · rw [List.getElem_append_left (by omega), List.getElem_append_left h1, strip_at, strip_at]
        exact .inr ⟨rfl, by show ((i + 1 : Nat) : Int) = (i : Int) + 1; omega⟩
      · rw [List.getElem_append_left (by omega), List.getElem_append_right (by omega), strip_at]
        left
        obtain ⟨y, hy, h2, _⟩ := allP_mem (List.getElem_mem (l := allP S) (n := i + 1 - (strip x.name 0 x.n.toNat).length) (by omega))
        show slt x.name _
        rw [h2]
        exact hp.1 y hy
      · rw [List.getElem_append_right (by omega), List.getElem_append_right (by omega)]
        have := allP_next hp.2 (i - (strip x.name 0 x.n.toNat).length) (by omega)
        have e2 : i - (strip x.name 0 x.n.toNat).length + 1 = i + 1 - (strip x.name 0 x.n.toNat).length := by omega
        simp only [e2] at this
        exact this
    simp only [e]
    exact key
theorem parts_one {S : List Topic} (hs : okC S) (nm : ByteArray) : partsC S [nm] = strip nm 0 (nC S nm).toNat := by
  have hn := srt_nodup hs.srt
  have hs2 := hs.srt
  clear hs
  induction S with
  | nil => rfl
  | cons x S ih =>
    have hp := List.pairwise_cons.1 hs2
    have hn2 := (List.nodup_cons.1 (show (key x :: S.map key).Nodup from hn))
    have e : partsC (x :: S) [nm] = prS [nm] x.name x.n.toNat ++ partsC S [nm] := List.flatMap_cons ..
    rw [e, ih hn2.2 hp.2]
    by_cases h : x.name = nm
    · have h0 : eGet S nm = none := by
        rw [eGet_none]
        intro y hy hk
        exact hn2.1 (List.mem_map.2 ⟨y, hy, hk.trans h.symm⟩)
      have h1 : nC S nm = 0 := by unfold nC; rw [h0]; rfl
      have h2 : nC (x :: S) nm = x.n := nC_some (eGet_yes h)
      rw [h1, h2, ← h]
      unfold prS
      rw [if_pos (by simp)]
      show _ ++ strip x.name 0 0 = _
      rw [strip_zero, List.append_nil]
    · have h2 : nC (x :: S) nm = nC S nm := by unfold nC; rw [eGet_no h]
      rw [h2]
      have h3 : prS [nm] x.name x.n.toNat = [] := prS_no (by simpa using h) _
      rw [h3]
      rfl
theorem nC_nn {S : List Topic} (hs : okC S) (nm : ByteArray) : 0 ≤ nC S nm := by
  unfold nC
  cases h : eGet S nm with
  | none => exact Int.le_refl 0
  | some x => have := (hs.may x (eGet_some h).1).2.1; show 0 ≤ x.n; omega
theorem parts_nil (S : List Topic) : partsC S [] = [] := by
  unfold partsC
  rw [List.flatMap_eq_nil_iff]
  intro x _
  exact prS_no (by simp) _
end Go.Proofs.Ytdcckaamepilcaa
