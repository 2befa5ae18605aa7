/-
  Plan3: walks and laws, written by gen/gen.py out of gen/thy/Plan3.py.
-/
import Derived.Test.YtlkpgeopcdhgjaaPWhose
set_option linter.unusedVariables false
namespace Go.Proofs.Ytlkpgeopcdhgjaa
open Go Go.Eng Go.RowKit
noncomputable def nxt (m : List Mem) (t : ByteArray) (place : Nat) : Option Nat := ((List.range m.length).map fun k => (place + k) % m.length).find? fun i => decide (wantsAt m i t)
noncomputable def stepR (m : List Mem) (t : ByteArray) (s : List (List Part) × Nat) (n : Nat) : List (List Part) × Nat := match nxt m t s.2 with
  | none => s
  | some i => (s.1.modify i (· ++ [(⟨t, (n : Int)⟩ : Part)]), i + 1)
noncomputable def topR (m : List Mem) (s : List (List Part) × Nat) (t : Topic) (n : Nat) : List (List Part) × Nat := (List.range n).foldl (stepR m t.name) s
noncomputable def allR (m : List Mem) (l : List Topic) : List (List Part) × Nat := l.foldl (fun s t => topR m s t t.n.toNat) (List.replicate m.length [], 0)
noncomputable def robinG (l : List Topic) (m : List Mem) : List (List Part) := (allR m l).1
theorem topR_zero (m : List Mem) (s : List (List Part) × Nat) (t : Topic) : topR m s t 0 = s := rfl
theorem topR_succ (m : List Mem) (s : List (List Part) × Nat) (t : Topic) (n : Nat) : topR m s t (n + 1) = stepR m t.name (topR m s t n) n := by
  simp [topR, List.range_succ]
theorem allR_snoc (m : List Mem) (l : List Topic) (j : Nat) (hj : j < l.length) : allR m (l.take (j + 1)) = topR m (allR m (l.take j)) l[j] l[j].n.toNat := by
  unfold allR
  rw [List.take_succ_eq_append_getElem hj, List.foldl_append]
  rfl
theorem nxt_some {m : List Mem} {t : ByteArray} {p k : Nat} (hk : k < m.length) (h : ∀ n, n < k → ¬ wantsAt m ((p + n) % m.length) t) (hw : wantsAt m ((p + k) % m.length) t) : nxt m t p = some ((p + k) % m.length) := by
  unfold nxt
  rw [List.find?_eq_some_iff_getElem]
  refine ⟨by simpa using hw, k, by simpa using hk, by simp, fun n hn => ?_⟩
  simpa using h n hn
theorem nxt_no {m : List Mem} {t : ByteArray} {p : Nat} (h : ∀ n, n < m.length → ¬ wantsAt m ((p + n) % m.length) t) : nxt m t p = none := by
  unfold nxt
  rw [List.find?_eq_none]
  intro x hx
  obtain ⟨n, hn, rfl⟩ := List.mem_map.1 hx
  simpa using h n (by simpa using hn)
theorem nxt_mod (m : List Mem) (t : ByteArray) (p : Nat) : nxt m t (p % m.length) = nxt m t p := by
  unfold nxt
  congr 1
  apply List.map_congr_left
  intro k _
  rw [Nat.mod_add_mod]
theorem nxt_wants {m : List Mem} {t : ByteArray} {p i : Nat} (h : nxt m t p = some i) : wantsAt m i t := by
  have := List.find?_some h
  simpa using this
theorem nxt_none_all {m : List Mem} {t : ByteArray} {p : Nat} (h : nxt m t p = none) (i : Nat) : ¬ wantsAt m i t := by
  intro hw
  have hi := hw.1
  have hp := Nat.mod_lt p (show 0 < m.length by omega)
  unfold nxt at h
  rw [List.find?_eq_none] at h
  have hk : (i + (m.length - p % m.length)) % m.length < m.length := Nat.mod_lt _ (by omega)
  have h1 := h i (by
    refine List.mem_map.2 ⟨(i + (m.length - p % m.length)) % m.length, by simpa using hk, ?_⟩
    rw [Nat.add_mod_mod, ← Nat.mod_add_mod, show p % m.length + (i + (m.length - p % m.length)) = i + m.length by omega, Nat.add_mod_right, Nat.mod_eq_of_lt hi])
  simp [hw] at h1
theorem nxt_none_of {m : List Mem} {t : ByteArray} (h : ∀ i, ¬ wantsAt m i t) (p : Nat) : nxt m t p = none := nxt_no fun n _ => h _
theorem stepR_none {m : List Mem} {t : ByteArray} {s : List (List Part) × Nat} (n : Nat) (h : nxt m t s.2 = none) : stepR m t s n = s := by
  unfold stepR; rw [h]
theorem stepR_some {m : List Mem} {t : ByteArray} {s : List (List Part) × Nat} (n : Nat) {i : Nat} (h : nxt m t s.2 = some i) : stepR m t s n = (s.1.modify i (· ++ [(⟨t, (n : Int)⟩ : Part)]), i + 1) := by
  unfold stepR; rw [h]
theorem topR_none {m : List Mem} {t : Topic} (h : ∀ i, ¬ wantsAt m i t.name) (s : List (List Part) × Nat) : ∀ (n : Nat), topR m s t n = s
  | 0 => rfl
  | n + 1 => by rw [topR_succ, topR_none h s n]; exact stepR_none n (nxt_none_of h _)
theorem stepR_length (m : List Mem) (t : ByteArray) (s : List (List Part) × Nat) (n : Nat) : (stepR m t s n).1.length = s.1.length := by
  cases h : nxt m t s.2 with
  | none => rw [stepR_none n h]
  | some i => rw [stepR_some n h]; simp
theorem topR_length (m : List Mem) (s : List (List Part) × Nat) (t : Topic) : ∀ (n : Nat), (topR m s t n).1.length = s.1.length
  | 0 => rfl
  | n + 1 => by rw [topR_succ, stepR_length, topR_length m s t n]
theorem allR_length (m : List Mem) (l : List Topic) : (allR m l).1.length = m.length := by
  have : ∀ (l : List Topic) (s : List (List Part) × Nat), (l.foldl (fun s t => topR m s t t.n.toNat) s).1.length = s.1.length := by
    intro l
    induction l with
    | nil => intro s; rfl
    | cons t l ih => intro s; rw [List.foldl_cons, ih, topR_length]
  unfold allR
  rw [this]; simp
theorem ahead_all_zero {m : List Mem} {t : ByteArray} (h : ahead m m.length t = 0) (i : Nat) : ¬ wantsAt m i t := by
  rintro ⟨hi, hw⟩
  have := ahead_lt hi hw
  omega
theorem ahead_pos {m : List Mem} {t : ByteArray} (h : ahead m m.length t ≠ 0) : ∃ i, wantsAt m i t := by
  apply Classical.byContradiction
  intro hn
  apply h
  have : ∀ n, n ≤ m.length → ahead m n t = 0 := by
    intro n
    induction n with
    | zero => intro _; exact ahead_zero _ _
    | succ n ih => intro hl; rw [ahead_no (by omega) (fun hw => hn ⟨n, by omega, hw⟩)]; exact ih (by omega)
  exact this _ (Nat.le_refl _)
/-- no row is longer than all that was given -/
theorem modify_le (g : List (List Part)) (i : Nat) (x : Part) (b : Nat) (h : ∀ r ∈ g, r.length ≤ b) : ∀ r ∈ g.modify i (· ++ [x]), r.length ≤ b + 1 := by
  intro r hr
  obtain ⟨k, hk, rfl⟩ := List.getElem_of_mem hr
  simp only [List.length_modify] at hk
  rw [List.getElem_modify]
  have := h g[k] (List.getElem_mem hk)
  split
  · rw [List.length_append]; simp; omega
  · omega
theorem stepR_le (m : List Mem) (t : ByteArray) (s : List (List Part) × Nat) (n b : Nat) (h : ∀ r ∈ s.1, r.length ≤ b) : ∀ r ∈ (stepR m t s n).1, r.length ≤ b + 1 := by
  cases hn : nxt m t s.2 with
  | none => rw [stepR_none n hn]; intro r hr; have := h r hr; omega
  | some i => rw [stepR_some n hn]; exact modify_le _ _ _ _ h
theorem topR_le (m : List Mem) (s : List (List Part) × Nat) (t : Topic) (b : Nat) (h : ∀ r ∈ s.1, r.length ≤ b) : ∀ (n : Nat), ∀ r ∈ (topR m s t n).1, r.length ≤ b + n
  | 0 => h
  | n + 1 => by rw [topR_succ]; exact stepR_le m _ _ _ _ (topR_le m s t b h n)
theorem allR_le (m : List Mem) : ∀ (l : List Topic) (_ : ∀ t ∈ l, t.n ≤ 8), ∀ r ∈ (allR m l).1, r.length ≤ 8 * l.length := by
  have : ∀ (l : List Topic) (_ : ∀ t ∈ l, t.n ≤ 8) (s : List (List Part) × Nat) (b : Nat), (∀ r ∈ s.1, r.length ≤ b) → ∀ r ∈ (l.foldl (fun s t => topR m s t t.n.toNat) s).1, r.length ≤ b + 8 * l.length := by
    intro l
    induction l with
    | nil => intro _ s b h; simpa using h
    | cons t l ih =>
      intro ht s b h r hr
      have h1 := ih (fun t h => ht t (by simp [h])) (topR m s t t.n.toNat) (b + t.n.toNat) (topR_le m s t b h _) r hr
      have h2 := ht t (by simp)
      rw [List.length_cons]
      omega
  intro l ht r hr
  have := this l ht (List.replicate m.length [], 0) 0 (fun r hr => by have := (List.mem_replicate.1 hr).2; subst this; simp) r hr
  omega
end Go.Proofs.Ytlkpgeopcdhgjaa
